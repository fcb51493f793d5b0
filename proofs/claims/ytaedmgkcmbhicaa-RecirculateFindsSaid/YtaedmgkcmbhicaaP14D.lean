/- The ways of air; what is spread. -/
import Derived.Test.YtaedmgkcmbhicaaP14C
namespace Go.L
open Go Go.Aml

abbrev Arc := T_recirculate_arc
def rd0 (m : T_Mine) (i : Nat) : T_Road := (m.Roads[i]?).getD ⟨0, 0, 0, 0, false, true, ⟨0, 0⟩, ⟨0, 0⟩⟩
def sp0 (f : List T_Span) (i : Nat) : T_Span := (f[i]?).getD ⟨0, 0⟩
def can (m : T_Mine) (f : List T_Span) (i : Nat) (d : Bool) : Bool := bif (rd0 m i).Closed then false else bif d then decide ((sp0 f i).Low < 0) else decide (0 < (sp0 f i).High)
def arcD (m : T_Mine) (i : Nat) (d : Bool) : Arc := bif d then ⟨i, (rd0 m i).To, (rd0 m i).From⟩ else ⟨i, (rd0 m i).From, (rd0 m i).To⟩
def arcsAt (m : T_Mine) (f : List T_Span) (i : Nat) : List Arc := (bif can m f i false then [arcD m i false] else []) ++ (bif can m f i true then [arcD m i true] else [])
def arcsF (m : T_Mine) (f : List T_Span) : List Arc := (List.range m.Roads.length).flatMap (arcsAt m f)
/-- Right: a right mine, and a span for each road. -/
def rtB (m : T_Mine) (f : List T_Span) : Bool := decide (chkM m = 0) && decide (f.length = m.Roads.length)
def Sz (m : T_Mine) : Prop := m.Roads.length ≤ 1000000000 ∧ m.Places.length ≤ 1000000000

theorem arcsAt_len (m : T_Mine) (f : List T_Span) (i : Nat) : (arcsAt m f i).length ≤ 2 := by
  unfold arcsAt
  cases can m f i false <;> cases can m f i true <;> simp
theorem rd0_get {m : T_Mine} {i : Nat} (h : i < m.Roads.length) : m.Roads[i]? = some (rd0 m i) := by
  unfold rd0
  rw [List.getElem?_eq_getElem h]
  rfl
theorem sp0_get {f : List T_Span} {i : Nat} (h : i < f.length) : f[i]? = some (sp0 f i) := by
  unfold sp0
  rw [List.getElem?_eq_getElem h]
  rfl
theorem range_get {n i x : Nat} (h : (List.range n)[i]? = some x) : x = i ∧ i < n := by
  obtain ⟨h1, h2⟩ := List.getElem?_eq_some_iff.1 h
  rw [List.getElem_range] at h2
  rw [List.length_range] at h1
  exact ⟨h2.symm, h1⟩
theorem arcs_eq (m : T_Mine) (f : List T_Span) (hs : Sz m) : F_recirculate_arcs m f = some (if rtB m f then (arcsF m f, true) else ([], false)) := by
  unfold F_recirculate_arcs F_plan_Valid
  rw [(pcheck_eq m hs).1, bind_some, bind_some]
  unfold rtB
  by_cases hc : chkM m = 0
  · rw [decide_eq_true hc, Bool.not_true, cond_false, bind_some, Bool.true_and]
    have hR := rt_of hc
    by_cases hl : f.length = m.Roads.length
    · rw [bif_neg (by omega), decide_eq_true hl, if_pos rfl]
      have := coll (List.range m.Roads.length) (arcsAt m f) (g := F_recirculate_arcs_L1 m f) (fun x _ => arcsAt_len m f x) (fun i x out hx ho => ?_) (fun out => by unfold F_recirculate_arcs_L1; rw [List.length_range, bif_neg (by dsimp only; omega)])
      · rw [this.1, bind_some]
        rfl
      · obtain ⟨rfl, hi⟩ := range_get hx
        have h1 := hR.r1
        unfold F_recirculate_arcs_L1 arcsAt can arcD
        dsimp only
        rw [bif_pos (by omega), getI_nat, rd0_get hi, bind_some, getI_nat, sp0_get (by omega)]
        cases (rd0 m x).Closed with
        | true => rw [cond_true, bind_some, w64 (by omega) (by omega)]; simp
        | false =>
          rw [cond_false, bind_some]
          by_cases q1 : 0 < (sp0 f x).High
          · rw [bif_pos q1, appI_ok (by simp; omega), bind_some, bind_some, bind_some]
            by_cases q2 : (sp0 f x).Low < 0
            · rw [bif_pos q2, appI_ok (by simp; omega), bind_some, bind_some, w64 (by omega) (by omega)]
              simp [q1, q2]
            · rw [bif_neg q2, bind_some, w64 (by omega) (by omega)]
              simp [q1, q2]
          · rw [bif_neg q1, bind_some, bind_some]
            by_cases q2 : (sp0 f x).Low < 0
            · rw [bif_pos q2, appI_ok (by simp; omega), bind_some, bind_some, w64 (by omega) (by omega)]
              simp [q1, q2]
            · rw [bif_neg q2, bind_some, w64 (by omega) (by omega)]
              simp [q1, q2]
    · rw [bif_pos (by omega), decide_eq_false hl]
      rfl
  · rw [decide_eq_false hc]
    rfl
theorem right_eq (m : T_Mine) (f : List T_Span) (hs : Sz m) : F_ref14_right m f = some (rtB m f) := by
  unfold F_ref14_right rtB
  rw [(pcheck_eq m hs).2, bind_some, and_bif rfl]
  congr 1
  by_cases h1 : chkM m = 0
  · by_cases h2 : f.length = m.Roads.length
    · rw [decide_eq_true h1, decide_eq_true h2]
      exact decide_eq_true ⟨h1, by omega⟩
    · rw [decide_eq_false h2, Bool.and_false]
      exact decide_eq_false fun h => h2 (by omega)
  · rw [decide_eq_false h1]
    exact decide_eq_false fun h => h1 h.1
theorem rtB_is {m : T_Mine} {f : List T_Span} (h : rtB m f = true) : Rt m ∧ f.length = m.Roads.length := by
  unfold rtB at h
  simp only [Bool.and_eq_true, decide_eq_true_eq] at h
  exact ⟨rt_of h.1, h.2⟩
/-- An arc of a mine with n places. -/
def ArcOk (n : Nat) (a : Arc) : Prop := 0 ≤ a.from_ ∧ a.from_ < (n : Int) ∧ 0 ≤ a.to_ ∧ a.to_ < (n : Int)
theorem arcD_ok {m : T_Mine} (h : Rt m) {i : Nat} (hi : i < m.Roads.length) (d : Bool) : ArcOk m.Places.length (arcD m i d) := by
  obtain ⟨r1, r2, r3, r4⟩ := h.rd (rd0 m i) (List.mem_of_getElem? (rd0_get hi))
  cases d
  · exact ⟨r1, r2, r3, r4⟩
  · exact ⟨r3, r4, r1, r2⟩
theorem arcsAt_mem {m : T_Mine} {f : List T_Span} {i : Nat} {a : Arc} : a ∈ arcsAt m f i ↔ ∃ d, can m f i d = true ∧ a = arcD m i d := by
  unfold arcsAt
  rw [List.mem_append]
  constructor
  · rintro (h | h)
    · cases e : can m f i false with
      | true => rw [e] at h; exact ⟨false, e, by simpa using h⟩
      | false => rw [e] at h; simp at h
    · cases e : can m f i true with
      | true => rw [e] at h; exact ⟨true, e, by simpa using h⟩
      | false => rw [e] at h; simp at h
  · rintro ⟨d, h, rfl⟩
    cases d
    · exact .inl (by rw [h]; simp)
    · exact .inr (by rw [h]; simp)
theorem arcsF_mem {m : T_Mine} {f : List T_Span} {a : Arc} : a ∈ arcsF m f ↔ ∃ i d, i < m.Roads.length ∧ can m f i d = true ∧ a = arcD m i d := by
  unfold arcsF
  rw [List.mem_flatMap]
  constructor
  · rintro ⟨i, hi, h⟩
    obtain ⟨d, h1, h2⟩ := arcsAt_mem.1 h
    exact ⟨i, d, List.mem_range.1 hi, h1, h2⟩
  · rintro ⟨i, d, h1, h2, h3⟩
    exact ⟨i, List.mem_range.2 h1, arcsAt_mem.2 ⟨d, h2, h3⟩⟩
theorem arcsF_ok {m : T_Mine} {f : List T_Span} (h : Rt m) : ∀ a ∈ arcsF m f, ArcOk m.Places.length a := fun a ha => by
  obtain ⟨i, d, h1, _, rfl⟩ := arcsF_mem.1 ha
  exact arcD_ok h h1 d
theorem arcsF_len {m : T_Mine} {f : List T_Span} : (arcsF m f).length ≤ 2 * m.Roads.length := by
  unfold arcsF
  have : ∀ l : List Nat, (l.flatMap (arcsAt m f)).length ≤ 2 * l.length := by
    intro l
    induction l with
    | nil => simp
    | cons x l ih =>
      have := arcsAt_len m f x
      rw [List.flatMap_cons, List.length_append, List.length_cons]
      omega
  have := this (List.range m.Roads.length)
  rwa [List.length_range] at this

/-! ### Ways -/
def wayOf (a : Arc) : A2_Int := ⟨a.from_, a.to_⟩
def waysF (m : T_Mine) (f : List T_Span) : List A2_Int := if rtB m f then (arcsF m f).map wayOf else []
theorem flatMap_one {α β : Type} (f : α → β) (l : List α) : l.flatMap (fun x => [f x]) = l.map f := by
  induction l with
  | nil => rfl
  | cons x l ih => rw [List.flatMap_cons, ih]; rfl
theorem ways_eq (m : T_Mine) (f : List T_Span) (hs : Sz m) : F_recirculate_Ways m f = some (waysF m f) := by
  unfold F_recirculate_Ways waysF
  rw [arcs_eq m f hs, bind_some]
  have key : ∀ (l : List Arc) (b : Bool), l.length ≤ 1000000 → loopC (F_recirculate_Ways_L1 (l, b)) (0, ([] : List A2_Int)) = some (l.map wayOf) := fun l b hl => by
    have := coll l (fun a => [wayOf a]) (g := F_recirculate_Ways_L1 (l, b)) (fun _ _ => by simp) (fun i x out hx ho => ?_) (fun out => by unfold F_recirculate_Ways_L1; rw [bif_neg (by dsimp only; omega)])
    · rw [this.1, flatMap_one]
    · have hi := (List.getElem?_eq_some_iff.1 hx).1
      unfold F_recirculate_Ways_L1
      dsimp only
      rw [bif_pos (by omega), getI_nat, hx, bind_some, appI_ok (by simp; omega), bind_some, w64 (by omega) (by omega)]
      rfl
  by_cases h : rtB m f = true
  · have h1 := (rtB_is h).1.r1
    have h2 := arcsF_len (m := m) (f := f)
    rw [if_pos h, if_pos h, key _ _ (by omega), bind_some]
  · rw [if_neg h, if_neg h, key _ _ (by simp), bind_some]
    rfl
theorem can_eq {m : T_Mine} {f : List T_Span} {i : Nat} (hi : i < m.Roads.length) (hl : f.length = m.Roads.length) (d : Bool) : F_ref14_Can m f i d = some (can m f i d) := by
  unfold F_ref14_Can can
  rw [getI_nat, rd0_get hi, bind_some, getI_nat, sp0_get (by omega)]
  cases (rd0 m i).Closed <;> cases d <;> rfl
theorem ends_eq {m : T_Mine} {i : Nat} (hi : i < m.Roads.length) (d : Bool) : F_ref14_Ends m i d = some ((arcD m i d).from_, (arcD m i d).to_) := by
  unfold F_ref14_Ends arcD
  rw [getI_nat, rd0_get hi]
  cases d <;> rfl
theorem dec01 : decide ((0 : Int) = 1) = false := by decide
theorem dec11 : decide ((1 : Int) = 1) = true := by decide
theorem rways_eq (m : T_Mine) (f : List T_Span) (hs : Sz m) : F_ref14_Ways m f = some (waysF m f) := by
  unfold F_ref14_Ways waysF
  rw [right_eq m f hs, bind_some]
  by_cases h : rtB m f = true
  · obtain ⟨hR, hl⟩ := rtB_is h
    have h1 := hR.r1
    rw [if_pos h, h, Bool.not_true, cond_false]
    have := coll (List.range m.Roads.length) (fun i => (arcsAt m f i).map wayOf) (g := F_ref14_Ways_L1 m f) (fun x _ => by rw [List.length_map]; exact arcsAt_len m f x) (fun i x out hx ho => ?_) (fun out => by unfold F_ref14_Ways_L1; rw [List.length_range, bif_neg (by dsimp only; omega)])
    · rw [this.1, bind_some]
      unfold arcsF
      rw [List.map_flatMap]
    · obtain ⟨rfl, hi⟩ := range_get hx
      unfold F_ref14_Ways_L1
      dsimp only
      rw [bif_pos (by omega)]
      have r0 : ∀ out : List A2_Int, out.length ≤ 2 * x → F_ref14_Ways_L2 m f ((x : Int), out) (0, out) = some (.inl (1, out ++ (bif can m f x false then [wayOf (arcD m x false)] else []))) := fun out ho => by
        unfold F_ref14_Ways_L2
        dsimp only
        rw [bif_pos (by decide), dec01, can_eq hi hl, bind_some]
        cases can m f x false with
        | true => rw [cond_true, ends_eq hi, bind_some, appI_ok (by simp; omega), bind_some, bind_some, w64 (by decide) (by decide)]; rfl
        | false => rw [cond_false, bind_some, w64 (by decide) (by decide)]; simp
      have r1 : ∀ o1 out : List A2_Int, out.length ≤ 2 * x + 1 → F_ref14_Ways_L2 m f ((x : Int), o1) (1, out) = some (.inl (2, out ++ (bif can m f x true then [wayOf (arcD m x true)] else []))) := fun o1 out ho => by
        unfold F_ref14_Ways_L2
        dsimp only
        rw [bif_pos (by decide), dec11, can_eq hi hl, bind_some]
        cases can m f x true with
        | true => rw [cond_true, ends_eq hi, bind_some, appI_ok (by simp; omega), bind_some, bind_some, w64 (by decide) (by decide)]; rfl
        | false => rw [cond_false, bind_some, w64 (by decide) (by decide)]; simp
      have r2 : ∀ o1 out : List A2_Int, F_ref14_Ways_L2 m f ((x : Int), o1) (2, out) = some (.inr out) := fun o1 out => by
        unfold F_ref14_Ways_L2
        rw [bif_neg (by show ¬ ((2 : Int) < 2); decide)]
      rw [loopC_inl (r0 out ho), loopC_inl (r1 _ _ (by rw [List.length_append]; cases can m f x false <;> simp <;> omega)), loopC_inr (r2 _ _), bind_some, w64 (by omega) (by omega)]
      unfold arcsAt
      rw [List.map_append, List.append_assoc]
      cases can m f x false <;> cases can m f x true <;> rfl
  · have h' : rtB m f = false := by simpa using h
    rw [if_neg h, h']
    rfl
end Go.L
