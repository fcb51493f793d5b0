/- Circles of air: program and reference agree; RecirculateWays. -/
import Derived.Test.YtaedmgkcmbhicaaP14E
namespace Go.L
open Go Go.Aml

def seed (n : Nat) (k : Int) : List Bool := (List.replicate n false).set k.toNat true
def onArc (m : T_Mine) (l : List Arc) (a : Arc) : Bool := !sf m a.from_ && (!sf m a.to_ && bt (spreadC m a.road l (seed m.Places.length a.to_)) a.from_)
def circ (m : T_Mine) (l : List Arc) : List Arc := l.flatMap (fun a => bif onArc m l a then [a] else [])
def ddp (out : List Int) (r : Int) : List Int := if out.getLast? = some r then out else out ++ [r]
def onRd (m : T_Mine) (f : List T_Span) (i : Nat) : Bool := (arcsAt m f i).any (onArc m (arcsF m f))
def circlesF (m : T_Mine) (f : List T_Span) : List Int := if rtB m f then ((List.range m.Roads.length).filter (onRd m f)).map (fun i : Nat => (i : Int)) else []

theorem seed_len (n : Nat) (k : Int) : (seed n k).length = n := by simp [seed]
theorem spreadC_len {m : T_Mine} {w : Int} {l : List Arc} {o : List Bool} : (spreadC m w l o).length = o.length := by
  unfold spreadC
  have h1 : ∀ (l : List Arc) (o : List Bool), (pass m w l o).length = o.length := by
    intro l
    induction l with
    | nil => intro o; rfl
    | cons a l ih => intro o; exact (ih _).trans st1_len
  generalize o.length + 1 = n
  induction n generalizing o with
  | zero => rfl
  | succ n ih => exact (ih (o := pass m w l o)).trans (h1 l o)
theorem surf2 {m : T_Mine} {a : Arc} (ha : ArcOk m.Places.length a) {x y : Option Bool} : ((getI m.Places a.from_).bind fun x8 => bif x8.Surface then some true else (getI m.Places a.to_).bind fun x11 => some x11.Surface) = some (sf m a.from_ || sf m a.to_) := by
  obtain ⟨a1, a2, a3, a4⟩ := ha
  obtain ⟨p, hp1, hp2⟩ := sf_get (m := m) a1 a2
  obtain ⟨q, hq1, hq2⟩ := sf_get (m := m) a3 a4
  rw [hp1, bind_some, hp2, hq1, bind_some, hq2]
  cases sf m a.from_ <;> rfl
theorem circ_eq {m : T_Mine} {l : List Arc} (hP : m.Places.length ≤ 64) (hl : ∀ a ∈ l, ArcOk m.Places.length a) (hn : l.length ≤ 1000000) : F_recirculate_circles m l = some (circ m l) := by
  unfold F_recirculate_circles circ
  have := coll l (fun a => bif onArc m l a then [a] else []) (g := F_recirculate_circles_L1 m l) (fun a _ => by cases onArc m l a <;> simp) (fun i a out hx ho => ?_) (fun out => by unfold F_recirculate_circles_L1; rw [bif_neg (by dsimp only; omega)])
  · rw [this.1, bind_some]
  · have hi := (List.getElem?_eq_some_iff.1 hx).1
    have ha := hl a (List.mem_of_getElem? hx)
    have hb := ha
    obtain ⟨a1, a2, a3, a4⟩ := hb
    unfold F_recirculate_circles_L1 onArc
    dsimp only
    rw [bif_pos (by omega), getI_nat, hx, bind_some, surf2 ha (x := none) (y := none), bind_some, w64 (by omega) (by omega), makI_ok (by omega) (by omega), bind_some, Int.toNat_natCast]
    obtain ⟨v, hv⟩ : ∃ v, getI (List.replicate m.Places.length false) a.to_ = some v := ⟨_, bt_get a3 (by simpa using a4)⟩
    rw [hv, bind_some, spread_eq hP (by simp) hl hn, bind_some]
    have hg : getI (spreadC m a.road l ((List.replicate m.Places.length false).set a.to_.toNat true)) a.from_ = some (bt (spreadC m a.road l (seed m.Places.length a.to_)) a.from_) := bt_get a1 (by rw [spreadC_len]; simpa using a2)
    rw [hg, bind_some, appI_ok (by simp; omega), bind_some]
    cases sf m a.from_ <;> cases sf m a.to_ <;> cases bt (spreadC m a.road l (seed m.Places.length a.to_)) a.from_ <;> simp [bind_some]
theorem circ_sub {m : T_Mine} {l : List Arc} : ∀ a ∈ circ m l, a ∈ l ∧ onArc m l a = true := fun a ha => by
  unfold circ at ha
  obtain ⟨b, hb, h⟩ := List.mem_flatMap.1 ha
  cases e : onArc m l b with
  | true =>
    rw [e] at h
    have : a = b := by simpa using h
    subst this
    exact ⟨hb, e⟩
  | false => rw [e] at h; simp at h
theorem circ_len {m : T_Mine} {l : List Arc} : (circ m l).length ≤ l.length := by
  unfold circ
  generalize hq : onArc m l = q
  clear hq
  induction l with
  | nil => simp
  | cons a l ih =>
    rw [List.flatMap_cons, List.length_append, List.length_cons]
    cases q a
    · rw [cond_false, List.length_nil]; omega
    · rw [cond_true, List.length_singleton]; omega
theorem dd_same {i : Int} : ∀ (as : List Arc) (out : List Int), (∀ a ∈ as, a.road = i) → out.getLast? = some i → as.foldl (fun o a => ddp o a.road) out = out
  | [], _, _, _ => rfl
  | a :: as, out, h, ho => by
    rw [List.foldl_cons]
    have : ddp out a.road = out := by unfold ddp; rw [h a (List.mem_cons_self ..), if_pos ho]
    rw [this]
    exact dd_same as out (fun x hx => h x (List.mem_cons_of_mem _ hx)) ho
theorem dd_at {q : Arc → Bool} {i : Int} : ∀ (as : List Arc) (out : List Int), (∀ a ∈ as, a.road = i) → out.getLast? ≠ some i → (as.flatMap (fun a => bif q a then [a] else [])).foldl (fun o a => ddp o a.road) out = if as.any q then out ++ [i] else out
  | [], _, _, _ => rfl
  | a :: as, out, h, ho => by
    rw [List.flatMap_cons, List.any_cons]
    cases hq : q a with
    | false =>
      rw [cond_false, List.nil_append, Bool.false_or]
      exact dd_at as out (fun x hx => h x (List.mem_cons_of_mem _ hx)) ho
    | true =>
      rw [cond_true, List.singleton_append, List.foldl_cons, Bool.true_or, if_pos rfl]
      have : ddp out a.road = out ++ [i] := by unfold ddp; rw [h a (List.mem_cons_self ..), if_neg ho]
      rw [this]
      refine dd_same (i := i) _ _ (fun x hx => ?_) (by simp)
      obtain ⟨b, hb, h'⟩ := List.mem_flatMap.1 hx
      cases e : q b with
      | true =>
        rw [e] at h'
        have : x = b := by simpa using h'
        rw [this]
        exact h b (List.mem_cons_of_mem _ hb)
      | false => rw [e] at h'; simp at h'
theorem arcsAt_road {m : T_Mine} {f : List T_Span} {i : Nat} : ∀ a ∈ arcsAt m f i, a.road = (i : Int) := fun a ha => by
  obtain ⟨d, _, rfl⟩ := arcsAt_mem.1 ha
  cases d <;> rfl
theorem dd_all {m : T_Mine} {f : List T_Span} (q : Arc → Bool) : ∀ n : Nat, ((List.range n).flatMap (fun i => (arcsAt m f i).flatMap (fun a => bif q a then [a] else []))).foldl (fun o a => ddp o a.road) [] = ((List.range n).filter (fun i => (arcsAt m f i).any q)).map (fun i : Nat => (i : Int))
  | 0 => rfl
  | n + 1 => by
    rw [List.range_succ, List.flatMap_append, List.foldl_append, dd_all q n, List.filter_append, List.map_append, List.flatMap_singleton, dd_at _ _ arcsAt_road]
    · cases h : (arcsAt m f n).any q
      · simp [h]
      · simp [h]
    · intro h
      have hm := List.mem_of_getLast? h
      obtain ⟨j, hj, he⟩ := List.mem_map.1 hm
      have := List.mem_range.1 (List.mem_filter.1 hj).1
      omega
theorem circles_eq (m : T_Mine) (f : List T_Span) (hs : Sz m) : F_recirculate_Circles m f = some (circlesF m f) := by
  unfold F_recirculate_Circles
  rw [arcs_eq m f hs, bind_some]
  have key : ∀ (l : List Arc), l.length ≤ 1000000 → loopC (F_recirculate_Circles_L1 l) (0, ([] : List Int)) = some (l.foldl (fun o a => ddp o a.road) []) := fun l hl => by
    have := over l (fun (o : List Int) a => ddp o a.road) (fun i o => ((i, o) : Int × List Int)) id (g := F_recirculate_Circles_L1 l) (fun i o => o.length ≤ i) (fun i a o hx hI => ?_) (fun o _ => by unfold F_recirculate_Circles_L1; rw [bif_neg (by dsimp only; omega)]; rfl) [] (by simp)
    · exact this.1
    · have hi := (List.getElem?_eq_some_iff.1 hx).1
      refine ⟨?_, by
        unfold ddp
        split
        · omega
        · rw [List.length_append, List.length_singleton]; omega⟩
      unfold F_recirculate_Circles_L1 ddp
      dsimp only
      rw [bif_pos (by omega), getI_nat, hx, bind_some, w64 (n := (i : Int) + 1) (by omega) (by omega)]
      by_cases h0 : o = []
      · subst h0
        rw [bif_pos (by rfl), bind_some, cond_true, appI_ok (by simp), bind_some, bind_some, if_neg (by simp)]
      · have hp : 0 < o.length := List.length_pos_iff.2 h0
        rw [bif_neg (by omega), w64 (by omega) (by omega)]
        have hg : getI o ((o.length : Int) - 1) = o.getLast? := by
          rw [List.getLast?_eq_getElem?, show (o.length : Int) - 1 = ((o.length - 1 : Nat) : Int) by omega, getI_nat]
        rw [hg]
        cases hL : o.getLast? with
        | none => exact absurd (List.getLast?_eq_none_iff.1 hL) h0
        | some v =>
          rw [bind_some, bind_some]
          by_cases hv : v = a.road
          · subst hv
            rw [bif_neg (by simp), bind_some, if_pos rfl]
          · rw [bif_pos hv, appI_ok (by simp; omega), bind_some, bind_some, if_neg (by simpa using hv)]
  unfold circlesF
  by_cases h : rtB m f = true
  · obtain ⟨hR, hl⟩ := rtB_is h
    have h1 := hR.r1
    have h2 := arcsF_len (m := m) (f := f)
    have h3 := circ_len (m := m) (l := arcsF m f)
    rw [if_pos h, if_pos h]
    dsimp only
    rw [circ_eq hR.p2 (arcsF_ok hR) (by omega), bind_some, key _ (by omega), bind_some]
    congr 1
    have := dd_all (m := m) (f := f) (onArc m (arcsF m f)) m.Roads.length
    unfold onRd
    rw [← this]
    unfold circ arcsF
    rw [List.flatMap_assoc]
  · rw [if_neg h, if_neg h]
    dsimp only
    have : F_recirculate_circles m [] = some [] := by
      unfold F_recirculate_circles
      rw [loopC_inr (b := []) (by unfold F_recirculate_circles_L1; rfl)]
      rfl
    rw [this, bind_some, key _ (by simp), bind_some]
    rfl
theorem seed_bt {n : Nat} {k j : Int} (hj : 0 ≤ j) (h0 : 0 ≤ k) (h1 : k < (n : Int)) : bt (seed n k) j = decide (j = k) := by
  unfold seed
  rw [bt_set hj (by simp; omega)]
  by_cases h : j = k
  · rw [if_pos (by omega), decide_eq_true h]
  · rw [if_neg (by omega), decide_eq_false h]
    unfold bt
    by_cases hh : j.toNat < n
    · rw [List.getElem?_replicate_of_lt hh]; rfl
    · rw [List.getElem?_eq_none (by simpa using hh)]; rfl
theorem rcircles_eq (m : T_Mine) (f : List T_Span) (hs : Sz m) : F_ref14_Circles m f = some (circlesF m f) := by
  unfold F_ref14_Circles circlesF
  rw [right_eq m f hs, bind_some]
  by_cases h : rtB m f = true
  · obtain ⟨hR, hl⟩ := rtB_is h
    have h1 := hR.r1
    have hP := hR.p2
    rw [if_pos h, h, Bool.not_true, cond_false]
    have := coll (List.range m.Roads.length) (fun i => bif onRd m f i then [(i : Int)] else []) (g := F_ref14_Circles_L1 m f) (fun i _ => by cases onRd m f i <;> simp) (fun i x out hx ho => ?_) (fun out => by unfold F_ref14_Circles_L1; rw [List.length_range, bif_neg (by dsimp only; omega)])
    · rw [this.1, bind_some]
      congr 1
      generalize List.range m.Roads.length = r
      induction r with
      | nil => rfl
      | cons x r ih =>
        rw [List.flatMap_cons, ih, List.filter_cons]
        cases onRd m f x <;> simp
    · obtain ⟨rfl, hi⟩ := range_get hx
      have step : ∀ (out : List Int) (on d : Bool), F_ref14_Circles_L2 m f ((x : Int), out) (on, (bif d then 1 else 0)) = some (.inl (on || (can m f x d && onArc m (arcsF m f) (arcD m x d)), (bif d then 2 else 1))) := fun out on d => by
        have hd : decide ((bif d then (1 : Int) else 0) = 1) = d := by cases d <;> rfl
        have hlt : (bif d then (1 : Int) else 0) < 2 := by cases d <;> decide
        have hw2 : IntKind.i64.wrap ((bif d then (1 : Int) else 0) + 1) = bif d then 2 else 1 := by cases d <;> exact w64 (by decide) (by decide)
        have hA := arcD_ok hR hi d
        have hroad : (arcD m x d).road = (x : Int) := by cases d <;> rfl
        unfold F_ref14_Circles_L2
        dsimp only
        rw [bif_pos hlt, hd, ends_eq hi, bind_some, can_eq hi hl, bind_some, hw2]
        generalize arcD m x d = a at hA hroad
        dsimp only
        have hb := hA
        obtain ⟨a1, a2, a3, a4⟩ := hb
        rw [surf2 hA (x := none) (y := none), makI_ok (by omega) (by omega), bind_some, Int.toNat_natCast]
        obtain ⟨v, hv⟩ : ∃ v, getI (List.replicate m.Places.length false) a.to_ = some v := ⟨_, bt_get a3 (by simpa using a4)⟩
        rw [hv, bind_some]
        cases can m f x d with
        | false => rw [Bool.not_false, cond_true, bind_some]; simp
        | true =>
          rw [Bool.not_true, cond_false, bind_some]
          unfold onArc
          cases h1 : sf m a.from_ with
          | true => simp
          | false =>
            cases h2 : sf m a.to_ with
            | true => simp
            | false =>
              cases on with
              | true => simp
              | false =>
                have hr := reach_eq (m := m) (f := f) (o := seed m.Places.length a.to_) (w := (x : Int)) hR hl (seed_len _ _) (fun k hk hb => by
                  rw [seed_bt hk a3 a4] at hb
                  rw [of_decide_eq_true hb]
                  exact h2)
                have hg : getI (spreadC m (x : Int) (arcsF m f) (seed m.Places.length a.to_)) a.from_ = some (bt (spreadC m (x : Int) (arcsF m f) (seed m.Places.length a.to_)) a.from_) := bt_get a1 (by rw [spreadC_len, seed_len]; exact a2)
                rw [show (List.replicate m.Places.length false).set a.to_.toNat true = seed m.Places.length a.to_ from rfl, hr]
                simp only [Bool.or_self, cond_false, bind_some, Option.bind_some, hg, hroad, Bool.not_false, Bool.true_and, Bool.false_or]
      have r2 : ∀ (out : List Int) (on : Bool), F_ref14_Circles_L2 m f ((x : Int), out) (on, 2) = some (.inr on) := fun out on => by
        unfold F_ref14_Circles_L2
        rw [bif_neg (by show ¬ ((2 : Int) < 2); decide)]
      have r0 := step out false false
      have r1 := step out (false || (can m f x false && onArc m (arcsF m f) (arcD m x false))) true
      rw [cond_false] at r0
      rw [cond_true] at r1
      unfold F_ref14_Circles_L1
      dsimp only
      rw [bif_pos (by omega), loopC_inl r0, cond_false, loopC_inl r1, cond_true, loopC_inr (r2 _ _), bind_some, w64 (by omega) (by omega), appI_ok (by simp; omega), bind_some]
      have e : (false || (can m f x false && onArc m (arcsF m f) (arcD m x false)) || (can m f x true && onArc m (arcsF m f) (arcD m x true))) = onRd m f x := by
        unfold onRd arcsAt
        cases can m f x false <;> cases can m f x true <;> simp
      rw [e]
      cases onRd m f x <;> simp [bind_some]
  · have h' : rtB m f = false := by simpa using h
    rw [if_neg h, h']
    rfl

/-! ### places to which such air comes -/
def marks (l : List Arc) (o : List Bool) : List Bool := l.foldl (fun o a => (o.set a.from_.toNat true).set a.to_.toNat true) o
def idx (o : List Bool) : List Int := ((List.range o.length).filter (fun i : Nat => bt o i)).map (fun i : Nat => (i : Int))
def mixO (m : T_Mine) (f : List T_Span) : List Bool := spreadC m (-1) (arcsF m f) (marks (circ m (arcsF m f)) (List.replicate m.Places.length false))
def mixedF (m : T_Mine) (f : List T_Span) : List Int := if rtB m f then idx (mixO m f) else []
theorem idx_loop (o : List Bool) (ho : o.length ≤ 64) : loopC (F_recirculate_Mixed_L2 o) (0, ([] : List Int)) = some (idx o) := by
  have := coll (List.range o.length) (fun i : Nat => bif bt o i then [(i : Int)] else []) (g := F_recirculate_Mixed_L2 o) (fun i _ => by cases bt o i <;> simp) (fun i x out hx hl => ?_) (fun out => by unfold F_recirculate_Mixed_L2; rw [List.length_range, bif_neg (by dsimp only; omega)])
  · rw [this.1]
    congr 1
    unfold idx
    generalize List.range o.length = r
    induction r with
    | nil => rfl
    | cons x r ih =>
      rw [List.flatMap_cons, ih, List.filter_cons]
      cases bt o x <;> simp
  · obtain ⟨rfl, hi⟩ := range_get hx
    unfold F_recirculate_Mixed_L2
    dsimp only
    rw [bif_pos (by omega), bt_get (by omega) (by omega), bind_some, appI_ok (by simp; omega), bind_some, w64 (by omega) (by omega)]
    cases bt o x <;> simp [bind_some]
theorem mixed_eq (m : T_Mine) (f : List T_Span) (hs : Sz m) : F_recirculate_Mixed m f = some (mixedF m f) := by
  unfold F_recirculate_Mixed mixedF
  rw [arcs_eq m f hs, bind_some]
  by_cases h : rtB m f = true
  · obtain ⟨hR, hl⟩ := rtB_is h
    have h1 := hR.r1
    have hP := hR.p2
    have h2 := arcsF_len (m := m) (f := f)
    have h3 := circ_len (m := m) (l := arcsF m f)
    have hA := arcsF_ok (f := f) hR
    rw [if_pos h, if_pos h]
    dsimp only
    rw [Bool.not_true, cond_false, makI_ok (by omega) (by omega), bind_some, Int.toNat_natCast, circ_eq hP hA (by omega), bind_some]
    have := over (circ m (arcsF m f)) (fun (o : List Bool) a => (o.set a.from_.toNat true).set a.to_.toNat true) (fun i o => ((i, o) : Int × List Bool)) id (g := F_recirculate_Mixed_L1 (circ m (arcsF m f))) (fun _ o => o.length = m.Places.length) (fun i a o hx hI => ?_) (fun o _ => by unfold F_recirculate_Mixed_L1; rw [bif_neg (by dsimp only; omega)]; rfl) (List.replicate m.Places.length false) (by simp)
    · obtain ⟨t1, t2⟩ := this
      rw [t1, bind_some]
      have e := spread_eq (m := m) (l := arcsF m f) (o := marks (circ m (arcsF m f)) (List.replicate m.Places.length false)) (w := -1) hP t2 hA (by omega)
      show (F_recirculate_spread m (arcsF m f) (marks (circ m (arcsF m f)) (List.replicate m.Places.length false)) (-1)).bind _ = _
      rw [e, bind_some, idx_loop _ (by rw [spreadC_len, show (marks (circ m (arcsF m f)) (List.replicate m.Places.length false)).length = _ from t2]; exact hP), bind_some]
      rfl
    · have hi := (List.getElem?_eq_some_iff.1 hx).1
      obtain ⟨a1, a2, a3, a4⟩ := hA a (circ_sub a (List.mem_of_getElem? hx)).1
      refine ⟨?_, by rw [List.length_set, List.length_set]; exact hI⟩
      unfold F_recirculate_Mixed_L1
      dsimp only
      rw [bif_pos (by omega), getI_nat, hx, bind_some, bt_get a1 (by omega), bind_some, bt_get a3 (by rw [List.length_set]; omega), bind_some, w64 (by omega) (by omega)]
  · rw [if_neg h, if_neg h]
    rfl

theorem ints_same (l : List Int) (hl : l.length ≤ 1000000) : F_ref01_Ints l l = some true := by
  unfold F_ref01_Ints
  rw [bif_neg (fun h => h rfl), all_loop l (fun _ => false) (fun i x hx => by
    have hi := (List.getElem?_eq_some_iff.1 hx).1
    unfold F_ref01_Ints_L1
    rw [bif_pos (by omega), getI_nat, hx, bind_some, bind_some, bif_neg (fun h => h rfl), w64 (by omega) (by omega)]
    rfl) (by unfold F_ref01_Ints_L1; rw [bif_neg (by omega)])]
  simp
theorem awake14 : F_law14_awake = some true := by
  unfold F_law14_awake
  rw [ways_eq _ _ ⟨by simp, by simp⟩, bind_some, circles_eq _ _ ⟨by simp, by simp⟩, bind_some, circles_eq _ _ ⟨by simp, by simp⟩, bind_some, circles_eq _ _ ⟨by simp, by simp⟩, bind_some, mixed_eq _ _ ⟨by simp, by simp⟩, bind_some]
  have e1 : waysF ⟨[⟨0, false⟩, ⟨0, false⟩], [⟨0, 1, 1, 1, false, false, ⟨1, 1⟩, ⟨0, 0⟩⟩, ⟨0, 1, 1, 1, false, false, ⟨1, 1⟩, ⟨0, 0⟩⟩]⟩ [⟨1, 5⟩, ⟨-5, -1⟩] = [⟨0, 1⟩, ⟨1, 0⟩] := by decide +kernel
  have e2 : circlesF ⟨[⟨0, false⟩, ⟨0, false⟩], [⟨0, 1, 1, 1, false, false, ⟨1, 1⟩, ⟨0, 0⟩⟩, ⟨0, 1, 1, 1, false, false, ⟨1, 1⟩, ⟨0, 0⟩⟩]⟩ [⟨1, 5⟩, ⟨-5, -1⟩] = [0, 1] := by decide +kernel
  have e3 : circlesF ⟨[⟨0, false⟩, ⟨0, false⟩], [⟨0, 1, 1, 1, false, false, ⟨1, 1⟩, ⟨0, 0⟩⟩, ⟨0, 1, 1, 1, false, false, ⟨1, 1⟩, ⟨0, 0⟩⟩]⟩ [⟨-1, 5⟩, ⟨1, 5⟩] = [0, 1] := by decide +kernel
  have e4 : circlesF ⟨[⟨0, false⟩, ⟨0, false⟩], [⟨0, 1, 1, 1, false, false, ⟨1, 1⟩, ⟨0, 0⟩⟩, ⟨0, 1, 1, 1, false, false, ⟨1, 1⟩, ⟨0, 0⟩⟩]⟩ [⟨1, 5⟩, ⟨1, 5⟩] = [] := by decide +kernel
  have e5 : mixedF ⟨[⟨0, false⟩, ⟨0, false⟩], [⟨0, 1, 1, 1, false, false, ⟨1, 1⟩, ⟨0, 0⟩⟩, ⟨0, 1, 1, 1, false, false, ⟨1, 1⟩, ⟨0, 0⟩⟩]⟩ [⟨1, 5⟩, ⟨-5, -1⟩] = [0, 1] := by decide +kernel
  rw [e1, e2, e3, e4, e5, ints_same [0, 1] (by simp)]
  rfl
theorem ok_awake {k : Bool → Option Bool} {R : Bool → Prop} (h : Ok (k true) R) : Ok (F_law14_awake.bind k) R := ok_bindE awake14 h
theorem circlesF_len {m : T_Mine} {f : List T_Span} : (circlesF m f).length ≤ m.Roads.length := by
  unfold circlesF
  split
  · rw [List.length_map]
    have := List.length_filter_le (onRd m f) (List.range m.Roads.length)
    simpa using this
  · simp
theorem waysF_len {m : T_Mine} {f : List T_Span} : (waysF m f).length ≤ 2 * m.Roads.length := by
  unfold waysF
  split
  · rw [List.length_map]
    exact arcsF_len
  · simp
theorem sz_of {m : T_Mine} (h : MnOk m) : Sz m := ⟨by have := h.r1; omega, by have := h.p2; omega⟩

theorem bytesOf {l : List Int} (h : InL (In .u8) l) : Bytes l := fun x hx => In.u8 (h.2 x hx)
theorem law_RecirculateWays (p0 : List Int) (w0 : InL (In .u8) p0) (p1 : List T_Span) (w1 : InL T_Span.Wf p1) : F_law14_RecirculateWays p0 p1 = some true := by
  refine Ok.val ?_
  unfold F_law14_RecirculateWays
  refine ok_bind (air_ok p0 (bytesOf w0)) fun x1 h1 => ?_
  have hz := sz_of h1.m
  have hr := h1.m.r1
  have := all_loop [x1.2.1, p1] (fun _ => false) (g := F_law14_RecirculateWays_L1 p1 x1) (fun i f hx => ?_) (by unfold F_law14_RecirculateWays_L1; rw [bif_neg (by omega)])
  · rw [this, bind_some]
    simp only [List.all_cons, List.all_nil, Bool.not_false, Bool.and_self, if_pos]
    exact ok_awake (ok_some rfl)
  · have hi := (List.getElem?_eq_some_iff.1 hx).1
    simp only [List.length_cons, List.length_nil] at hi
    have hc := circlesF_len (m := x1.1.Mine) (f := f)
    have hw := waysF_len (m := x1.1.Mine) (f := f)
    unfold F_law14_RecirculateWays_L1
    rw [bif_pos (by simp only [List.length_cons, List.length_nil]; omega), getI_nat, hx, bind_some, ways_eq _ _ hz, bind_some, rways_eq _ _ hz, bind_some, bif_neg (fun h => h rfl), circles_eq _ _ hz, bind_some, rcircles_eq _ _ hz, bind_some, ints_same _ (by omega), bind_some, bind_some, Bool.not_true, cond_false]
    rw [all_loop (waysF x1.1.Mine f) (fun _ => false) (fun j y hy => by
      have hj := (List.getElem?_eq_some_iff.1 hy).1
      unfold F_law14_RecirculateWays_L2
      rw [bif_pos (by omega), getI_nat, hy, bind_some, bind_some, w64 (by omega) (by omega)]
      simp) (by unfold F_law14_RecirculateWays_L2; rw [bif_neg (by omega)]), bind_some]
    simp only [List.all_eq_true, Bool.not_false, implies_true, if_true, Sum.elim_inr]
    rw [w64 (by omega) (by omega)]
    rfl
end Go.L
