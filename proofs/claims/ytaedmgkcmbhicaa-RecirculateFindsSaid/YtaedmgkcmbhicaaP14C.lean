/- Mines checked; the ways of air; what is spread: program and reference agree. -/
import Derived.Test.YtaedmgkcmbhicaaP14B
namespace Go.L
open Go Go.Aml

/-- A loop over the elements of a row. -/
theorem over {α σ S ρ : Type} (l : List α) (st : σ → α → σ) (mk : Int → σ → S) (fin : σ → ρ) {g : S → Option (S ⊕ ρ)} (I : Nat → σ → Prop)
    (h : ∀ (i : Nat) (x : α) (s : σ), l[i]? = some x → I i s → g (mk i s) = some (.inl (mk ((i : Int) + 1) (st s x))) ∧ I (i + 1) (st s x))
    (hend : ∀ s, I l.length s → g (mk (l.length : Int) s) = some (.inr (fin s))) (s : σ) (h0 : I 0 s) : loopC g (mk 0 s) = some (fin (l.foldl st s)) ∧ I l.length (l.foldl st s) := by
  have key : ∀ (m i : Nat) (s : σ), i + m = l.length → I i s → loopC g (mk (i : Int) s) = some (fin ((l.drop i).foldl st s)) ∧ I l.length ((l.drop i).foldl st s) := by
    intro m
    induction m with
    | zero =>
      intro i s hi hI
      have : i = l.length := by omega
      subst this
      rw [loopC_inr (hend s hI), List.drop_length]
      exact ⟨rfl, hI⟩
    | succ m ih =>
      intro i s hi hI
      have hx : i < l.length := by omega
      obtain ⟨h1, h2⟩ := h i _ s (List.getElem?_eq_getElem hx) hI
      rw [loopC_inl h1, show ((i : Int) + 1) = ((i + 1 : Nat) : Int) by omega]
      obtain ⟨h3, h4⟩ := ih (i + 1) _ (by omega) h2
      rw [List.drop_eq_getElem_cons hx, List.foldl_cons]
      exact ⟨h3, h4⟩
  have := key l.length 0 s (by omega) h0
  rwa [List.drop_zero] at this
theorem foldl_app {α β : Type} (f : α → List β) : ∀ (l : List α) (o : List β), l.foldl (fun o x => o ++ f x) o = o ++ l.flatMap f
  | [], o => by simp
  | x :: l, o => by rw [List.foldl_cons, foldl_app f l, List.flatMap_cons, List.append_assoc]
/-- A loop that appends. -/
theorem coll {α β : Type} (l : List α) (f : α → List β) {g : Int × List β → Option ((Int × List β) ⊕ List β)} (hf : ∀ x ∈ l, (f x).length ≤ 2)
    (h : ∀ (i : Nat) (x : α) (out : List β), l[i]? = some x → out.length ≤ 2 * i → g ((i : Int), out) = some (.inl ((i : Int) + 1, out ++ f x)))
    (hend : ∀ out, g ((l.length : Int), out) = some (.inr out)) : loopC g (0, []) = some (l.flatMap f) ∧ (l.flatMap f).length ≤ 2 * l.length := by
  have := over l (fun (o : List β) x => o ++ f x) (fun i o => ((i, o) : Int × List β)) id (g := g) (fun i o => o.length ≤ 2 * i) (fun i x o hx hI => ⟨h i x o hx hI, by
    have := hf x (List.mem_of_getElem? hx)
    rw [List.length_append]; omega⟩) (fun o _ => hend o) [] (by simp)
  rw [foldl_app, List.nil_append] at this
  exact this

/-! ### what is right of a mine -/
def plErr (p : T_Place) : Bool := decide (p.Height < -10000 ∨ 10000 < p.Height)
def spIn (s : T_Span) (a b : Int) : Bool := decide (a ≤ s.Low ∧ s.Low ≤ s.High ∧ s.High ≤ b)
def rdErr (n : Int) (r : T_Road) : Int :=
  if r.From < 0 ∨ n ≤ r.From ∨ r.To < 0 ∨ n ≤ r.To ∨ r.From = r.To then 4
  else if r.Length < 1 ∨ 100000 < r.Length ∨ r.Area < 1 ∨ 1000 < r.Area ∨ spIn r.Rest 1 262144 = false ∨ spIn r.Lift (-2199023255552) 2199023255552 = false then 1 else 0
def firstE {α : Type} (e : α → Int) : List α → Int
  | [] => 0
  | x :: l => if e x = 0 then firstE e l else e x
def chkM (m : T_Mine) : Int :=
  if 64 < (m.Places.length : Int) ∨ 128 < (m.Roads.length : Int) then 2 else if m.Places.all (fun p => !plErr p) then firstE (rdErr m.Places.length) m.Roads else 1
theorem all_loop {α : Type} (l : List α) (bad : α → Bool) {g : Int → Option (Int ⊕ (Unit ⊕ Unit))} (h : ∀ (i : Nat) (x : α), l[i]? = some x → g (i : Int) = bif bad x then some (.inr (.inl ())) else some (.inl ((i : Int) + 1)))
    (hend : g (l.length : Int) = some (.inr (.inr ()))) : loopC g 0 = some (if l.all (fun x => !bad x) then .inr () else .inl ()) := by
  have key : ∀ (m i : Nat), i + m = l.length → loopC g (i : Int) = some (if (l.drop i).all (fun x => !bad x) then .inr () else .inl ()) := by
    intro m
    induction m with
    | zero =>
      intro i hi
      have : i = l.length := by omega
      subst this
      rw [loopC_inr hend, List.drop_length]
      rfl
    | succ m ih =>
      intro i hi
      have hx : i < l.length := by omega
      have h1 := h i _ (List.getElem?_eq_getElem hx)
      rw [List.drop_eq_getElem_cons hx, List.all_cons]
      cases hb : bad l[i] with
      | true => rw [hb] at h1; rw [loopC_inr h1]; rfl
      | false =>
        rw [hb] at h1
        rw [loopC_inl h1, show ((i : Int) + 1) = ((i + 1 : Nat) : Int) by omega, ih (i + 1) (by omega), Bool.not_false, Bool.true_and]
  have := key l.length 0 (by omega)
  rwa [List.drop_zero] at this
theorem first_loop {α : Type} (l : List α) (e : α → Int) {g : Int → Option (Int ⊕ (Int ⊕ Unit))} (h : ∀ (i : Nat) (x : α), l[i]? = some x → g (i : Int) = if e x = 0 then some (.inl ((i : Int) + 1)) else some (.inr (.inl (e x))))
    (hend : g (l.length : Int) = some (.inr (.inr ()))) : loopC g 0 = some (if firstE e l = 0 then .inr () else .inl (firstE e l)) := by
  have key : ∀ (m i : Nat), i + m = l.length → loopC g (i : Int) = some (if firstE e (l.drop i) = 0 then .inr () else .inl (firstE e (l.drop i))) := by
    intro m
    induction m with
    | zero =>
      intro i hi
      have : i = l.length := by omega
      subst this
      rw [loopC_inr hend, List.drop_length]
      rfl
    | succ m ih =>
      intro i hi
      have hx : i < l.length := by omega
      have h1 := h i _ (List.getElem?_eq_getElem hx)
      rw [List.drop_eq_getElem_cons hx]
      unfold firstE
      by_cases he : e l[i] = 0
      · rw [if_pos he] at h1 ⊢
        rw [loopC_inl h1, show ((i : Int) + 1) = ((i + 1 : Nat) : Int) by omega, ih (i + 1) (by omega)]
      · rw [if_neg he] at h1 ⊢
        rw [loopC_inr h1, if_neg he]
  have := key l.length 0 (by omega)
  rwa [List.drop_zero] at this
theorem span_eq (s : T_Span) (a b : Int) : F_plan_spanIn s a b = some (spIn s a b) ∧ F_ref01_Span s a b = some (spIn s a b) := by
  have : (bif decide (a ≤ s.Low) then bif decide (s.Low ≤ s.High) then some (decide (s.High ≤ b)) else some false else some false) = some (spIn s a b) := and_bif (and_bif rfl)
  exact ⟨this, this⟩
theorem pick_rd {n : Int} {r : T_Road} {β : Type} {i : β} : (bif decide (r.From < 0 ∨ n ≤ r.From ∨ r.To < 0 ∨ n ≤ r.To ∨ r.From = r.To) then some (Sum.inr (Sum.inl (4 : Int))) else
    bif decide (r.Length < 1 ∨ 100000 < r.Length ∨ r.Area < 1 ∨ 1000 < r.Area ∨ spIn r.Rest 1 262144 = false ∨ spIn r.Lift (-2199023255552) 2199023255552 = false) then some (Sum.inr (Sum.inl (1 : Int))) else some (Sum.inl i) : Option (β ⊕ (Int ⊕ Unit))) =
    if rdErr n r = 0 then some (.inl i) else some (.inr (.inl (rdErr n r))) := by
  unfold rdErr
  by_cases h1 : r.From < 0 ∨ n ≤ r.From ∨ r.To < 0 ∨ n ≤ r.To ∨ r.From = r.To
  · rw [bif_pos h1, if_pos h1, if_neg (by decide)]
  · rw [bif_neg h1, if_neg h1]
    by_cases h2 : r.Length < 1 ∨ 100000 < r.Length ∨ r.Area < 1 ∨ 1000 < r.Area ∨ spIn r.Rest 1 262144 = false ∨ spIn r.Lift (-2199023255552) 2199023255552 = false
    · rw [bif_pos h2, if_pos h2, if_neg (by decide)]
    · rw [bif_neg h2, if_neg h2, if_pos rfl]
theorem not_some {b : Bool} : (some (!b) : Option Bool) = some (decide (b = false)) := by cases b <;> rfl
theorem not_dec' {b : Bool} {x y : Option Bool} : (bif !b then x else y) = bif decide (b = false) then x else y := by cases b <;> rfl
theorem pcheck_eq (m : T_Mine) (hr : m.Roads.length ≤ 1000000000 ∧ m.Places.length ≤ 1000000000) : F_plan_Check m = some (chkM m) ∧ F_ref01_Check m = some (chkM m) := by
  obtain ⟨hr, hp⟩ := hr
  have a1 : loopC (F_plan_Check_L1 m) 0 = some (if m.Places.all (fun p => !plErr p) then .inr () else .inl ()) := by
    refine all_loop m.Places plErr (fun i x hx => ?_) (by unfold F_plan_Check_L1; rw [bif_neg (by omega)])
    have hi := (List.getElem?_eq_some_iff.1 hx).1
    unfold F_plan_Check_L1
    rw [bif_pos (by omega), getI_nat, hx, bind_some, or_bif rfl, bind_some, w64 (by omega) (by omega)]
    rfl
  have a2 : loopC (F_ref01_Check_L1 m) 0 = some (if m.Places.all (fun p => !plErr p) then .inr () else .inl ()) := by
    refine all_loop m.Places plErr (fun i x hx => ?_) (by unfold F_ref01_Check_L1; rw [bif_neg (by omega)])
    have hi := (List.getElem?_eq_some_iff.1 hx).1
    unfold F_ref01_Check_L1
    rw [bif_pos (by omega), getI_nat, hx, bind_some, or_bif rfl, bind_some, w64 (by omega) (by omega)]
    rfl
  have b1 : loopC (F_plan_Check_L2 m) 0 = some (if firstE (rdErr m.Places.length) m.Roads = 0 then .inr () else .inl (firstE (rdErr m.Places.length) m.Roads)) := by
    refine first_loop m.Roads _ (fun i x hx => ?_) (by unfold F_plan_Check_L2; rw [bif_neg (by omega)])
    have hi := (List.getElem?_eq_some_iff.1 hx).1
    unfold F_plan_Check_L2
    rw [bif_pos (by omega), getI_nat, hx, bind_some, or_bif (or_bif (or_bif (or_bif rfl))), bind_some, or_bif (or_bif (or_bif rfl)), bind_some, (span_eq _ _ _).1, bind_some, (span_eq _ _ _).1, bind_some, not_dec', not_some, or_bif rfl, bind_some, w64 (by omega) (by omega), ← pick_rd]
    by_cases h1 : x.From < 0 ∨ (m.Places.length : Int) ≤ x.From ∨ x.To < 0 ∨ (m.Places.length : Int) ≤ x.To ∨ x.From = x.To
    · rw [bif_pos h1, bif_pos h1]
    · rw [bif_neg h1, bif_neg h1]
      by_cases h2 : x.Length < 1 ∨ 100000 < x.Length ∨ x.Area < 1 ∨ 1000 < x.Area
      · rw [bif_pos h2, bif_pos (by rcases h2 with h | h | h | h; exact .inl h; exact .inr (.inl h); exact .inr (.inr (.inl h)); exact .inr (.inr (.inr (.inl h))))]
      · rw [bif_neg h2]
        by_cases h3 : spIn x.Rest 1 262144 = false ∨ spIn x.Lift (-2199023255552) 2199023255552 = false
        · rw [bif_pos h3, bif_pos (.inr (.inr (.inr (.inr h3))))]
        · rw [bif_neg h3, bif_neg (fun h => by rcases h with h | h | h | h | h; exact h2 (.inl h); exact h2 (.inr (.inl h)); exact h2 (.inr (.inr (.inl h))); exact h2 (.inr (.inr (.inr h))); exact h3 h)]
  have b2 : loopC (F_ref01_Check_L2 m) 0 = some (if firstE (rdErr m.Places.length) m.Roads = 0 then .inr () else .inl (firstE (rdErr m.Places.length) m.Roads)) := by
    refine first_loop m.Roads _ (fun i x hx => ?_) (by unfold F_ref01_Check_L2; rw [bif_neg (by omega)])
    have hi := (List.getElem?_eq_some_iff.1 hx).1
    unfold F_ref01_Check_L2
    rw [bif_pos (by omega), getI_nat, hx, bind_some, or_bif (or_bif (or_bif (or_bif rfl))), bind_some, (span_eq _ _ _).2, bind_some, (span_eq _ _ _).2, bind_some, not_dec', not_some, or_bif (or_bif (or_bif (or_bif (or_bif rfl)))), bind_some, w64 (by omega) (by omega), ← pick_rd]
  unfold F_plan_Check F_ref01_Check chkM
  constructor
  all_goals
    rw [or_bif rfl, bind_some]
    first | rw [a1, bind_some, b1] | rw [a2, bind_some, b2]
    by_cases h : 64 < (m.Places.length : Int) ∨ 128 < (m.Roads.length : Int)
    · rw [bif_pos h, if_pos h]
    · rw [bif_neg h, if_neg h]
      by_cases h2 : m.Places.all (fun p => !plErr p) = true
      · rw [if_pos h2, if_pos h2]
        dsimp only [Sum.elim_inr]
        rw [bind_some]
        by_cases h3 : firstE (rdErr m.Places.length) m.Roads = 0
        · rw [if_pos h3]
          dsimp only [Sum.elim_inr]
          rw [h3]
        · rw [if_neg h3]
          rfl
      · rw [if_neg h2, if_neg h2]
        rfl
/-- A right mine. -/
structure Rt (m : T_Mine) : Prop where
  p2 : m.Places.length ≤ 64
  r1 : m.Roads.length ≤ 128
  rd : ∀ r ∈ m.Roads, RdOk m.Places.length r
theorem first0 {α : Type} {e : α → Int} : ∀ {l : List α}, firstE e l = 0 → ∀ x ∈ l, e x = 0
  | [], _, x, hx => by cases hx
  | y :: l, h, x, hx => by
    unfold firstE at h
    by_cases he : e y = 0
    · rw [if_pos he] at h
      rcases List.mem_cons.1 hx with rfl | hx
      · exact he
      · exact first0 h x hx
    · rw [if_neg he] at h
      exact absurd h he
theorem rt_of {m : T_Mine} (h : chkM m = 0) : Rt m := by
  unfold chkM at h
  split at h
  · cases h
  · split at h
    · rename_i h1 h2
      refine ⟨by omega, by omega, fun r hr => ?_⟩
      have := first0 h r hr
      unfold rdErr at this
      split at this
      · cases this
      · unfold RdOk
        omega
    · cases h
end Go.L
