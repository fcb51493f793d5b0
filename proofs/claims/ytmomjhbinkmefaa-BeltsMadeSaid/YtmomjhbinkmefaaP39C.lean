/- Belts: what a stop, and each step, does: program and reference agree. -/
import Derived.Test.YtmomjhbinkmefaaP39B
namespace Go.L
open Go Go.Aml

def stpd (l : List T_Belt) (t k : Int) : Bool := decide (k = t) || thr l k t
def s0 (x : T_Line) (k : Nat) : Int := (x.States[k]?).getD 0
def c0 (x : T_Line) (k : Nat) : Int := (x.Since[k]?).getD 0
/-- The line behind a stop of those that P picks. -/
def stopY (n : Nat) (x : T_Line) (P : Nat → Bool) : T_Line :=
  ⟨x.Time, tab n (fun k => bif P k then 0 else s0 x k), tab n (fun k => bif P k && !decide (s0 x k = 0) then x.Time else c0 x k), x.Pulled, x.Held⟩
def stopX (l : List T_Belt) (x : T_Line) (t : Int) : T_Line := stopY l.length x (fun k => stpd l t k)
theorem tabS {x : T_Line} {n : Nat} (h : x.States.length = n) : x.States = tab n (s0 x) := h ▸ tab_self 0 x.States
theorem tabC {x : T_Line} {n : Nat} (h : x.Since.length = n) : x.Since = tab n (c0 x) := h ▸ tab_self 0 x.Since
theorem stop_eq {l : List T_Belt} {x : T_Line} (hs : Snd l = true) (hL : Lens l x) (t : Int) : F_belts_stop l x t = some (stopX l x t) := by
  obtain ⟨_, n2, hr, _, he⟩ := snd_is hs
  obtain ⟨L1, L2, L3, L4⟩ := hL
  unfold F_belts_stop
  have key : ∀ (m i : Nat), i + m = l.length → loopC (F_belts_stop_L1 l x t) ((i : Int), tab l.length (fun k => bif decide (k < i) && stpd l t k then 0 else s0 x k), tab l.length (fun k => bif (decide (k < i) && stpd l t k) && !decide (s0 x k = 0) then x.Time else c0 x k)) = some ((stopX l x t).States, (stopX l x t).Since) := by
    intro m
    induction m with
    | zero =>
      intro i hi
      rw [loopC_inr (by unfold F_belts_stop_L1; dsimp only; rw [bif_neg (by omega)])]
      unfold stopX stopY
      dsimp only
      congr 2
      · exact tab_ext fun k hk => by rw [decide_eq_true (show k < i by omega), Bool.true_and]
      · exact tab_ext fun k hk => by rw [decide_eq_true (show k < i by omega), Bool.true_and]
    | succ m ih =>
      intro i hi
      have hii : decide (i < i) = false := decide_eq_false (by omega)
      have step : F_belts_stop_L1 l x t ((i : Int), tab l.length (fun k => bif decide (k < i) && stpd l t k then 0 else s0 x k), tab l.length (fun k => bif (decide (k < i) && stpd l t k) && !decide (s0 x k = 0) then x.Time else c0 x k)) =
          some (.inl (((i + 1 : Nat) : Int), tab l.length (fun k => bif decide (k < i + 1) && stpd l t k then 0 else s0 x k), tab l.length (fun k => bif (decide (k < i + 1) && stpd l t k) && !decide (s0 x k = 0) then x.Time else c0 x k))) := by
        unfold F_belts_stop_L1
        dsimp only
        rw [bif_pos (by omega), tab_get (by omega) (by omega), tab_get (by omega) (by omega), throws_eq hs (by omega) (by omega)]
        simp only [bind_some]
        rw [Int.toNat_natCast, hii, Bool.false_and, cond_false, w64 (by omega) (by omega), tab_set, tab_set]
        have e : ((bif decide ((i : Int) = t) then some (decide (s0 x i ≠ 0)) else bif thr l (i : Int) t then some (decide (s0 x i ≠ 0)) else some false) : Option Bool) = some (stpd l t i && !decide (s0 x i = 0)) := by
          unfold stpd
          rw [dec_not (p := s0 x i ≠ 0) (q := s0 x i = 0) Iff.rfl]
          cases decide ((i : Int) = t) <;> cases thr l (i : Int) t <;> rfl
        rw [e, bind_some]
        cases hb : stpd l t i && !decide (s0 x i = 0) with
        | true =>
          simp only [Bool.and_eq_true] at hb
          rw [cond_true, bind_some, show ((i : Int) + 1) = ((i + 1 : Nat) : Int) by omega]
          congr 3
          refine Prod.ext ?_ ?_
          · refine tab_ext fun k hk => ?_
            by_cases e : k = i
            · subst e; rw [if_pos rfl, decide_eq_true (show k < k + 1 by omega), hb.1]; rfl
            · rw [if_neg e, show decide (k < i + 1) = decide (k < i) from decide_eq_decide.2 (by omega)]
          · refine tab_ext fun k hk => ?_
            by_cases e : k = i
            · subst e; rw [if_pos rfl, decide_eq_true (show k < k + 1 by omega), hb.1, hb.2]; rfl
            · rw [if_neg e, show decide (k < i + 1) = decide (k < i) from decide_eq_decide.2 (by omega)]
        | false =>
          rw [cond_false, bind_some, show ((i : Int) + 1) = ((i + 1 : Nat) : Int) by omega]
          congr 3
          refine Prod.ext ?_ ?_
          · refine tab_ext fun k hk => ?_
            by_cases e : k = i
            · subst e
              rw [decide_eq_false (show ¬ k < k by omega), decide_eq_true (show k < k + 1 by omega), Bool.false_and, Bool.true_and]
              cases hst : stpd l t k with
              | false => rfl
              | true =>
                rw [hst, Bool.true_and] at hb
                have : s0 x k = 0 := by simpa using hb
                rw [this]; rfl
            · rw [show decide (k < i + 1) = decide (k < i) from decide_eq_decide.2 (by omega)]
          · refine tab_ext fun k hk => ?_
            by_cases e : k = i
            · subst e
              rw [decide_eq_false (show ¬ k < k by omega), decide_eq_true (show k < k + 1 by omega), Bool.false_and, Bool.true_and, hb]
              rfl
            · rw [show decide (k < i + 1) = decide (k < i) from decide_eq_decide.2 (by omega)]
      rw [loopC_inl step]
      exact ih (i + 1) (by omega)
  have h0 := key l.length 0 (by omega)
  have e1 : tab l.length (fun k => bif decide (k < 0) && stpd l t k then 0 else s0 x k) = x.States := by
    rw [tabS L1]
    exact tab_ext fun k _ => by rw [decide_eq_false (Nat.not_lt_zero k)]; rfl
  have e2 : tab l.length (fun k => bif (decide (k < 0) && stpd l t k) && !decide (s0 x k = 0) then x.Time else c0 x k) = x.Since := by
    rw [tabC L2]
    exact tab_ext fun k _ => by rw [decide_eq_false (Nat.not_lt_zero k)]; rfl
  rw [e1, e2] at h0
  rw [show (0 : Int) = ((0 : Nat) : Int) from rfl, h0, bind_some]
  rfl
theorem clone_i (l : List Int) (h : l.length ≤ 1000) : F_slices_Clone___int_int_ l = some l := by
  unfold F_slices_Clone___int_int_
  rw [appI_ok (by simp; omega), bind_some, List.nil_append]
theorem clone_b (l : List Bool) (h : l.length ≤ 1000) : F_slices_Clone___bool_bool_ l = some l := by
  unfold F_slices_Clone___bool_bool_
  rw [appI_ok (by simp; omega), bind_some, List.nil_append]
def Small (x : T_Line) : Prop := x.States.length ≤ 1000 ∧ x.Since.length ≤ 1000 ∧ x.Pulled.length ≤ 1000 ∧ x.Held.length ≤ 1000
theorem copy_eq {x : T_Line} (h : Small x) : F_ref39_Copy x = some x := by
  obtain ⟨h1, h2, h3, h4⟩ := h
  unfold F_ref39_Copy
  rw [appI_ok (by simp; omega), bind_some, appI_ok (by simp; omega), bind_some, appI_ok (by simp; omega), bind_some, appI_ok (by simp; omega), bind_some, List.nil_append, List.nil_append, List.nil_append, List.nil_append]
theorem mem_abv {l : List T_Belt} {t : Int} {k : Nat} (hk : k < l.length) : (k : Int) ∈ abv l t ↔ thr l k t = true := by
  unfold abv
  simp only [List.mem_map, List.mem_filter, List.mem_range]
  constructor
  · rintro ⟨a, ⟨h1, h2⟩, h3⟩
    have : a = k := by omega
    subst this
    exact h2
  · intro h
    exact ⟨k, ⟨hk, h⟩, rfl⟩
theorem abv_range {l : List T_Belt} {t : Int} : ∀ v ∈ abv l t, 0 ≤ v ∧ v < (l.length : Int) := by
  intro v hv
  unfold abv at hv
  simp only [List.mem_map, List.mem_filter, List.mem_range] at hv
  obtain ⟨a, ⟨h1, _⟩, rfl⟩ := hv
  omega
theorem rstop_eq {l : List T_Belt} {x : T_Line} (hs : Snd l = true) (hL : Lens l x) {t : Int} (h0 : 0 ≤ t) (h1 : t < (l.length : Int)) : F_ref39_stop l x t = some (stopX l x t) := by
  obtain ⟨_, n2, hr, _, he⟩ := snd_is hs
  have hL' := hL
  obtain ⟨L1, L2, L3, L4⟩ := hL
  have hsm : Small x := ⟨by omega, by omega, by omega, by omega⟩
  unfold F_ref39_stop
  have hA : Abv l t = abv l t := by
    unfold Abv
    rw [hs, decide_eq_true h0, decide_eq_true h1]
    rfl
  have hlen : (abv l t).length ≤ l.length := by
    unfold abv
    rw [List.length_map]
    exact Nat.le_trans (List.length_filter_le _ _) (by simp)
  rw [copy_eq hsm, bind_some, rabove_eq l t (by omega), bind_some, hA, appI_ok (by simp; omega), bind_some]
  obtain ⟨A, hAA⟩ : ∃ A, A = abv l t ++ [t] := ⟨_, rfl⟩
  rw [← hAA]
  have hAr : ∀ v ∈ A, 0 ≤ v ∧ v < (l.length : Int) := fun v hv => by
    rw [hAA] at hv
    rcases List.mem_append.1 hv with h | h
    · exact abv_range v h
    · rw [List.mem_singleton.1 h]; omega
  have hAl : A.length ≤ 1000 := by rw [hAA, List.length_append, List.length_singleton]; omega
  let inA : Nat → Nat → Bool := fun p k => (A.take p).elem (k : Int)
  have key : ∀ (m p : Nat), p + m = A.length → loopC F_ref39_stop_L1 (A, (p : Int), stopY l.length x (inA p)) = some (stopY l.length x (inA A.length)) := by
    intro m
    induction m with
    | zero =>
      intro p hp
      have : p = A.length := by omega
      subst this
      exact loopC_inr (by unfold F_ref39_stop_L1; dsimp only; rw [bif_neg (by omega)])
    | succ m ih =>
      intro p hp
      have hpl : p < A.length := by omega
      obtain ⟨v, hv⟩ : ∃ v, A[p] = v := ⟨_, rfl⟩
      have hvr := hAr v (hv ▸ List.getElem_mem hpl)
      have hget : getI A (p : Int) = some v := by rw [getI_nat, List.getElem?_eq_getElem hpl, hv]
      have htake : ∀ k : Nat, inA (p + 1) k = (inA p k || decide (k = v.toNat)) := fun k => by
        show (A.take (p + 1)).elem (k : Int) = ((A.take p).elem (k : Int) || _)
        rw [List.take_add_one, List.getElem?_eq_getElem hpl, hv]
        show (A.take p ++ [v]).elem (k : Int) = _
        rw [List.elem_eq_contains, List.elem_eq_contains]
        by_cases e : k = v.toNat
        · rw [decide_eq_true e, Bool.or_true]
          exact List.contains_iff_mem.2 (List.mem_append.2 (.inr (List.mem_singleton.2 (by omega))))
        · rw [decide_eq_false e, Bool.or_false]
          rw [Bool.eq_iff_iff, List.contains_iff_mem, List.contains_iff_mem, List.mem_append, List.mem_singleton]
          constructor
          · rintro (h | h)
            · exact h
            · omega
          · exact .inl
      have step : F_ref39_stop_L1 (A, (p : Int), stopY l.length x (inA p)) = some (.inl (A, ((p + 1 : Nat) : Int), stopY l.length x (inA (p + 1)))) := by
        unfold F_ref39_stop_L1
        dsimp only
        have g1 : getI (stopY l.length x (inA p)).States v = some (bif inA p v.toNat then 0 else s0 x v.toNat) := tab_get hvr.1 hvr.2
        have g2 : getI (stopY l.length x (inA p)).Since v = some (bif inA p v.toNat && !decide (s0 x v.toNat = 0) then x.Time else c0 x v.toNat) := tab_get hvr.1 hvr.2
        rw [bif_pos (by omega), hget]
        simp only [bind_some]
        rw [g1, g2, w64 (by omega) (by omega), show ((p : Int) + 1) = ((p + 1 : Nat) : Int) by omega]
        simp only [bind_some]
        cases hin : inA p v.toNat with
        | true =>
          rw [cond_true, bif_neg (by omega), bind_some]
          congr 4
          unfold stopY
          congr 1
          · exact tab_ext fun k _ => by
              rw [htake]
              by_cases e : k = v.toNat
              · rw [e, hin]; rfl
              · rw [decide_eq_false e, Bool.or_false]
          · exact tab_ext fun k _ => by
              rw [htake]
              by_cases e : k = v.toNat
              · rw [e, hin]; rfl
              · rw [decide_eq_false e, Bool.or_false]
        | false =>
          rw [cond_false]
          by_cases hz : s0 x v.toNat = 0
          · rw [bif_neg (fun h => h hz), bind_some]
            congr 4
            unfold stopY
            congr 1
            · exact tab_ext fun k _ => by
                rw [htake]
                by_cases e : k = v.toNat
                · rw [e, hin, hz]; simp
                · rw [decide_eq_false e, Bool.or_false]
            · exact tab_ext fun k _ => by
                rw [htake]
                by_cases e : k = v.toNat
                · rw [e, hin, hz]; simp
                · rw [decide_eq_false e, Bool.or_false]
          · rw [bif_pos hz, bind_some]
            congr 4
            unfold stopY
            dsimp only
            rw [tab_set, tab_set]
            congr 1
            · exact tab_ext fun k _ => by
                rw [htake]
                by_cases e : k = v.toNat
                · rw [if_pos e, decide_eq_true e, Bool.or_true]; rfl
                · rw [if_neg e, decide_eq_false e, Bool.or_false]
            · exact tab_ext fun k _ => by
                rw [htake]
                by_cases e : k = v.toNat
                · rw [if_pos e, decide_eq_true e, Bool.or_true, Bool.true_and, e, decide_eq_false hz]; rfl
                · rw [if_neg e, decide_eq_false e, Bool.or_false]
      rw [loopC_inl step]
      exact ih (p + 1) (by omega)
  have h00 := key A.length 0 (by omega)
  have e0 : stopY l.length x (inA 0) = x := by
    have a : ∀ k, inA 0 k = false := fun k => rfl
    unfold stopY
    have e1 : tab l.length (fun k => bif inA 0 k then 0 else s0 x k) = x.States := by
      conv => rhs; rw [tabS L1]
      exact tab_ext fun k _ => by rw [a]; rfl
    have e2 : tab l.length (fun k => bif inA 0 k && !decide (s0 x k = 0) then x.Time else c0 x k) = x.Since := by
      conv => rhs; rw [tabC L2]
      exact tab_ext fun k _ => by rw [a]; rfl
    rw [e1, e2]
  rw [e0] at h00
  rw [show (0 : Int) = ((0 : Nat) : Int) from rfl, h00, bind_some]
  have hfin : ∀ k, k < l.length → inA A.length k = stpd l t k := fun k hk => by
    show (A.take A.length).elem (k : Int) = _
    rw [List.take_length, List.elem_eq_contains]
    unfold stpd
    rw [Bool.eq_iff_iff, List.contains_iff_mem, hAA, List.mem_append, List.mem_singleton, mem_abv hk, Bool.or_eq_true, decide_eq_true_eq]
    exact Or.comm
  congr 1
  unfold stopX stopY
  congr 1
  · exact tab_ext fun k hk => by rw [hfin k hk]
  · exact tab_ext fun k hk => by rw [hfin k hk]
theorem stopX_lens {l : List T_Belt} {x : T_Line} (hL : Lens l x) (t : Int) : Lens l (stopX l x t) := ⟨tab_len _ _, tab_len _ _, hL.2.2.1, hL.2.2.2⟩
theorem small_of {l : List T_Belt} {x : T_Line} (hs : Snd l = true) (hL : Lens l x) : Small x := by
  obtain ⟨_, n2, _⟩ := snd_is hs
  obtain ⟨L1, L2, L3, L4⟩ := hL
  exact ⟨by omega, by omega, by omega, by omega⟩

/-! ### the steps -/
def SmL (l : List T_Belt) : Prop := l.length ≤ 1000
def startY (x : T_Line) (i : Int) : T_Line := ⟨x.Time, x.States.set i.toNat 1, x.Since.set i.toNat x.Time, x.Pulled, x.Held⟩
def noStart (l : List T_Belt) (x : T_Line) (i : Int) : Int := bif !decide (gI x.States i = 0) then 10 else bif gB x.Pulled i || gB x.Held i then 51 else bif decide (0 ≤ nx l i) && !decide (gI x.States (nx l i) = 2) then 10 else 0
def startR (l : List T_Belt) (x : T_Line) (i : Int) : T_Line × Int :=
  if chk l x i ≠ 0 then (x, chk l x i) else if noStart l x i ≠ 0 then (x, noStart l x i) else (startY x i, 0)
theorem start_eq (l : List T_Belt) (x : T_Line) (i : Int) (hl : SmL l) : F_belts_Start l x i = some (startR l x i) := by
  unfold F_belts_Start startR
  rw [checked_eq l x i hl, bind_some]
  by_cases hc : chk l x i = 0
  · obtain ⟨hv, h0, h1⟩ := chk0 hc
    obtain ⟨hs, hL, _⟩ := vld_is hv
    have hsm := small_of hs hL
    obtain ⟨L1, L2, L3, L4⟩ := hL
    obtain ⟨_, _, hr, _⟩ := snd_is hs
    have hg := getI_ok (l := l) h0 h1
    have hnx := nx_range hr i
    rw [bif_neg (fun h => h hc), if_neg (fun h => h hc), hg, bind_some, ← nx_get hg, getI_g h0 (by omega), bind_some, getI_b h0 (by omega), bind_some, getI_b h0 (by omega), bind_some]
    unfold noStart
    rw [dec_not (p := gI x.States i ≠ 0) (q := gI x.States i = 0) Iff.rfl]
    cases a1 : decide (gI x.States i = 0) with
    | false => rfl
    | true =>
      rw [Bool.not_true, cond_false, cond_false]
      cases a2 : gB x.Pulled i with
      | true => rfl
      | false =>
        rw [cond_false, bind_some]
        cases a3 : gB x.Held i with
        | true => rfl
        | false =>
          rw [cond_false, Bool.or_false, cond_false]
          have fin : Option.bind (F_belts_done__belts_Start_1 x i) (fun x21 => some (x21, (0 : Int))) = some (startY x i, 0) := by
            unfold F_belts_done__belts_Start_1 F_belts_Start_1
            rw [clone_i _ hsm.1, bind_some, clone_i _ hsm.2.1, bind_some, clone_b _ hsm.2.2.1, bind_some, clone_b _ hsm.2.2.2, bind_some]
            dsimp only
            rw [getI_g h0 (by omega), bind_some, getI_g h0 (by omega), bind_some, bind_some, bind_some]
            rfl
          by_cases ho : 0 ≤ nx l i
          · rw [bif_pos ho, getI_g ho (by omega), bind_some, bind_some, decide_eq_true ho, Bool.true_and, dec_not (p := gI x.States (nx l i) ≠ 2) (q := gI x.States (nx l i) = 2) Iff.rfl]
            cases a4 : decide (gI x.States (nx l i) = 2) with
            | false => rfl
            | true => exact fin
          · rw [bif_neg ho, bind_some, decide_eq_false ho]
            exact fin
  · rw [bif_pos hc, if_pos hc]
theorem rstart_eq (l : List T_Belt) (x : T_Line) (i : Int) (hl : SmL l) (hx : Small x) : F_ref39_Start l x i = some (startR l x i) := by
  unfold F_ref39_Start startR
  rw [copy_eq hx, bind_some, rcheck_eq l x i hl, bind_some]
  by_cases hc : chk l x i = 0
  · obtain ⟨hv, h0, h1⟩ := chk0 hc
    obtain ⟨hs, hL, _⟩ := vld_is hv
    obtain ⟨L1, L2, L3, L4⟩ := hL
    obtain ⟨_, _, hr, _⟩ := snd_is hs
    have hg := getI_ok (l := l) h0 h1
    have hnx := nx_range hr i
    rw [bif_neg (fun h => h hc), if_neg (fun h => h hc), hg, getI_g h0 (by omega), getI_b h0 (by omega), getI_b h0 (by omega)]
    simp only [bind_some]
    rw [← nx_get hg]
    unfold noStart
    rw [dec_not (p := gI x.States i ≠ 0) (q := gI x.States i = 0) Iff.rfl]
    cases a1 : decide (gI x.States i = 0) with
    | false => rfl
    | true =>
      rw [Bool.not_true, cond_false, cond_false]
      cases a2 : gB x.Pulled i with
      | true => rfl
      | false =>
        rw [cond_false, bind_some]
        dsimp only
        cases a3 : gB x.Held i with
        | true => rfl
        | false =>
          rw [cond_false, Bool.or_false, cond_false]
          by_cases ho : 0 ≤ nx l i
          · rw [bif_pos ho, getI_g ho (by omega), bind_some, bind_some, decide_eq_true ho, Bool.true_and]
            dsimp only
            rw [dec_not (p := gI x.States (nx l i) ≠ 2) (q := gI x.States (nx l i) = 2) Iff.rfl]
            cases a4 : decide (gI x.States (nx l i) = 2) with
            | false => rfl
            | true =>
              rw [Bool.not_true, cond_false, getI_g h0 (by omega), bind_some, getI_g h0 (by omega), bind_some]
              rfl
          · rw [bif_neg ho, bind_some, decide_eq_false ho]
            dsimp only
            rw [cond_false, getI_g h0 (by omega), bind_some, getI_g h0 (by omega), bind_some]
            rfl
  · rw [bif_pos hc, if_pos hc]

/-- What is due. -/
def due (l : List T_Belt) (x : T_Line) (t : Int) (k : Nat) : Bool := decide (s0 x k = 1) && decide (c0 x k + ((l[k]?).map (·.Warn)).getD 0 ≤ t)
def waitY (l : List T_Belt) (x : T_Line) (t : Int) : T_Line :=
  ⟨t, tab l.length (fun k => bif due l x t k then 2 else s0 x k), tab l.length (fun k => bif due l x t k then c0 x k + ((l[k]?).map (·.Warn)).getD 0 else c0 x k), x.Pulled, x.Held⟩
def waitR (l : List T_Belt) (x : T_Line) (t : Int) : T_Line × Int :=
  if Vld l x = false then (x, 6) else if t < x.Time ∨ 2147483648 < t then (x, 8) else (waitY l x t, 0)
theorem s0_g {x : T_Line} {k : Nat} : gI x.States (k : Int) = s0 x k := rfl
theorem c0_g {x : T_Line} {k : Nat} : gI x.Since (k : Int) = c0 x k := rfl
theorem c0_bd {l : List T_Belt} {x : T_Line} (hv : Vld l x = true) {k : Nat} (hk : k < l.length) : 0 ≤ c0 x k ∧ c0 x k ≤ x.Time ∧ x.Time ≤ 2147483648 ∧ 0 ≤ ((l[k]?).map (·.Warn)).getD 0 ∧ ((l[k]?).map (·.Warn)).getD 0 ≤ 120 ∧ 0 ≤ s0 x k ∧ s0 x k ≤ 2 := by
  obtain ⟨hs, hL, h0, h1, hb⟩ := vld_is hv
  obtain ⟨_, _, _, hw, _⟩ := snd_is hs
  have := hb (k : Int) (by omega) (by omega)
  unfold badV at this
  simp only [Bool.or_eq_false_iff] at this
  have h2 := this.1.2
  have h3 := this.1.1
  simp at h2 h3
  rw [c0_g] at h2
  rw [s0_g] at h3
  have hw' := hw l[k] (List.getElem_mem hk)
  rw [List.getElem?_eq_getElem hk]
  exact ⟨h2.1, h2.2, h1, hw'.1, hw'.2, h3.1, h3.2⟩
end Go.L
