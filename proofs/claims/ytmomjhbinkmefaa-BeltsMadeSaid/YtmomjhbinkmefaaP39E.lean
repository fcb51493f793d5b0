/- Belts: numbers that are given out; BeltsMade. -/
import Derived.Test.YtmomjhbinkmefaaP39D
namespace Go.L
open Go Go.Aml

def DiceOk (d : T_made_Dice) : Prop := d.L.length ≤ 400 ∧ 0 ≤ d.At ∧ d.At ≤ 400
theorem mmod_ok (k n : Int) (hn : n ≤ 4611686018427387904) : Ok (F_made_Mod k n) fun r => 0 ≤ r ∧ (1 ≤ n → r < n) ∧ (n < 1 → r = 0) := by
  unfold F_made_Mod
  refine ok_dec (fun h => ok_some ⟨by decide, fun h' => by omega, fun _ => rfl⟩) (fun h => ?_)
  rw [remI_ok (by omega), bind_some]
  have h1 : k.tmod n < n := Int.tmod_lt_of_pos k (by omega)
  have h2 : -n < k.tmod n := by
    have := Int.tmod_lt_of_pos (-k) (show 0 < n by omega)
    rw [Int.neg_tmod] at this
    omega
  refine ok_bind (Q := fun r => 0 ≤ r ∧ r < n) (ok_dec (fun h3 => ok_some ?_) (fun h3 => ok_some ⟨by omega, h1⟩)) fun r hr => ok_some ⟨hr.1, fun _ => hr.2, fun h' => by omega⟩
  rw [w64 (by omega) (by omega)]
  omega
theorem dnext_ok (d : T_made_Dice) (n : Int) (hd : DiceOk d) (hn : n ≤ 1000000) : Ok (F_made_Dice_Next d n) fun r => DiceOk r.1 ∧ 0 ≤ r.2 ∧ (1 ≤ n → r.2 < n) ∧ (n < 1 → r.2 = 0) := by
  obtain ⟨h1, h2, h3⟩ := hd
  unfold F_made_Dice_Next
  refine ok_dec (fun h => ok_some ⟨⟨h1, h2, h3⟩, Int.le_refl 0, fun h => by dsimp only; omega, fun _ => rfl⟩) (fun h => ?_)
  rw [w64 (n := d.At + 1) (by omega) (by omega), w64 (n := d.At + 1 - 1) (by omega) (by omega)]
  refine ok_bind (ok_getI (by omega) (by omega)) fun x _ => ?_
  refine ok_bind (mmod_ok x n (by omega)) fun y hy => ok_some ⟨⟨h1, ?_, ?_⟩, hy⟩
  · dsimp only; omega
  · dsimp only; omega
theorem dnext_lt (d : T_made_Dice) (n : Int) (hd : DiceOk d) (h1 : 1 ≤ n) (hn : n ≤ 1000000) : Ok (F_made_Dice_Next d n) fun r => DiceOk r.1 ∧ 0 ≤ r.2 ∧ r.2 < n :=
  ok_mono (dnext_ok d n hd hn) fun r h => ⟨h.1, h.2.1, h.2.2.1 h1⟩
theorem of_ok (d : T_made_Dice) (l : List Int) (hd : DiceOk d) (h0 : l ≠ []) (hl : l.length ≤ 1000) : Ok (F_made_Dice_Of d l) fun r => DiceOk r.1 ∧ r.2 ∈ l := by
  have : 1 ≤ l.length := List.length_pos_iff.2 h0
  unfold F_made_Dice_Of
  refine ok_bind (dnext_lt d _ hd (by omega) (by omega)) fun x hx => ?_
  refine ok_bind (ok_getI hx.2.1 hx.2.2) fun y hy => ok_some ⟨hx.1, List.mem_of_getElem? hy⟩
theorem done_ok (d : T_made_Dice) (n : Int) (hd : DiceOk d) (hn : n ≤ 1000000) : Ok (F_made_Dice_One d n) fun r => DiceOk r.1 := by
  unfold F_made_Dice_One
  exact ok_bind (dnext_ok d n hd hn) fun x hx => ok_some hx.1
theorem roll_ok (l : List Int) (hl : l.length ≤ 400) : Ok (F_made_Roll l) DiceOk := by
  unfold F_made_Roll
  exact ok_some ⟨hl, Int.le_refl 0, by show (0 : Int) ≤ 400; decide⟩
/-- Belts that are made: each throws onto one before it, or onto none. -/
def Back (l : List T_Belt) : Prop := l.length ≤ 6 ∧ ∀ (i : Nat) (b : T_Belt), l[i]? = some b → -1 ≤ b.Onto ∧ b.Onto < (i : Int) ∧ (b.Warn = 5 ∨ b.Warn = 0 ∨ b.Warn = 20)
theorem back_app {l : List T_Belt} (h : Back l) (hl : l.length < 6) {o w : Int} (ho : 0 ≤ o ∧ o < (l.length : Int) + 1) (hw : w = 5 ∨ w = 0 ∨ w = 20) : Back (l ++ [⟨o - 1, w⟩]) := by
  refine ⟨by simp; omega, fun i b hb => ?_⟩
  by_cases hi : i < l.length
  · rw [List.getElem?_append_left hi] at hb
    exact h.2 i b hb
  · rw [List.getElem?_append_right (by omega)] at hb
    by_cases e : i = l.length
    · subst e
      simp at hb
      subst hb
      exact ⟨by dsimp only; omega, by dsimp only; omega, hw⟩
    · rw [List.getElem?_eq_none (by simp; omega)] at hb
      cases hb
theorem some_loop (n : Int) (d : T_made_Dice) (hd : DiceOk d) (h0 : 1 ≤ n) (hn : n ≤ 6) : Ok (loopC F_law39_some_L1 (n, ([] : List T_Belt), d)) fun r => DiceOk r.2 ∧ (r.1.length : Int) = n ∧ Back r.1 := by
  refine ok_loop (fun s : Int × List T_Belt × T_made_Dice => 0 ≤ s.1 ∧ (s.2.1.length : Int) + s.1 = n ∧ DiceOk s.2.2 ∧ Back s.2.1) (fun s => s.1.toNat) _ (fun s hs => ?_) _ ⟨by dsimp only; omega, by simp, hd, by simp, fun i b hb => by simp at hb⟩
  obtain ⟨k, l, d⟩ := s
  obtain ⟨a1, a2, a3, a4⟩ := hs
  dsimp only at a1 a2 a3 a4
  unfold F_law39_some_L1
  dsimp only
  refine ok_dec (fun hk => ?_) (fun hk => ok_some ⟨a3, by dsimp only; omega, a4⟩)
  rw [w64 (n := (l.length : Int) + 1) (by omega) (by omega)]
  refine ok_bind (dnext_lt d _ a3 (by omega) (by omega)) fun x6 h6 => ?_
  refine ok_bind (of_ok x6.1 [5, 0, 20] h6.1 (by simp) (by simp)) fun x8 h8 => ?_
  rw [w64 (n := x6.2 - 1) (by omega) (by omega), appI_ok (by simp; omega), bind_some, w64 (by omega) (by omega)]
  refine ok_some ⟨⟨by dsimp only; omega, ?_, h8.1, back_app a4 (by omega) h6.2 (by simpa using h8.2)⟩, ?_⟩
  · dsimp only; rw [List.length_append, List.length_singleton]; omega
  · show (k - 1).toNat < k.toNat; omega
theorem msome_ok (d : T_made_Dice) (hd : DiceOk d) : Ok (F_law39_some d) fun r => DiceOk r.1 ∧ 1 ≤ r.2.length ∧ r.2.length ≤ 6 := by
  unfold F_law39_some
  refine ok_bind (dnext_lt d 6 hd (by decide) (by decide)) fun x1 h1 => ?_
  rw [w64 (n := 1 + x1.2) (by omega) (by omega)]
  refine ok_bind (some_loop _ x1.1 h1.1 (by omega) (by omega)) fun o4 h4 => ?_
  refine ok_bind (done_ok o4.2 6 h4.1 (by decide)) fun x12 h12 => ?_
  have hl : 1 ≤ o4.1.length ∧ o4.1.length ≤ 6 := ⟨by omega, h4.2.2.1⟩
  refine ok_bind (Q := fun l : List T_Belt => 1 ≤ l.length ∧ l.length ≤ 6) (ok_bif (fun _ => ?_) (fun _ => ok_some hl)) fun o14 h14 => ok_some ⟨h12, h14⟩
  rw [getI_ok (by decide) (by omega), bind_some]
  refine ok_some ?_
  simpa using hl
/-- All rows are as long as the belts, or empty. -/
def Rows_ (l : List T_Belt) (x : T_Line) : Prop := Lens l x ∨ (x.States = [] ∧ x.Since = [] ∧ x.Pulled = [] ∧ x.Held = [])
theorem rows_small {l : List T_Belt} {x : T_Line} (hl : l.length ≤ 6) (h : Rows_ l x) : Small x := by
  rcases h with ⟨L1, L2, L3, L4⟩ | ⟨h1, h2, h3, h4⟩
  · exact ⟨by omega, by omega, by omega, by omega⟩
  · exact ⟨by simp [h1], by simp [h2], by simp [h3], by simp [h4]⟩
theorem rows_step {l : List T_Belt} {x : T_Line} (h : Rows_ l x) (what i t : Int) : Rows_ l (stepR l x what i t).1 := by
  rcases step_lens l x what i t with h' | ⟨_, hL⟩
  · rw [h']; exact h
  · exact .inl hL
theorem law_BeltsMade (p0 : List Int) (w0 : InL (In .i64) p0) : F_law39_BeltsMade p0 = some true := by
  refine Ok.val ?_
  unfold F_law39_BeltsMade F_made_Light
  rw [bind_some]
  refine ok_bif (fun _ => ok_awake (ok_some rfl)) (fun hlt => ?_)
  have hlt : p0.length ≤ 400 := by simp at hlt; omega
  refine ok_bind (roll_ok p0 hlt) fun x6 h6 => ?_
  refine ok_bind (msome_ok x6 h6) fun x8 h8 => ?_
  have hl : SmL x8.2 := by unfold SmL; omega
  rw [rmake_eq _ hl, bind_some]
  have hmk : Rows_ x8.2 (makeR x8.2).1 := by
    unfold makeR
    split
    · exact .inl ⟨by simp, by simp, by simp, by simp⟩
    · exact .inr ⟨rfl, rfl, rfl, rfl⟩
  refine ok_bind (dnext_lt x8.1 20 h8.1 (by decide) (by decide)) fun x12 h12 => ?_
  refine ok_bind (Q := fun o => ∃ j : T_made_Dice × T_Line, o = .inr j ∧ DiceOk j.1 ∧ Rows_ x8.2 j.2) (ok_loop (fun s : Int × T_made_Dice × T_Line => 0 ≤ s.1 ∧ s.1 ≤ 20 ∧ DiceOk s.2.1 ∧ Rows_ x8.2 s.2.2) (fun s => s.1.toNat) _ (fun s hs => ?_) _ ⟨h12.2.1, by dsimp only; omega, h12.1, hmk⟩) fun o15 h15 => ?_
  · obtain ⟨k, d, x⟩ := s
    obtain ⟨a1, a2, a3, a4⟩ := hs
    dsimp only at a1 a2 a3 a4
    unfold F_law39_BeltsMade_L1
    dsimp only
    refine ok_dec (fun hk => ?_) (fun hk => ok_some ⟨_, rfl, a3, a4⟩)
    rw [w64 (n := (x8.2.length : Int) + 1) (by omega) (by omega)]
    refine ok_bind (dnext_lt d _ a3 (by omega) (by omega)) fun x19 h19 => ?_
    refine ok_bind (dnext_lt _ 2 h19.1 (by decide) (by decide)) fun x21 h21 => ?_
    refine ok_bind (of_ok x21.1 [5, 0, 3, 20, (-1)] h21.1 (by simp) (by simp)) fun x23 h23 => ?_
    have hx := rows_small h8.2.2 a4
    rw [agree_ok _ _ _ _ hl hx, bind_some, Bool.not_true, cond_false]
    refine ok_bind (of_ok x23.1 [0, 0, 1, 1, 2, 3, 4, 5] h23.1 (by simp) (by simp)) fun x28 h28 => ?_
    rw [step_eq _ _ _ _ _ hl hx, bind_some, w64 (n := k - 1) (by omega) (by omega)]
    refine ok_some ⟨⟨by dsimp only; omega, by dsimp only; omega, h28.1, rows_step a4 _ _ _⟩, ?_⟩
    show (k - 1).toNat < k.toNat
    omega
  · obtain ⟨j, rfl, h1, h2⟩ := h15
    dsimp only [Sum.elim_inr]
    refine ok_bind (Q := Small) (ok_dec (fun hpos => ?_) (fun _ => ok_some (rows_small h8.2.2 h2))) fun o32 h32 => ?_
    · have hL : Lens x8.2 j.2 := by
        rcases h2 with h | ⟨h, _⟩
        · exact h
        · rw [h] at hpos; simp at hpos
      obtain ⟨L1, L2, L3, L4⟩ := hL
      refine ok_bind (dnext_lt j.1 _ h1 (by omega) (by omega)) fun x34 h34 => ?_
      refine ok_bind (dnext_lt _ 4 h34.1 (by decide) (by decide)) fun x36 h36 => ?_
      have sm : ∀ (a b : List Int) (c e : List Bool), a.length ≤ 6 → b.length ≤ 6 → c.length ≤ 6 → e.length ≤ 6 → Small ⟨j.2.Time, a, b, c, e⟩ := fun a b c e h1 h2 h3 h4 => ⟨by dsimp only; omega, by dsimp only; omega, by dsimp only; omega, by dsimp only; omega⟩
      refine ok_dec (fun _ => ?_) (fun _ => ?_)
      · refine ok_bind (of_ok x36.1 [2, 3, (-1)] h36.1 (by simp) (by simp)) fun x39 _ => ?_
        refine ok_bind (ok_getI h34.2.1 (by omega)) fun _ _ => ok_some (sm _ _ _ _ ?_ ?_ ?_ ?_)
        · rw [List.length_set]; omega
        · omega
        · omega
        · omega
      refine ok_dec (fun _ => ?_) (fun _ => ?_)
      · refine ok_bind (ok_getI h34.2.1 (by omega)) fun _ _ => ok_some (sm _ _ _ _ ?_ ?_ ?_ ?_)
        · omega
        · rw [List.length_set]; omega
        · omega
        · omega
      refine ok_dec (fun _ => ?_) (fun _ => ?_)
      · refine ok_bind (ok_getI h34.2.1 (by omega)) fun _ _ => ok_some (sm _ _ _ _ ?_ ?_ ?_ ?_)
        · omega
        · omega
        · rw [List.length_set]; omega
        · omega
      · refine ok_bind (ok_sliI (by decide) (by omega) (by omega)) fun x49 h49 => ok_some (sm _ _ _ _ ?_ ?_ ?_ ?_)
        · omega
        · omega
        · omega
        · rw [h49, List.length_drop, List.length_take]; omega
    · refine ok_awake ?_
      rw [cond_true, agree_ok _ _ _ _ hl h32]
      exact ok_some rfl
end Go.L
