/- Belts: all steps, what is equal, and BeltsRaw. -/
import Derived.Test.YtmomjhbinkmefaaP39C
namespace Go.L
open Go Go.Aml

/-- A loop over two rows, each number for itself. -/
theorem rows2 {σ ρ : Type} {n : Nat} (hn : n ≤ 1000000) (mk : List Int → List Int → σ) (fin : List Int → List Int → ρ) {g : Int × σ → Option ((Int × σ) ⊕ ρ)} (P : Nat → Bool) (u v a b : Nat → Int)
    (hg : ∀ (i : Nat) (S C : List Int), i < n → getI S (i : Int) = some (a i) → getI C (i : Int) = some (b i) → g ((i : Int), mk S C) = some (.inl ((i : Int) + 1, bif P i then mk (S.set i (u i)) (C.set i (v i)) else mk S C)))
    (hend : ∀ S C, g ((n : Int), mk S C) = some (.inr (fin S C))) :
    loopC g (0, mk (tab n a) (tab n b)) = some (fin (tab n fun k => bif P k then u k else a k) (tab n fun k => bif P k then v k else b k)) := by
  have key : ∀ (m i : Nat), i + m = n → loopC g ((i : Int), mk (tab n fun k => bif decide (k < i) && P k then u k else a k) (tab n fun k => bif decide (k < i) && P k then v k else b k)) = some (fin (tab n fun k => bif P k then u k else a k) (tab n fun k => bif P k then v k else b k)) := by
    intro m
    induction m with
    | zero =>
      intro i hi
      have : i = n := by omega
      subst this
      rw [loopC_inr (hend _ _)]
      congr 2
      · exact tab_ext fun k hk => by rw [decide_eq_true hk, Bool.true_and]
      · exact tab_ext fun k hk => by rw [decide_eq_true hk, Bool.true_and]
    | succ m ih =>
      intro i hi
      have hii : decide (i < i) = false := decide_eq_false (by omega)
      have h := hg i (tab n fun k => bif decide (k < i) && P k then u k else a k) (tab n fun k => bif decide (k < i) && P k then v k else b k) (by omega)
        (by rw [tab_get (by omega) (by omega), Int.toNat_natCast, hii]; rfl) (by rw [tab_get (by omega) (by omega), Int.toNat_natCast, hii]; rfl)
      rw [loopC_inl h, show ((i : Int) + 1) = ((i + 1 : Nat) : Int) by omega, ← ih (i + 1) (by omega)]
      congr 2
      cases hp : P i with
      | true =>
        rw [cond_true, tab_set, tab_set]
        congr 1
        · exact tab_ext fun k hk => by
            by_cases e : k = i
            · subst e; rw [if_pos rfl, decide_eq_true (show k < k + 1 by omega), hp]; rfl
            · rw [if_neg e, show decide (k < i + 1) = decide (k < i) from decide_eq_decide.2 (by omega)]
        · exact tab_ext fun k hk => by
            by_cases e : k = i
            · subst e; rw [if_pos rfl, decide_eq_true (show k < k + 1 by omega), hp]; rfl
            · rw [if_neg e, show decide (k < i + 1) = decide (k < i) from decide_eq_decide.2 (by omega)]
      | false =>
        rw [cond_false]
        congr 1
        · exact tab_ext fun k hk => by
            by_cases e : k = i
            · subst e; rw [hp, Bool.and_false, Bool.and_false]
            · rw [show decide (k < i + 1) = decide (k < i) from decide_eq_decide.2 (by omega)]
        · exact tab_ext fun k hk => by
            by_cases e : k = i
            · subst e; rw [hp, Bool.and_false, Bool.and_false]
            · rw [show decide (k < i + 1) = decide (k < i) from decide_eq_decide.2 (by omega)]
  exact key n 0 (by omega)

theorem wait_eq (l : List T_Belt) (x : T_Line) (t : Int) (hl : SmL l) : F_belts_Wait l x t = some (waitR l x t) := by
  unfold F_belts_Wait waitR
  rw [valid_eq l x hl, bind_some]
  cases hv : Vld l x with
  | false => rfl
  | true =>
    obtain ⟨hs, hL, _⟩ := vld_is hv
    have hsm := small_of hs hL
    obtain ⟨L1, L2, L3, L4⟩ := hL
    rw [Bool.not_true, cond_false, if_neg (by simp), inR_eq, bind_some]
    by_cases ht : t < x.Time ∨ 2147483648 < t
    · rw [if_pos ht]
      have : (decide (x.Time ≤ t) && decide (t ≤ 2147483648)) = false := by
        rcases ht with h | h
        · rw [decide_eq_false (by omega)]; rfl
        · rw [decide_eq_false (show ¬ t ≤ 2147483648 by omega), Bool.and_false]
      rw [this]
      rfl
    · rw [if_neg ht, decide_eq_true (show x.Time ≤ t by omega), decide_eq_true (show t ≤ 2147483648 by omega), Bool.and_self, Bool.not_true, cond_false]
      unfold F_belts_done__belts_Wait_1 F_belts_Wait_1
      rw [clone_i _ hsm.1, bind_some, clone_i _ hsm.2.1, bind_some, clone_b _ hsm.2.2.1, bind_some, clone_b _ hsm.2.2.2, bind_some]
      dsimp only
      have key := rows2 (n := l.length) (g := F_belts_Wait_1_L1 ⟨x.Time, x.States, x.Since, x.Pulled, x.Held⟩ t l) (by unfold SmL at hl; omega) (fun S C => (S, C)) (fun S C => (S, C)) (due l x t) (fun _ => 2) (fun k => c0 x k + ((l[k]?).map (·.Warn)).getD 0) (s0 x) (c0 x)
        (fun i S C hi hS hC => by
          unfold F_belts_Wait_1_L1
          have hg := getI_ok (l := l) (i := (i : Int)) (by omega) (by omega)
          have hb := c0_bd hv hi
          have hln : l.length ≤ 1000 := hl
          have hw : ((l[i]?).map (·.Warn)).getD 0 = (l[((i : Int)).toNat]'(by omega)).Warn := by
            rw [List.getElem?_eq_getElem hi]; rfl
          dsimp only
          rw [bif_pos (by omega), hS, hC, hg]
          simp only [bind_some]
          rw [← hw, w64 (n := c0 x i + _) (by omega) (by omega), and_bif rfl, bind_some, w64 (by omega) (by omega)]
          have e : decide (s0 x i = 1 ∧ c0 x i + ((l[i]?).map (·.Warn)).getD 0 ≤ t) = due l x t i := by
            unfold due
            rw [Bool.eq_iff_iff]
            simp
          rw [e]
          cases due l x t i <;> rfl)
        (fun S C => by unfold F_belts_Wait_1_L1; dsimp only; rw [bif_neg (by omega)])
      rw [← tabS L1, ← tabC L2] at key
      rw [key, bind_some]
      rfl
theorem rwait_eq (l : List T_Belt) (x : T_Line) (t : Int) (hl : SmL l) (hx : Small x) : F_ref39_Wait l x t = some (waitR l x t) := by
  unfold F_ref39_Wait waitR
  rw [copy_eq hx, bind_some, rvalid_eq l x hl, bind_some]
  cases hv : Vld l x with
  | false => rfl
  | true =>
    obtain ⟨hs, hL, _⟩ := vld_is hv
    obtain ⟨L1, L2, L3, L4⟩ := hL
    rw [Bool.not_true, cond_false, if_neg (by simp)]
    have e : ((bif decide (t < x.Time) then some (true, x) else some (decide (2147483648 < t), x)) : Option (Bool × T_Line)) = some (decide (t < x.Time ∨ 2147483648 < t), x) := by
      by_cases h : t < x.Time
      · rw [bif_pos h, decide_eq_true (.inl h)]
      · rw [bif_neg h]
        congr 2
        exact decide_eq_decide.2 ⟨.inr, fun h' => h'.resolve_left h⟩
    rw [e, bind_some]
    dsimp only
    by_cases ht : t < x.Time ∨ 2147483648 < t
    · rw [if_pos ht, bif_pos ht]
    · rw [if_neg ht, bif_neg ht]
      have key := rows2 (n := l.length) (g := F_ref39_Wait_L1 l t) (by unfold SmL at hl; omega) (fun S C => (⟨x.Time, S, C, x.Pulled, x.Held⟩ : T_Line)) (fun S C => (⟨x.Time, S, C, x.Pulled, x.Held⟩ : T_Line)) (due l x t) (fun _ => 2) (fun k => c0 x k + ((l[k]?).map (·.Warn)).getD 0) (s0 x) (c0 x)
        (fun i S C hi hS hC => by
          unfold F_ref39_Wait_L1
          have hg := getI_ok (l := l) (i := (i : Int)) (by omega) (by omega)
          have hb := c0_bd hv hi
          have hln : l.length ≤ 1000 := hl
          have hw : ((l[i]?).map (·.Warn)).getD 0 = (l[((i : Int)).toNat]'(by omega)).Warn := by
            rw [List.getElem?_eq_getElem hi]; rfl
          dsimp only
          rw [bif_pos (by omega), hS, hC, hg]
          simp only [bind_some]
          rw [← hw, w64 (n := c0 x i + _) (by omega) (by omega)]
          have e : ((bif decide (s0 x i = 1) then some (decide (c0 x i + ((l[i]?).map (·.Warn)).getD 0 ≤ t), (⟨x.Time, S, C, x.Pulled, x.Held⟩ : T_Line)) else some (false, ⟨x.Time, S, C, x.Pulled, x.Held⟩)) : Option (Bool × T_Line)) = some (due l x t i, ⟨x.Time, S, C, x.Pulled, x.Held⟩) := by
            unfold due
            cases decide (s0 x i = 1) <;> rfl
          rw [e, bind_some]
          dsimp only
          rw [hS, hC]
          simp only [bind_some]
          rw [w64 (n := c0 x i + _) (by omega) (by omega), w64 (by omega) (by omega)]
          cases due l x t i <;> rfl)
        (fun S C => by unfold F_ref39_Wait_L1; dsimp only; rw [bif_neg (by omega)])
      rw [← tabS L1, ← tabC L2] at key
      rw [key, bind_some]
      rfl

def stopR (l : List T_Belt) (x : T_Line) (i : Int) : T_Line × Int := if chk l x i ≠ 0 then (x, chk l x i) else (stopX l x i, 0)
theorem doStop {l : List T_Belt} {x : T_Line} {i : Int} (hc : chk l x i = 0) : F_belts_stop l ⟨x.Time, x.States, x.Since, x.Pulled, x.Held⟩ i = some (stopX l x i) ∧ Small x ∧ Lens l x := by
  obtain ⟨hv, h0, h1⟩ := chk0 hc
  obtain ⟨hs, hL, _⟩ := vld_is hv
  exact ⟨stop_eq hs hL i, small_of hs hL, hL⟩
theorem stop_eq' (l : List T_Belt) (x : T_Line) (i : Int) (hl : SmL l) : F_belts_Stop l x i = some (stopR l x i) := by
  unfold F_belts_Stop stopR
  rw [checked_eq l x i hl, bind_some]
  by_cases hc : chk l x i = 0
  · obtain ⟨h1, hsm, _⟩ := doStop hc
    rw [bif_neg (fun h => h hc), if_neg (fun h => h hc)]
    unfold F_belts_done__belts_Stop_1 F_belts_Stop_1
    rw [clone_i _ hsm.1, bind_some, clone_i _ hsm.2.1, bind_some, clone_b _ hsm.2.2.1, bind_some, clone_b _ hsm.2.2.2, bind_some, h1]
    rfl
  · rw [bif_pos hc, if_pos hc]
theorem rstop_eq' (l : List T_Belt) (x : T_Line) (i : Int) (hl : SmL l) (hx : Small x) : F_ref39_Stop l x i = some (stopR l x i) := by
  unfold F_ref39_Stop stopR
  rw [rcheck_eq l x i hl, bind_some]
  by_cases hc : chk l x i = 0
  · obtain ⟨hv, h0, h1⟩ := chk0 hc
    obtain ⟨hs, hL, _⟩ := vld_is hv
    rw [bif_neg (fun h => h hc), if_neg (fun h => h hc), rstop_eq hs hL h0 h1]
    rfl
  · rw [bif_pos hc, if_pos hc, copy_eq hx]
    rfl
def pullY (l : List T_Belt) (x : T_Line) (i : Int) : T_Line := ⟨x.Time, (stopX l x i).States, (stopX l x i).Since, x.Pulled.set i.toNat true, x.Held⟩
def pullR (l : List T_Belt) (x : T_Line) (i : Int) : T_Line × Int := if chk l x i ≠ 0 then (x, chk l x i) else (pullY l x i, 0)
theorem pull_eq (l : List T_Belt) (x : T_Line) (i : Int) (hl : SmL l) : F_belts_Pull l x i = some (pullR l x i) := by
  unfold F_belts_Pull pullR
  rw [checked_eq l x i hl, bind_some]
  by_cases hc : chk l x i = 0
  · obtain ⟨_, h0, h1⟩ := chk0 hc
    obtain ⟨hst, hsm, hL⟩ := doStop hc
    obtain ⟨_, _, L3, _⟩ := hL
    rw [bif_neg (fun h => h hc), if_neg (fun h => h hc)]
    unfold F_belts_done__belts_Pull_1 F_belts_Pull_1
    rw [clone_i _ hsm.1, bind_some, clone_i _ hsm.2.1, bind_some, clone_b _ hsm.2.2.1, bind_some, clone_b _ hsm.2.2.2, bind_some, hst, bind_some]
    have : getI (stopX l x i).Pulled i = some (gB x.Pulled i) := getI_b (l := x.Pulled) h0 (by omega)
    rw [this]
    rfl
  · rw [bif_pos hc, if_pos hc]
theorem rpull_eq (l : List T_Belt) (x : T_Line) (i : Int) (hl : SmL l) (hx : Small x) : F_ref39_Pull l x i = some (pullR l x i) := by
  unfold F_ref39_Pull pullR
  rw [rcheck_eq l x i hl, bind_some]
  by_cases hc : chk l x i = 0
  · obtain ⟨hv, h0, h1⟩ := chk0 hc
    obtain ⟨hs, hL, _⟩ := vld_is hv
    rw [bif_neg (fun h => h hc), if_neg (fun h => h hc), rstop_eq hs hL h0 h1, bind_some]
    obtain ⟨_, _, L3, _⟩ := hL
    have : getI (stopX l x i).Pulled i = some (gB x.Pulled i) := getI_b (l := x.Pulled) h0 (by omega)
    rw [this]
    rfl
  · rw [bif_pos hc, if_pos hc, copy_eq hx]
    rfl
def restY (x : T_Line) (i : Int) : T_Line := ⟨x.Time, x.States, x.Since, x.Pulled.set i.toNat false, x.Held⟩
def restR (l : List T_Belt) (x : T_Line) (i : Int) : T_Line × Int := if chk l x i ≠ 0 then (x, chk l x i) else if gB x.Pulled i = false then (x, 10) else (restY x i, 0)
theorem rest_eq (l : List T_Belt) (x : T_Line) (i : Int) (hl : SmL l) : F_belts_Restore l x i = some (restR l x i) := by
  unfold F_belts_Restore restR
  rw [checked_eq l x i hl, bind_some]
  by_cases hc : chk l x i = 0
  · obtain ⟨_, h0, h1⟩ := chk0 hc
    obtain ⟨_, hsm, hL⟩ := doStop hc
    obtain ⟨_, _, L3, _⟩ := hL
    rw [bif_neg (fun h => h hc), if_neg (fun h => h hc), getI_b h0 (by omega), bind_some]
    cases gB x.Pulled i with
    | false => rfl
    | true =>
      unfold F_belts_done__belts_Restore_1 F_belts_Restore_1
      rw [clone_i _ hsm.1, bind_some, clone_i _ hsm.2.1, bind_some, clone_b _ hsm.2.2.1, bind_some, clone_b _ hsm.2.2.2, bind_some]
      dsimp only
      rw [getI_b h0 (by omega)]
      rfl
  · rw [bif_pos hc, if_pos hc]
theorem rrest_eq (l : List T_Belt) (x : T_Line) (i : Int) (hl : SmL l) (hx : Small x) : F_ref39_Restore l x i = some (restR l x i) := by
  unfold F_ref39_Restore restR
  rw [copy_eq hx, bind_some, rcheck_eq l x i hl, bind_some]
  by_cases hc : chk l x i = 0
  · obtain ⟨_, h0, h1⟩ := chk0 hc
    obtain ⟨_, hsm, hL⟩ := doStop hc
    obtain ⟨_, _, L3, _⟩ := hL
    rw [bif_neg (fun h => h hc), if_neg (fun h => h hc), getI_b h0 (by omega), bind_some]
    cases gB x.Pulled i with
    | false => rfl
    | true => rfl
  · rw [bif_pos hc, if_pos hc]
def holdY (l : List T_Belt) (x : T_Line) (i : Int) (h : Bool) : T_Line := bif h then ⟨x.Time, (stopX l x i).States, (stopX l x i).Since, x.Pulled, x.Held.set i.toNat h⟩ else ⟨x.Time, x.States, x.Since, x.Pulled, x.Held.set i.toNat h⟩
def holdR (l : List T_Belt) (x : T_Line) (i : Int) (h : Bool) : T_Line × Int := if chk l x i ≠ 0 then (x, chk l x i) else (holdY l x i h, 0)
theorem hold_eq (l : List T_Belt) (x : T_Line) (i : Int) (h : Bool) (hl : SmL l) : F_belts_Hold l x i h = some (holdR l x i h) := by
  unfold F_belts_Hold holdR
  rw [checked_eq l x i hl, bind_some]
  by_cases hc : chk l x i = 0
  · obtain ⟨_, h0, h1⟩ := chk0 hc
    obtain ⟨hst, hsm, hL⟩ := doStop hc
    obtain ⟨_, _, _, L4⟩ := hL
    rw [bif_neg (fun h => h hc), if_neg (fun h => h hc)]
    unfold F_belts_done__belts_Hold_1 F_belts_Hold_1
    rw [clone_i _ hsm.1, bind_some, clone_i _ hsm.2.1, bind_some, clone_b _ hsm.2.2.1, bind_some, clone_b _ hsm.2.2.2, bind_some, hst, bind_some]
    cases h with
    | true =>
      rw [cond_true, bind_some]
      dsimp only
      have : getI (stopX l x i).Held i = some (gB x.Held i) := getI_b (l := x.Held) h0 (by omega)
      rw [this]
      rfl
    | false =>
      rw [cond_false, bind_some]
      dsimp only
      rw [getI_b h0 (by omega)]
      rfl
  · rw [bif_pos hc, if_pos hc]
theorem rhold_eq (l : List T_Belt) (x : T_Line) (i : Int) (h : Bool) (hl : SmL l) (hx : Small x) : F_ref39_Hold l x i h = some (holdR l x i h) := by
  unfold F_ref39_Hold holdR
  rw [copy_eq hx, bind_some, rcheck_eq l x i hl, bind_some]
  by_cases hc : chk l x i = 0
  · obtain ⟨hv, h0, h1⟩ := chk0 hc
    obtain ⟨hs, hL, _⟩ := vld_is hv
    rw [bif_neg (fun h => h hc), if_neg (fun h => h hc), rstop_eq hs hL h0 h1]
    obtain ⟨_, _, _, L4⟩ := hL
    cases h with
    | true =>
      rw [cond_true, bind_some, bind_some]
      have : getI (stopX l x i).Held i = some (gB x.Held i) := getI_b (l := x.Held) h0 (by omega)
      rw [this]
      rfl
    | false =>
      rw [cond_false, bind_some, getI_b h0 (by omega)]
      rfl
  · rw [bif_pos hc, if_pos hc]

/-! ### what is equal -/
theorem sameI (l : List Int) (hl : l.length ≤ 1000000) : F_ref23_SameInts l l = some true := by
  unfold F_ref23_SameInts
  rw [bif_neg (fun h => h rfl), scan (n := l.length) hl (fun _ => false) (fun i h0 hi => ?_) (by unfold F_ref23_SameInts_L1; rw [bif_neg (by omega)]), bind_some]
  · simp
  · unfold F_ref23_SameInts_L1
    rw [bif_pos hi, getI_ok h0 hi, bind_some, bind_some, bif_neg (fun h => h rfl), w64 (by omega) (by omega)]
    rfl
theorem sameB (l : List Bool) (hl : l.length ≤ 1000000) : F_ref39_sameBools l l = some true := by
  unfold F_ref39_sameBools
  rw [bif_neg (fun h => h rfl), scan (n := l.length) hl (fun _ => false) (fun i h0 hi => ?_) (by unfold F_ref39_sameBools_L1; rw [bif_neg (by omega)]), bind_some]
  · simp
  · unfold F_ref39_sameBools_L1
    rw [bif_pos hi, getI_ok h0 hi, bind_some, bind_some, bne_self_eq_false, cond_false, w64 (by omega) (by omega)]
    rfl
theorem same_eq {x : T_Line} (h : Small x) : F_ref39_Same x x = some true := by
  obtain ⟨h1, h2, h3, h4⟩ := h
  unfold F_ref39_Same
  rw [bif_pos rfl, sameI _ (by omega), bind_some, cond_true, sameI _ (by omega), bind_some, cond_true, sameB _ (by omega), bind_some, cond_true, sameB _ (by omega), bind_some]
def makeR (l : List T_Belt) : T_Line × Int := if Snd l = true then (⟨0, List.replicate l.length 0, List.replicate l.length 0, List.replicate l.length false, List.replicate l.length false⟩, 0) else (⟨0, [], [], [], []⟩, 6)
theorem make_eq (l : List T_Belt) (hl : SmL l) : F_belts_Make l = some (makeR l) := by
  unfold F_belts_Make makeR SmL at *
  rw [sound_eq l hl, bind_some]
  cases Snd l with
  | false => rfl
  | true =>
    rw [Bool.not_true, cond_false, makI_ok (by omega) (by omega), bind_some, bind_some, makI_ok (by omega) (by omega), bind_some, bind_some, if_pos rfl, Int.toNat_natCast]
theorem rmake_eq (l : List T_Belt) (hl : SmL l) : F_ref39_Make l = some (makeR l) := by
  unfold F_ref39_Make makeR SmL at *
  rw [rbelts_eq l hl, bind_some]
  cases Snd l with
  | false => rfl
  | true =>
    rw [Bool.not_true, cond_false, makI_ok (by omega) (by omega), bind_some, bind_some, makI_ok (by omega) (by omega), bind_some, bind_some, if_pos rfl, Int.toNat_natCast]
def stepR (l : List T_Belt) (x : T_Line) (what i t : Int) : T_Line × Int :=
  if what = 0 then startR l x i else if what = 1 then waitR l x t else if what = 2 then stopR l x i else if what = 3 then pullR l x i else if what = 4 then restR l x i else holdR l x i (decide (Int.tmod t 2 = 0))
theorem step_eq (l : List T_Belt) (x : T_Line) (what i t : Int) (hl : SmL l) (hx : Small x) : F_law39_step l x what i t = some ((stepR l x what i t).1, (stepR l x what i t).2, (stepR l x what i t).1, (stepR l x what i t).2) := by
  unfold F_law39_step stepR
  by_cases h0 : what = 0
  · rw [bif_pos h0, if_pos h0, start_eq l x i hl, bind_some, rstart_eq l x i hl hx, bind_some]
  rw [bif_neg h0, if_neg h0]
  by_cases h1 : what = 1
  · rw [bif_pos h1, if_pos h1, wait_eq l x t hl, bind_some, rwait_eq l x t hl hx, bind_some]
  rw [bif_neg h1, if_neg h1]
  by_cases h2 : what = 2
  · rw [bif_pos h2, if_pos h2, stop_eq' l x i hl, bind_some, rstop_eq' l x i hl hx, bind_some]
  rw [bif_neg h2, if_neg h2]
  by_cases h3 : what = 3
  · rw [bif_pos h3, if_pos h3, pull_eq l x i hl, bind_some, rpull_eq l x i hl hx, bind_some]
  rw [bif_neg h3, if_neg h3]
  by_cases h4 : what = 4
  · rw [bif_pos h4, if_pos h4, rest_eq l x i hl, bind_some, rrest_eq l x i hl hx, bind_some]
  rw [bif_neg h4, if_neg h4, hold_eq l x i _ hl, bind_some, rhold_eq l x i _ hl hx, bind_some]
/-- The rows are as long as the belts, or there are none. -/
theorem lens_set {l : List T_Belt} {x : T_Line} (hL : Lens l x) (i : Nat) (a b : Int) (c d : Bool) (t : Int) :
    Lens l ⟨t, x.States.set i a, x.Since.set i b, x.Pulled, x.Held⟩ ∧ Lens l ⟨t, x.States, x.Since, x.Pulled.set i c, x.Held⟩ ∧ Lens l ⟨t, x.States, x.Since, x.Pulled, x.Held.set i d⟩ := by
  obtain ⟨L1, L2, L3, L4⟩ := hL
  exact ⟨⟨by simp [L1], by simp [L2], L3, L4⟩, ⟨L1, L2, by simp [L3], L4⟩, ⟨L1, L2, L3, by simp [L4]⟩⟩
theorem step_lens (l : List T_Belt) (x : T_Line) (what i t : Int) : (stepR l x what i t).1 = x ∨ (Vld l x = true ∧ Lens l (stepR l x what i t).1) := by
  have cc : ∀ {i : Int}, ¬ chk l x i ≠ 0 → Vld l x = true ∧ Lens l x := fun {i} h => by
    obtain ⟨hv, _⟩ := chk0 (Decidable.byContradiction h)
    exact ⟨hv, (vld_is hv).2.1⟩
  unfold stepR
  split
  · unfold startR
    split
    · exact .inl rfl
    · rename_i hc
      split
      · exact .inl rfl
      · exact .inr ⟨(cc hc).1, (lens_set (cc hc).2 _ _ _ false false _).1⟩
  split
  · unfold waitR
    split
    · exact .inl rfl
    · rename_i hv
      have hv : Vld l x = true := by simpa using hv
      split
      · exact .inl rfl
      · exact .inr ⟨hv, tab_len _ _, tab_len _ _, (vld_is hv).2.1.2.2⟩
  split
  · unfold stopR
    split
    · exact .inl rfl
    · rename_i hc
      exact .inr ⟨(cc hc).1, stopX_lens (cc hc).2 i⟩
  split
  · unfold pullR
    split
    · exact .inl rfl
    · rename_i hc
      exact .inr ⟨(cc hc).1, (lens_set (stopX_lens (cc hc).2 i) _ 0 0 true false _).2.1⟩
  split
  · unfold restR
    split
    · exact .inl rfl
    · rename_i hc
      split
      · exact .inl rfl
      · exact .inr ⟨(cc hc).1, (lens_set (cc hc).2 _ 0 0 false false _).2.1⟩
  · unfold holdR
    split
    · exact .inl rfl
    · rename_i hc
      refine .inr ⟨(cc hc).1, ?_⟩
      unfold holdY
      cases decide (Int.tmod t 2 = 0) with
      | true => exact (lens_set (stopX_lens (cc hc).2 i) _ 0 0 false _ _).2.2
      | false => exact (lens_set (cc hc).2 _ 0 0 false _ _).2.2
theorem step_small {l : List T_Belt} {x : T_Line} (hx : Small x) (what i t : Int) : Small (stepR l x what i t).1 := by
  rcases step_lens l x what i t with h | ⟨hv, hL⟩
  · rw [h]; exact hx
  · exact small_of (vld_is hv).1 hL

theorem agree_ok (l : List T_Belt) (x : T_Line) (i t : Int) (hl : SmL l) (hx : Small x) : F_law39_agree l x i t = some true := by
  unfold F_law39_agree
  rw [scan (n := 6) (by decide) (fun _ => false) (fun w h0 hw => ?_) (by unfold F_law39_agree_L1; rw [bif_neg (by omega)]), bind_some]
  · rw [show (List.range 6).all (fun _ => !false) = true from rfl, if_pos rfl]
    dsimp only [Sum.elim_inr]
    have hms : Small (makeR l).1 := by
      unfold makeR
      split
      · rename_i hs
        obtain ⟨_, n2, _⟩ := snd_is hs
        exact ⟨by simp; omega, by simp; omega, by simp; omega, by simp; omega⟩
      · exact ⟨by simp, by simp, by simp, by simp⟩
    have hab : (Abv l i).length ≤ 1000000 := by
      unfold Abv SmL at *
      cases Snd l && (decide (0 ≤ i) && decide (i < (l.length : Int))) with
      | false => simp
      | true =>
        rw [cond_true]
        unfold abv
        rw [List.length_map]
        have := List.length_filter_le (fun k : Nat => thr l k i) (List.range l.length)
        simp at this
        omega
    rw [make_eq l hl, bind_some, rmake_eq l hl, bind_some, bif_pos rfl, same_eq hms, bind_some, cond_true, valid_eq l x hl, bind_some, rvalid_eq l x hl, bind_some, beq_self_eq_true, cond_true, above_eq l i hl, bind_some, rabove_eq l i hl, bind_some, sameI _ hab, bind_some]
  · unfold F_law39_agree_L1
    rw [bif_pos (by omega), step_eq l x w i t hl hx, bind_some]
    dsimp only
    rw [bif_neg (fun h => h rfl), same_eq (step_small hx w i t), bind_some, bind_some, Bool.not_true, cond_false, w64 (by omega) (by omega)]
    rfl

/-! ### the sanity check, and BeltsRaw -/
theorem awake39 : F_law39_awake = some true := by
  unfold F_law39_awake
  have hl : SmL [(T_Belt.mk (-1) 5), (T_Belt.mk 0 3)] := by unfold SmL; decide
  simp only [make_eq _ hl, start_eq _ _ _ hl, wait_eq _ _ _ hl, pull_eq _ _ _ hl, above_eq _ _ hl, bind_some]
  decide +kernel
theorem ok_awake {k : Bool → Option Bool} {R : Bool → Prop} (h : Ok (k true) R) : Ok (F_law39_awake.bind k) R := ok_bindE awake39 h
theorem law_BeltsRaw (p0 : List T_Belt) (w0 : InL T_Belt.Wf p0) (p1 : T_Line) (w1 : p1.Wf) (p2 : A2_Int) (w2 : p2.Wf) : F_law39_BeltsRaw p0 p1 p2 = some true := by
  refine Ok.val ?_
  unfold F_law39_BeltsRaw
  rw [or_bif (or_bif (or_bif (or_bif rfl))), bind_some]
  refine ok_dec (fun _ => ok_awake (ok_some rfl)) (fun hn => ?_)
  have hl : SmL p0 := by unfold SmL; omega
  have hx : Small p1 := ⟨by omega, by omega, by omega, by omega⟩
  refine ok_awake ?_
  rw [cond_true, agree_ok p0 p1 _ _ hl hx, bind_some, cond_true]
  refine ok_bind (Q := fun _ => True) ?_ fun x15 _ => ?_
  · unfold F_made_Mod
    refine ok_dec (fun _ => ok_some trivial) (fun h => ?_)
    rw [remI_ok (by omega), bind_some]
    exact ok_bind (Q := fun _ => True) (ok_dec (fun _ => ok_some trivial) (fun _ => ok_some trivial)) fun _ _ => ok_some trivial
  · rw [agree_ok p0 p1 _ _ hl hx]
    exact ok_some rfl
end Go.L
