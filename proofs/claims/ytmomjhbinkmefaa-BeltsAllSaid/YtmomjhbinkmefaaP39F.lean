/- Belts: each step leaves a line right; BeltsAll. -/
import Derived.Test.YtmomjhbinkmefaaP39E
namespace Go.L
open Go Go.Aml

/-- What is right of one belt of a line. -/
def Good (l : List T_Belt) (x : T_Line) (k : Nat) : Prop :=
  0 ≤ s0 x k ∧ s0 x k ≤ 2 ∧ 0 ≤ c0 x k ∧ c0 x k ≤ x.Time ∧ (s0 x k ≠ 0 → gB x.Pulled k = false ∧ gB x.Held k = false ∧ (0 ≤ nx l k → gI x.States (nx l k) = 2))
theorem badV_iff {l : List T_Belt} {x : T_Line} {k : Nat} : badV l x k = false ↔ Good l x k := by
  unfold badV Good
  rw [s0_g, c0_g]
  by_cases h : s0 x k = 0
  · simp [h]
  · simp [h]
    cases gB x.Pulled k <;> cases gB x.Held k <;> simp <;> omega
theorem vld_iff {l : List T_Belt} {x : T_Line} : Vld l x = true ↔ Snd l = true ∧ Lens l x ∧ (0 ≤ x.Time ∧ x.Time ≤ 2147483648) ∧ ∀ k : Nat, k < l.length → Good l x k := by
  constructor
  · intro h
    obtain ⟨h1, h2, h3, h4, h5⟩ := vld_is h
    exact ⟨h1, h2, ⟨h3, h4⟩, fun k hk => badV_iff.1 (h5 k (by omega) (by omega))⟩
  · rintro ⟨h1, h2, ⟨h3, h4⟩, h5⟩
    unfold Vld
    rw [h1, decide_eq_true h2, decide_eq_true h3, decide_eq_true h4]
    simp only [Bool.true_and]
    exact List.all_eq_true.2 fun k hk => by rw [badV_iff.2 (h5 k (List.mem_range.1 hk))]; rfl
theorem good_nx {l : List T_Belt} (hs : Snd l = true) (k : Nat) : 0 ≤ nx l k → (nx l k).toNat < l.length := fun h => by
  obtain ⟨_, _, hr, _⟩ := snd_is hs
  have := nx_range hr k
  omega
theorem nx_ne {l : List T_Belt} (hs : Snd l = true) {k : Nat} (hk : k < l.length) : nx l k ≠ (k : Int) := by
  intro e
  obtain ⟨_, n2, hr, _, he⟩ := snd_is hs
  have h := he (k : Int) (by omega)
  have := no_back (l := l) (t := (k : Int)) (by omega) h 1
  unfold thrN at this
  rw [e, decide_eq_true (show (0 : Int) ≤ k by omega), decide_eq_true rfl] at this
  cases this
theorem gI_s {x : T_Line} {k : Int} (h : 0 ≤ k) : gI x.States k = s0 x k.toNat := rfl

theorem set_get {α : Type} {l : List α} {i k : Nat} {v d : α} (hi : i < l.length) : ((l.set i v)[k]?).getD d = if k = i then v else (l[k]?).getD d := by
  by_cases e : k = i
  · subst e
    rw [List.getElem?_set_self hi, if_pos rfl]
    rfl
  · rw [List.getElem?_set_ne (fun h => e h.symm), if_neg e]

theorem noStart0 {l : List T_Belt} {x : T_Line} {i : Int} (h : noStart l x i = 0) : gI x.States i = 0 ∧ gB x.Pulled i = false ∧ gB x.Held i = false ∧ (0 ≤ nx l i → gI x.States (nx l i) = 2) := by
  unfold noStart at h
  cases h1 : decide (gI x.States i = 0) with
  | false => rw [h1] at h; exact absurd (show (10 : Int) = 0 from h) (by decide)
  | true =>
    cases h2 : gB x.Pulled i with
    | true => rw [h1, h2] at h; exact absurd (show (51 : Int) = 0 from h) (by decide)
    | false =>
      cases h3 : gB x.Held i with
      | true => rw [h1, h2, h3] at h; exact absurd (show (51 : Int) = 0 from h) (by decide)
      | false =>
        refine ⟨of_decide_eq_true h1, rfl, rfl, fun h0 => ?_⟩
        rw [h1, h2, h3, decide_eq_true h0] at h
        cases h4 : decide (gI x.States (nx l i) = 2) with
        | false => rw [h4] at h; exact absurd (show (10 : Int) = 0 from h) (by decide)
        | true => exact of_decide_eq_true h4
theorem start_vld {l : List T_Belt} {x : T_Line} {i : Nat} (hv : Vld l x = true) (hi : i < l.length) (hn : noStart l x i = 0) : Vld l (startY x i) = true := by
  obtain ⟨hs, hL, hT, hg⟩ := vld_iff.1 hv
  obtain ⟨n1, n2, n3, n4⟩ := noStart0 hn
  refine vld_iff.2 ⟨hs, (lens_set hL _ _ _ false false _).1, hT, fun k hk => ?_⟩
  obtain ⟨L1, L2, L3, L4⟩ := hL
  have eS : ∀ k : Nat, s0 (startY x i) k = if k = i then 1 else s0 x k := fun k => set_get (l := x.States) (by omega)
  have eC : ∀ k : Nat, c0 (startY x i) k = if k = i then x.Time else c0 x k := fun k => set_get (l := x.Since) (by omega)
  obtain ⟨g1, g2, g3, g4, g5⟩ := hg k hk
  have hT' : (startY x i).Time = x.Time := rfl
  unfold Good
  rw [eS, eC, hT']
  by_cases e : k = i
  · subst e
    rw [if_pos rfl, if_pos rfl]
    refine ⟨by decide, by decide, hT.1, Int.le_refl _, fun _ => ⟨n2, n3, fun h0 => ?_⟩⟩
    rw [gI_s h0, eS]
    have := nx_ne hs hk
    rw [if_neg (by omega)]
    exact n4 h0
  · rw [if_neg e, if_neg e]
    refine ⟨g1, g2, g3, g4, fun hne => ⟨(g5 hne).1, (g5 hne).2.1, fun h0 => ?_⟩⟩
    have h2 := (g5 hne).2.2 h0
    rw [gI_s h0] at h2
    rw [gI_s h0, eS]
    by_cases e2 : (nx l k).toNat = i
    · rw [e2] at h2
      have n1 : s0 x i = 0 := n1
      omega
    · rw [if_neg e2]; exact h2
def wn (l : List T_Belt) (k : Nat) : Int := ((l[k]?).map (·.Warn)).getD 0
theorem wait_at {l : List T_Belt} {x : T_Line} {t : Int} {k : Nat} (hk : k < l.length) : s0 (waitY l x t) k = (bif due l x t k then 2 else s0 x k) ∧ c0 (waitY l x t) k = (bif due l x t k then c0 x k + wn l k else c0 x k) := by
  unfold s0 c0 waitY
  dsimp only
  rw [tab_at hk, tab_at hk]
  exact ⟨rfl, rfl⟩
theorem due_iff {l : List T_Belt} {x : T_Line} {t : Int} {k : Nat} : due l x t k = true ↔ s0 x k = 1 ∧ c0 x k + wn l k ≤ t := by
  unfold due wn
  simp
theorem wait_vld {l : List T_Belt} {x : T_Line} {t : Int} (hv : Vld l x = true) (h0 : x.Time ≤ t) (h1 : t ≤ 2147483648) : Vld l (waitY l x t) = true := by
  obtain ⟨hs, hL, hT, hg⟩ := vld_iff.1 hv
  refine vld_iff.2 ⟨hs, ⟨tab_len _ _, tab_len _ _, hL.2.2⟩, ⟨by show 0 ≤ t; omega, h1⟩, fun k hk => ?_⟩
  obtain ⟨g1, g2, g3, g4, g5⟩ := hg k hk
  have hw := c0_bd hv hk
  have hT' : (waitY l x t).Time = t := rfl
  have hne : s0 x k ≠ 0 → gB (waitY l x t).Pulled k = false ∧ gB (waitY l x t).Held k = false ∧ (0 ≤ nx l k → gI (waitY l x t).States (nx l k) = 2) := fun hne => by
    refine ⟨(g5 hne).1, (g5 hne).2.1, fun hn => ?_⟩
    have h2 := (g5 hne).2.2 hn
    rw [gI_s hn] at h2
    rw [gI_s hn, (wait_at (good_nx hs k hn)).1]
    cases due l x t (nx l k).toNat with
    | true => rfl
    | false => exact h2
  unfold Good
  rw [(wait_at hk).1, (wait_at hk).2, hT']
  cases hd : due l x t k with
  | true =>
    have hdd := due_iff.1 hd
    unfold wn at hdd
    exact ⟨by show (0 : Int) ≤ 2; decide, by show (2 : Int) ≤ 2; decide, by show 0 ≤ c0 x k + wn l k; unfold wn; omega, by show c0 x k + wn l k ≤ t; unfold wn; omega, fun _ => hne (by omega)⟩
  | false => exact ⟨g1, g2, g3, by show c0 x k ≤ t; omega, hne⟩
theorem thr_fuel {l : List T_Belt} {t : Int} : ∀ (g f : Nat) (k : Int), endsIn l g k = true → g ≤ f → thrN l f k t = thrN l g k t
  | 0, f, k, h, _ => by
    have hk : k < 0 := of_decide_eq_true h
    cases f with
    | zero => rfl
    | succ f =>
      show (decide (0 ≤ k) && _) = false
      rw [decide_eq_false (by omega)]
      rfl
  | g + 1, 0, k, _, h => by omega
  | g + 1, f + 1, k, h, hg => by
    unfold thrN
    by_cases h0 : 0 ≤ k
    · rw [endsIn_pos h0] at h
      rw [thr_fuel g f _ h (by omega)]
    · rw [decide_eq_false h0]
      rfl
/-- What throws onto a belt that is stopped is stopped. -/
theorem stpd_up {l : List T_Belt} (hs : Snd l = true) {t : Int} {k : Nat} (hk : k < l.length) (h0 : 0 ≤ nx l k) (h : stpd l t (nx l k) = true) : stpd l t k = true := by
  obtain ⟨n1, n2, hr, _, he⟩ := snd_is hs
  unfold stpd at h ⊢
  have hkE := he (k : Int) (by omega)
  have e1 : endsIn l (l.length - 1) (nx l k) = true := by
    rw [show l.length = l.length - 1 + 1 by omega, endsIn_pos (by omega)] at hkE
    exact hkE
  have : thr l k t = (decide (nx l k = t) || thr l (nx l k) t) := by
    unfold thr
    have e2 : endsIn l (l.length - 1) (nx l (nx l k)) = true := by
      cases hh : l.length - 1 with
      | zero => rw [hh, endsIn0 h0] at e1; cases e1
      | succ g => rw [hh, endsIn_pos h0] at e1; exact endsIn_mono e1 (by omega)
    rw [thr_fuel (l.length - 1) l.length _ e2 (by omega)]
    conv => lhs; rw [show l.length = l.length - 1 + 1 by omega]
    show (decide (0 ≤ nx l k) && (decide (nx l k = t) || thrN l (l.length - 1) (nx l (nx l k)) t)) = _
    rw [decide_eq_true h0, Bool.true_and]
  rw [this, h, Bool.or_true]
theorem stop_at {l : List T_Belt} {x : T_Line} {t : Int} {k : Nat} (hk : k < l.length) : s0 (stopX l x t) k = (bif stpd l t k then 0 else s0 x k) ∧ c0 (stopX l x t) k = (bif stpd l t k && !decide (s0 x k = 0) then x.Time else c0 x k) := by
  constructor
  · show ((tab l.length _)[k]?).getD 0 = _
    rw [tab_at hk]
    rfl
  · show ((tab l.length _)[k]?).getD 0 = _
    rw [tab_at hk]
    rfl
/-- A line behind a stop, with other cords and holds; those that are other belong to a belt that is stopped. -/
theorem stop_vld {l : List T_Belt} {x : T_Line} {t : Int} {p h : List Bool} (hv : Vld l x = true) (hp : p.length = l.length) (hh : h.length = l.length)
    (hsame : ∀ k : Nat, stpd l t k = false → gB p k = gB x.Pulled k ∧ gB h k = gB x.Held k) : Vld l ⟨x.Time, (stopX l x t).States, (stopX l x t).Since, p, h⟩ = true := by
  obtain ⟨hs, hL, hT, hg⟩ := vld_iff.1 hv
  refine vld_iff.2 ⟨hs, ⟨tab_len _ _, tab_len _ _, hp, hh⟩, hT, fun k hk => ?_⟩
  obtain ⟨g1, g2, g3, g4, g5⟩ := hg k hk
  have a1 : s0 ⟨x.Time, (stopX l x t).States, (stopX l x t).Since, p, h⟩ k = (bif stpd l t k then 0 else s0 x k) := (stop_at hk).1
  have a2 : c0 ⟨x.Time, (stopX l x t).States, (stopX l x t).Since, p, h⟩ k = (bif stpd l t k && !decide (s0 x k = 0) then x.Time else c0 x k) := (stop_at hk).2
  unfold Good
  rw [a1, a2]
  cases hst : stpd l t k with
  | true =>
    refine ⟨Int.le_refl _, by show (0 : Int) ≤ 2; decide, ?_, ?_, fun h => absurd rfl h⟩
    · cases decide (s0 x k = 0) with
      | true => exact g3
      | false => exact hT.1
    · cases decide (s0 x k = 0) with
      | true => exact g4
      | false => exact Int.le_refl _
  | false =>
    refine ⟨g1, g2, g3, g4, fun hne => ?_⟩
    have hne : s0 x k ≠ 0 := hne
    obtain ⟨q1, q2⟩ := hsame k hst
    refine ⟨q1.trans (g5 hne).1, q2.trans (g5 hne).2.1, fun h0 => ?_⟩
    have h2 := (g5 hne).2.2 h0
    rw [gI_s h0] at h2 ⊢
    have a3 : s0 ⟨x.Time, (stopX l x t).States, (stopX l x t).Since, p, h⟩ (nx l k).toNat = (bif stpd l t (nx l k).toNat then 0 else s0 x (nx l k).toNat) := (stop_at (good_nx hs k h0)).1
    rw [a3]
    have : stpd l t (nx l k) = false := by
      cases hq : stpd l t (nx l k) with
      | false => rfl
      | true => rw [stpd_up hs hk h0 hq] at hst; cases hst
    rw [show (((nx l k).toNat : Nat) : Int) = nx l k by omega, this]
    exact h2
theorem gB_set {l : List Bool} {i k : Nat} {v : Bool} (hi : i < l.length) : gB (l.set i v) (k : Int) = if k = i then v else gB l k := set_get hi
theorem stpd_self {l : List T_Belt} {t : Int} : stpd l t t = true := by unfold stpd; rw [decide_eq_true rfl]; rfl
theorem pull_vld {l : List T_Belt} {x : T_Line} {i : Nat} (hv : Vld l x = true) (hi : i < l.length) : Vld l (pullY l x i) = true := by
  obtain ⟨_, hL, _⟩ := vld_iff.1 hv
  obtain ⟨_, _, L3, L4⟩ := hL
  refine stop_vld hv (by show (x.Pulled.set _ _).length = _; simp [L3]) L4 fun k hk => ⟨?_, rfl⟩
  show gB (x.Pulled.set ((i : Int).toNat) true) k = _
  rw [Int.toNat_natCast, gB_set (by omega), if_neg]
  rintro rfl
  rw [stpd_self] at hk
  cases hk
/-- Letting go does no harm. -/
theorem less_vld {l : List T_Belt} {x : T_Line} {p h : List Bool} (hv : Vld l x = true) (hp : p.length = l.length) (hh : h.length = l.length)
    (h1 : ∀ k : Nat, gB x.Pulled k = false → gB p k = false) (h2 : ∀ k : Nat, gB x.Held k = false → gB h k = false) : Vld l ⟨x.Time, x.States, x.Since, p, h⟩ = true := by
  obtain ⟨hs, hL, hT, hg⟩ := vld_iff.1 hv
  refine vld_iff.2 ⟨hs, ⟨hL.1, hL.2.1, hp, hh⟩, hT, fun k hk => ?_⟩
  obtain ⟨g1, g2, g3, g4, g5⟩ := hg k hk
  exact ⟨g1, g2, g3, g4, fun hne => ⟨h1 k (g5 hne).1, h2 k (g5 hne).2.1, (g5 hne).2.2⟩⟩
theorem set_false {l : List Bool} {i k : Nat} (h : gB l k = false) : gB (l.set i false) (k : Int) = false := by
  by_cases hi : i < l.length
  · rw [gB_set hi]
    split
    · rfl
    · exact h
  · rw [List.set_eq_of_length_le (by omega)]
    exact h
theorem rest_vld {l : List T_Belt} {x : T_Line} {i : Nat} (hv : Vld l x = true) : Vld l (restY x i) = true := by
  obtain ⟨_, hL, _⟩ := vld_iff.1 hv
  obtain ⟨_, _, L3, L4⟩ := hL
  exact less_vld hv (by simp [L3]) L4 (fun k h => set_false h) (fun k h => h)
theorem hold_vld {l : List T_Belt} {x : T_Line} {i : Nat} (h : Bool) (hv : Vld l x = true) (hi : i < l.length) : Vld l (holdY l x i h) = true := by
  obtain ⟨_, hL, _⟩ := vld_iff.1 hv
  obtain ⟨_, _, L3, L4⟩ := hL
  unfold holdY
  cases h with
  | true =>
    refine stop_vld hv L3 (by simp [L4]) fun k hk => ⟨rfl, ?_⟩
    show gB (x.Held.set ((i : Int).toNat) true) k = _
    rw [Int.toNat_natCast, gB_set (by omega), if_neg]
    rintro rfl
    rw [stpd_self] at hk
    cases hk
  | false => exact less_vld hv L3 (by simp [L4]) (fun k h => h) (fun k h => set_false h)

/-! ### belts that are made -/
theorem back_ends {l : List T_Belt} (h : Back l) : ∀ (i : Nat), i < l.length → endsIn l (i + 1) (i : Int) = true := by
  intro i
  induction i using Nat.strongRecOn with
  | _ i ih =>
    intro hi
    rw [endsIn_pos (by omega)]
    have hb := h.2 i l[i] (List.getElem?_eq_getElem hi)
    have hn : nx l (i : Int) = l[i].Onto := nx_get (by rw [getI_nat, List.getElem?_eq_getElem hi])
    rw [hn]
    by_cases h0 : l[i].Onto < 0
    · exact endsIn_neg h0 _
    · have := ih l[i].Onto.toNat (by omega) (by omega)
      rw [show ((l[i].Onto.toNat : Nat) : Int) = l[i].Onto by omega] at this
      exact endsIn_mono this (by omega)
theorem back_snd {l : List T_Belt} (h : Back l) (h1 : 1 ≤ l.length) : Snd l = true := by
  have h6 := h.1
  unfold Snd
  rw [decide_eq_true h1, decide_eq_true (by omega), Bool.true_and, Bool.true_and, Bool.and_eq_true]
  constructor
  · refine List.all_eq_true.2 fun i hi => ?_
    have hi := List.mem_range.1 hi
    have hb := h.2 i l[i] (List.getElem?_eq_getElem hi)
    unfold badAt
    rw [getI_nat, List.getElem?_eq_getElem hi]
    simp only [badB]
    rw [decide_eq_false (show ¬ l[i].Onto < -1 by omega), decide_eq_false (show ¬ (l.length : Int) ≤ l[i].Onto by omega), decide_eq_false (show ¬ l[i].Onto = (i : Int) by omega), decide_eq_false (show ¬ l[i].Warn < 0 by omega), decide_eq_false (show ¬ 120 < l[i].Warn by omega)]
    rfl
  · exact List.all_eq_true.2 fun i hi => endsIn_mono (back_ends h i (List.mem_range.1 hi)) (by have := List.mem_range.1 hi; omega)
theorem has_eq (l : List Int) (v : Int) (hl : l.length ≤ 1000000) : F_ref23_Has l v = some (decide (v ∈ l)) := by
  unfold F_ref23_Has
  rw [show loopC (F_ref23_Has_L1 l v) 0 = some (if (List.range l.length).all (fun i : Nat => !(decide (gI l i = v))) then .inr () else .inl ()) from
    scan (n := l.length) hl (fun i => decide (gI l i = v)) (fun i h0 hi => by
      unfold F_ref23_Has_L1
      rw [bif_pos hi, getI_g h0 hi, bind_some, w64 (by omega) (by omega)]) (by unfold F_ref23_Has_L1; rw [bif_neg (by omega)]), bind_some]
  have e : (List.range l.length).all (fun i : Nat => !(decide (gI l i = v))) = !decide (v ∈ l) := by
    rw [Bool.eq_iff_iff, List.all_eq_true]
    simp only [Bool.not_eq_true', decide_eq_false_iff_not, List.mem_range]
    constructor
    · intro h hm
      obtain ⟨i, hi, rfl⟩ := List.getElem_of_mem hm
      refine h i hi ?_
      unfold gI
      rw [Int.toNat_natCast, List.getElem?_eq_getElem hi]
      rfl
    · intro h i hi e
      refine h ?_
      unfold gI at e
      rw [Int.toNat_natCast, List.getElem?_eq_getElem hi] at e
      have e : l[i] = v := e
      exact e ▸ List.getElem_mem hi
  rw [e]
  cases decide (v ∈ l) <;> rfl
end Go.L
