/- Belts: BeltsSafe. -/
import Derived.Test.YtmomjhbinkmefaaP39G
namespace Go.L
open Go Go.Aml

/-- After a step from x to y: the warnings that W holds. -/
structure Wrn (l : List T_Belt) (x y : T_Line) (W : List Int) : Prop where
  vld : Vld l y = true
  len : W.length = l.length
  rng : ∀ k : Nat, k < l.length → -1 ≤ gI W k ∧ gI W k ≤ y.Time
  st1 : ∀ k : Nat, k < l.length → s0 y k = 1 → gI W k = c0 y k
  st2 : ∀ k : Nat, k < l.length → s0 y k = 2 → s0 x k ≠ 2 → 0 ≤ gI W k ∧ gI W k + wn l k ≤ y.Time
theorem gI_set {l : List Int} {i k : Nat} {v : Int} (hi : i < l.length) : gI (l.set i v) (k : Int) = if k = i then v else gI l k := set_get hi
theorem wrn_self {l : List T_Belt} {x y : T_Line} {W : List Int} (h : Wrn l x y W) : Wrn l y y W := ⟨h.vld, h.len, h.rng, h.st1, fun _ _ a b => absurd a b⟩
theorem wrn_drop {l : List T_Belt} {x y : T_Line} {W : List Int} (h : Wrn l x y W) {i : Nat} (hi : i < l.length) (h0 : s0 y i = 0) : Wrn l x y (W.set i (-1)) := by
  have hl := h.len
  have hT := (vld_is h.vld).2.2.1
  have e : ∀ k : Nat, gI (W.set i (-1)) k = if k = i then -1 else gI W k := fun k => gI_set (by omega)
  refine ⟨h.vld, by rw [List.length_set]; exact hl, fun k hk => ?_, fun k hk h1 => ?_, fun k hk h1 h2 => ?_⟩
  · rw [e]
    split
    · omega
    · exact h.rng k hk
  · rw [e, if_neg (by rintro rfl; omega)]
    exact h.st1 k hk h1
  · rw [e, if_neg (by rintro rfl; omega)]
    exact h.st2 k hk h1 h2
theorem wrn_same {l : List T_Belt} {x y : T_Line} {W : List Int} (h : Wrn l x x W) (hv : Vld l y = true) (hT : y.Time = x.Time) (hs : ∀ k : Nat, k < l.length → (s0 y k = s0 x k ∧ c0 y k = c0 x k) ∨ s0 y k = 0) : Wrn l x y W := by
  refine ⟨hv, h.len, fun k hk => hT ▸ h.rng k hk, fun k hk h1 => ?_, fun k hk h1 h2 => ?_⟩
  · rcases hs k hk with ⟨a, b⟩ | a
    · rw [b]; exact h.st1 k hk (by omega)
    · omega
  · rcases hs k hk with ⟨a, b⟩ | a
    · omega
    · omega
theorem stop_is {l : List T_Belt} {x : T_Line} {t : Int} {k : Nat} (hk : k < l.length) : (s0 (stopX l x t) k = s0 x k ∧ c0 (stopX l x t) k = c0 x k) ∨ s0 (stopX l x t) k = 0 := by
  rw [(stop_at hk).1, (stop_at hk).2]
  cases stpd l t k
  · exact .inl ⟨rfl, rfl⟩
  · exact .inr rfl
theorem wrn_start {l : List T_Belt} {x : T_Line} {W : List Int} (h : Wrn l x x W) {i : Nat} (hi : i < l.length) (hn : noStart l x i = 0) : Wrn l x (startY x i) (W.set i x.Time) := by
  obtain ⟨hs, hL, hT, hg⟩ := vld_iff.1 h.vld
  have hl := h.len
  obtain ⟨L1, L2, L3, L4⟩ := hL
  have e : ∀ k : Nat, gI (W.set i x.Time) k = if k = i then x.Time else gI W k := fun k => gI_set (by omega)
  have eS : ∀ k : Nat, s0 (startY x i) k = if k = i then 1 else s0 x k := fun k => set_get (l := x.States) (by omega)
  have eC : ∀ k : Nat, c0 (startY x i) k = if k = i then x.Time else c0 x k := fun k => set_get (l := x.Since) (by omega)
  refine ⟨start_vld h.vld hi hn, by rw [List.length_set]; exact hl, fun k hk => ?_, fun k hk h1 => ?_, fun k hk h1 h2 => ?_⟩
  · rw [e]
    show _ ∧ _ ≤ x.Time
    have := h.rng k hk
    split <;> omega
  · rw [e, eC]
    by_cases hki : k = i
    · rw [if_pos hki, if_pos hki]
    · rw [eS, if_neg hki] at h1
      rw [if_neg hki, if_neg hki]
      exact h.st1 k hk h1
  · rw [eS] at h1
    split at h1 <;> omega
theorem wrn_wait {l : List T_Belt} {x : T_Line} {W : List Int} (h : Wrn l x x W) {t : Int} (h0 : x.Time ≤ t) (h1 : t ≤ 2147483648) : Wrn l x (waitY l x t) W := by
  refine ⟨wait_vld h.vld h0 h1, h.len, fun k hk => ?_, fun k hk hs => ?_, fun k hk hs hn => ?_⟩
  · have := h.rng k hk
    show _ ∧ _ ≤ t
    omega
  · rw [(wait_at hk).1] at hs
    rw [(wait_at hk).2]
    cases hd : due l x t k with
    | true => rw [hd] at hs; cases hs
    | false => rw [hd] at hs; exact h.st1 k hk hs
  · rw [(wait_at hk).1] at hs
    show _ ∧ _ ≤ t
    cases hd : due l x t k with
    | true =>
      obtain ⟨a, b⟩ := due_iff.1 hd
      have e := h.st1 k hk a
      have := (c0_bd h.vld hk).1
      omega
    | false => rw [hd] at hs; exact absurd hs hn
theorem start_cases {l : List T_Belt} {x : T_Line} {i : Int} : startR l x i = (startY x i, 0) ∧ chk l x i = 0 ∧ noStart l x i = 0 ∨ ∃ e, e ≠ 0 ∧ startR l x i = (x, e) := by
  unfold startR
  by_cases a : chk l x i = 0
  · rw [if_neg (fun h => h a)]
    by_cases b : noStart l x i = 0
    · rw [if_neg (fun h => h b)]
      exact .inl ⟨rfl, a, b⟩
    · rw [if_pos b]
      exact .inr ⟨_, b, rfl⟩
  · rw [if_pos a]
    exact .inr ⟨_, a, rfl⟩
theorem wrn_waitR {l : List T_Belt} {x : T_Line} {W : List Int} (h : Wrn l x x W) (t : Int) : Wrn l x (waitR l x t).1 W := by
  unfold waitR
  rw [h.vld, if_neg (by simp)]
  split
  · exact h
  · exact wrn_wait h (by omega) (by omega)
theorem wrn_stopR {l : List T_Belt} {x : T_Line} {W : List Int} (h : Wrn l x x W) (i : Int) : Wrn l x (stopR l x i).1 W := by
  unfold stopR
  split
  · exact h
  · have hL := (vld_iff.1 h.vld).2.1
    exact wrn_same h (stop_vld (t := i) h.vld hL.2.2.1 hL.2.2.2 fun _ _ => ⟨rfl, rfl⟩) rfl fun k hk => stop_is hk
theorem wrn_pullR {l : List T_Belt} {x : T_Line} {W : List Int} (h : Wrn l x x W) (i : Int) : Wrn l x (pullR l x i).1 W := by
  unfold pullR
  split
  · exact h
  · rename_i hc
    obtain ⟨_, a, b⟩ := chk0 (Classical.not_not.1 hc)
    obtain ⟨k, rfl⟩ : ∃ k : Nat, i = k := ⟨i.toNat, by omega⟩
    exact wrn_same h (pull_vld h.vld (by omega)) rfl fun k hk => stop_is hk
theorem wrn_restR {l : List T_Belt} {x : T_Line} {W : List Int} (h : Wrn l x x W) (i : Int) : Wrn l x (restR l x i).1 W := by
  unfold restR
  split
  · exact h
  · rename_i hc
    obtain ⟨_, a, b⟩ := chk0 (Classical.not_not.1 hc)
    obtain ⟨k, rfl⟩ : ∃ k : Nat, i = k := ⟨i.toNat, by omega⟩
    split
    · exact h
    · exact wrn_same h (rest_vld h.vld) rfl fun k hk => .inl ⟨rfl, rfl⟩
theorem wrn_holdR {l : List T_Belt} {x : T_Line} {W : List Int} (h : Wrn l x x W) (i : Int) (b : Bool) : Wrn l x (holdR l x i b).1 W := by
  unfold holdR
  split
  · exact h
  · rename_i hc
    obtain ⟨_, a, b'⟩ := chk0 (Classical.not_not.1 hc)
    obtain ⟨k, rfl⟩ : ∃ k : Nat, i = k := ⟨i.toNat, by omega⟩
    refine wrn_same h (hold_vld b h.vld (by omega)) (by cases b <;> rfl) fun k hk => ?_
    cases b
    · exact .inl ⟨rfl, rfl⟩
    · exact stop_is hk

theorem warn_loop (o11 : T_made_Dice × List T_Belt) (h : o11.2.length ≤ 6) : Ok (loopC (F_law39_BeltsSafe_L2 o11) (0, List.replicate o11.2.length (0 : Int))) fun W => W.length = o11.2.length ∧ ∀ k : Nat, k < o11.2.length → gI W k = -1 := by
  refine ok_loop (fun s : Int × List Int => 0 ≤ s.1 ∧ s.1 ≤ o11.2.length ∧ s.2.length = o11.2.length ∧ ∀ k : Nat, k < o11.2.length → (k : Int) < s.1 → gI s.2 k = -1) (fun s => (o11.2.length - s.1).toNat) _ (fun s hs => ?_) _ ⟨Int.le_refl _, by dsimp only; omega, List.length_replicate, fun k _ hk => by dsimp only at hk; omega⟩
  obtain ⟨i, W⟩ := s
  obtain ⟨a1, a2, a3, a4⟩ := hs
  dsimp only at a1 a2 a3 a4
  obtain ⟨i, rfl⟩ : ∃ k : Nat, i = k := ⟨i.toNat, by omega⟩
  unfold F_law39_BeltsSafe_L2
  dsimp only
  refine ok_dec (fun hi => ?_) (fun hi => ok_some ⟨a3, fun k hk => a4 k hk (by omega)⟩)
  refine ok_bind (ok_getI a1 (by omega)) fun _ _ => ?_
  rw [w64 (by omega) (by omega), Int.toNat_natCast]
  refine ok_some ⟨⟨by dsimp only; omega, by dsimp only; omega, by rw [List.length_set]; exact a3, fun k hk hlt => ?_⟩, by dsimp only; omega⟩
  dsimp only at hlt ⊢
  rw [gI_set (by omega)]
  by_cases e : k = i
  · rw [if_pos e]
  · rw [if_neg e]
    exact a4 k hk (by omega)
theorem look_loop (o11 : T_made_Dice × List T_Belt) (h : o11.2.length ≤ 6) (x y : T_Line) (d : T_made_Dice) (W : List Int) (hv : Vld o11.2 x = true) (hW : Wrn o11.2 x y W) :
    Ok (loopC (F_law39_BeltsSafe_L4 o11 (x, d, y, W)) (0, W)) fun r => ∃ W', r = .inr W' ∧ Wrn o11.2 x y W' := by
  obtain ⟨hs, hL, hT, hg⟩ := vld_iff.1 hW.vld
  have hLx := (vld_iff.1 hv).2.1
  obtain ⟨L1, L2, L3, L4⟩ := hL
  refine ok_loop (fun s : Int × List Int => 0 ≤ s.1 ∧ s.1 ≤ o11.2.length ∧ Wrn o11.2 x y s.2) (fun s => (o11.2.length - s.1).toNat) _ (fun s hs' => ?_) _ ⟨Int.le_refl _, by dsimp only; omega, hW⟩
  obtain ⟨i, V⟩ := s
  obtain ⟨a1, a2, a3⟩ := hs'
  dsimp only at a1 a2 a3
  obtain ⟨i, rfl⟩ : ∃ k : Nat, i = k := ⟨i.toNat, by omega⟩
  unfold F_law39_BeltsSafe_L4
  dsimp only
  refine ok_dec (fun hi => ?_) (fun hi => ok_some ⟨V, rfl, a3⟩)
  have hi' : i < o11.2.length := by omega
  obtain ⟨g1, g2, g3, g4, g5⟩ := hg i hi'
  have hl := a3.len
  have hnx := good_nx hs i
  have hno : nx o11.2 i = o11.2[i].Onto := nx_get (by rw [getI_nat, List.getElem?_eq_getElem hi'])
  have hwn : wn o11.2 i = o11.2[i].Warn := by unfold wn; rw [List.getElem?_eq_getElem hi']; rfl
  have hwb := (c0_bd hW.vld hi').2.2.2
  have hrng := a3.rng i hi'
  refine ok_bind (Q := fun o => ∃ V', o = .inr V' ∧ Wrn o11.2 x y V') ?_ fun o ho => ?_
  · rw [getI_g (l := y.States) (by omega) (by omega), bind_some, s0_g]
    refine ok_bind (Q := fun b => b = false) ?_ fun b hb => ?_
    · refine ok_dec (fun h2 => ?_) (fun _ => ok_some rfl)
      obtain ⟨q1, q2, q3⟩ := g5 (by omega)
      rw [getI_b (by omega) (by omega), bind_some, q1, cond_false, getI_b (by omega) (by omega), bind_some, q2, cond_false, getI_nat, List.getElem?_eq_getElem hi', bind_some]
      refine ok_dec (fun h0 => ?_) (fun _ => ok_some rfl)
      rw [bind_some, ← hno, getI_g (by omega) (by have := hnx (by omega); omega), bind_some, q3 (by omega)]
      exact ok_some rfl
    subst hb
    rw [cond_false]
    refine ok_bind (Q := fun b => b = false) ?_ fun b hb => ?_
    · refine ok_dec (fun h2 => ?_) (fun _ => ok_some rfl)
      rw [getI_g (by omega) (by have := hLx.1; omega), bind_some, s0_g]
      refine ok_dec (fun hn => ?_) (fun _ => ok_some rfl)
      obtain ⟨p1, p2⟩ := a3.st2 i hi' h2 hn
      rw [getI_g (by omega) (by omega), bind_some, bif_neg (by omega), bind_some, getI_nat, List.getElem?_eq_getElem hi', bind_some, w64 (by omega) (by omega)]
      exact ok_some (decide_eq_false (by omega))
    subst hb
    rw [cond_false, bind_some]
    refine ok_dec (fun h0 => ?_) (fun _ => ok_some ⟨V, rfl, a3⟩)
    rw [getI_g (by omega) (by omega), bind_some, Int.toNat_natCast]
    exact ok_some ⟨_, rfl, wrn_drop a3 hi' h0⟩
  obtain ⟨V', rfl, hV'⟩ := ho
  dsimp only [Sum.elim_inr]
  rw [w64 (by omega) (by omega)]
  exact ok_some ⟨⟨by dsimp only; omega, by dsimp only; omega, hV'⟩, by dsimp only; omega⟩

theorem law_BeltsSafe (p0 : List Int) (w0 : InL (In .i64) p0) : F_law39_BeltsSafe p0 = some true := by
  refine Ok.val ?_
  unfold F_law39_BeltsSafe F_made_Light
  rw [bind_some]
  refine ok_bif (fun _ => ok_awake (ok_some rfl)) (fun hlt => ?_)
  have hlt : p0.length ≤ 400 := by simp at hlt; omega
  refine ok_bind (roll_ok p0 hlt) fun x6 h6 => ?_
  refine ok_bind (dnext_lt x6 5 h6 (by decide) (by decide)) fun x8 h8 => ?_
  rw [w64 (n := 1 + x8.2) (by omega) (by omega)]
  refine ok_bind (make_loop _ rfl _ x8.1 h8.1 (by omega) (by omega)) fun o11 h11 => ?_
  obtain ⟨hd, hlen, hB⟩ := h11
  have h6' := hB.1
  have hl : SmL o11.2 := by unfold SmL; omega
  have hs := back_snd hB (by omega)
  obtain ⟨m0, mU⟩ := make_vld hs
  have mL := (vld_is mU.vld).2.1
  have mT := (vld_is mU.vld).2.2.1
  rw [make_eq _ hl, bind_some, bif_neg (by have := mL.1; omega), makI_ok (by omega) (by omega), bind_some, Int.toNat_natCast]
  refine ok_bind (warn_loop o11 h6') fun W hW => ?_
  have hW0 : Wrn o11.2 (makeR o11.2).1 (makeR o11.2).1 W := by
    refine ⟨mU.vld, hW.1, fun k hk => ?_, fun k hk h1 => ?_, fun k hk h1 h2 => absurd h1 h2⟩
    · rw [hW.2 k hk]; omega
    · have := mU.st k hk
      rw [if_neg (by omega)] at this
      omega
  refine ok_bind (dnext_lt o11.1 40 hd (by decide) (by decide)) fun x29 h29 => ?_
  refine ok_bind (Q := fun o => o = .inr ()) (ok_loop (fun s : Int × T_made_Dice × T_Line × List Int => 0 ≤ s.1 ∧ s.1 ≤ 40 ∧ DiceOk s.2.1 ∧ Wrn o11.2 s.2.2.1 s.2.2.1 s.2.2.2) (fun s => s.1.toNat) _ (fun s hs' => ?_) _ ⟨h29.2.1, by dsimp only; omega, h29.1, hW0⟩) fun o32 h32 => ?_
  · obtain ⟨n, d, x, W⟩ := s
    obtain ⟨a1, a2, a3, a4⟩ := hs'
    dsimp only at a1 a2 a3 a4
    unfold F_law39_BeltsSafe_L3
    dsimp only
    rw [m0, and_bif rfl, bind_some]
    refine ok_dec (fun hn => ?_) (fun _ => ok_some rfl)
    have hv := a4.vld
    have hL := (vld_is hv).2.1
    have hx := small_of hs hL
    refine ok_bind (dnext_lt d _ a3 (by omega) (by omega)) fun x38 h38 => ?_
    rw [copy_eq hx, bind_some]
    refine ok_bind (of_ok x38.1 [0, 0, 1, 1, 2, 3, 4, 5] h38.1 (by simp) (by simp)) fun x42 h42 => ?_
    refine ok_bind (Q := fun o : T_Line × T_made_Dice × T_Line × List Int => o.1 = x ∧ DiceOk o.2.1 ∧ Wrn o11.2 x o.2.2.1 o.2.2.2) ?_ fun o44 h44 => ?_
    · refine ok_dec (fun _ => ?_) (fun _ => ?_)
      · rw [start_eq _ _ _ hl, bind_some]
        rcases start_cases (l := o11.2) (x := x) (i := x38.2) with ⟨e, hc, hn⟩ | ⟨e, he, hR⟩
        · obtain ⟨_, q1, q2⟩ := chk0 hc
          rw [e]
          dsimp only
          rw [bif_pos rfl]
          refine ok_bind (ok_getI q1 (by rw [a4.len]; exact q2)) fun _ _ => ok_some ⟨rfl, h42.1, ?_⟩
          obtain ⟨k, hk⟩ : ∃ k : Nat, x38.2 = k := ⟨x38.2.toNat, by omega⟩
          rw [hk] at hn q2 ⊢
          exact wrn_start a4 (by omega) hn
        · rw [hR]
          dsimp only
          rw [bif_neg he]
          exact ok_some ⟨rfl, h42.1, a4⟩
      refine ok_dec (fun _ => ?_) (fun _ => ?_)
      · refine ok_bind (of_ok x42.1 [5, 3, 20, 0] h42.1 (by simp) (by simp)) fun x52 h52 => ?_
        rw [wait_eq _ _ _ hl, bind_some]
        exact ok_some ⟨rfl, h52.1, wrn_waitR a4 _⟩
      refine ok_dec (fun _ => ?_) (fun _ => ?_)
      · rw [stop_eq' _ _ _ hl, bind_some]
        exact ok_some ⟨rfl, h42.1, wrn_stopR a4 _⟩
      refine ok_dec (fun _ => ?_) (fun _ => ?_)
      · rw [pull_eq _ _ _ hl, bind_some]
        exact ok_some ⟨rfl, h42.1, wrn_pullR a4 _⟩
      refine ok_dec (fun _ => ?_) (fun _ => ?_)
      · rw [rest_eq _ _ _ hl, bind_some]
        exact ok_some ⟨rfl, h42.1, wrn_restR a4 _⟩
      refine ok_bind (done_ok x42.1 2 h42.1 (by decide)) fun x65 h65 => ?_
      rw [hold_eq _ _ _ _ hl, bind_some]
      exact ok_some ⟨rfl, h65, wrn_holdR a4 _ _⟩
    obtain ⟨was, d', y, V⟩ := o44
    obtain ⟨rfl, hd', hV⟩ := h44
    dsimp only at hd' hV
    have hyL := (vld_is hV.vld).2.1
    dsimp only
    rw [valid_eq _ _ hl, bind_some, hV.vld, Bool.not_true, cond_false, bif_neg (by have := hyL.1; omega), bif_neg (by have := hyL.2.2.1; omega), bind_some, decide_eq_false (by have := hyL.2.2.2; omega), cond_false]
    refine ok_bind (look_loop o11 h6' was y d' V hv hV) fun r hr => ?_
    obtain ⟨V', rfl, hV'⟩ := hr
    dsimp only [Sum.elim_inr]
    rw [w64 (by omega) (by omega)]
    exact ok_some ⟨⟨by dsimp only; omega, by dsimp only; omega, hd', wrn_self hV'⟩, by dsimp only; omega⟩
  subst h32
  dsimp only [Sum.elim_inr]
  rw [m0]
  exact ok_awake (ok_some rfl)
end Go.L
