/- Belts: BeltsAll. -/
import Derived.Test.YtmomjhbinkmefaaP39F
namespace Go.L
open Go Go.Aml

theorem make_loop (g : Int × T_made_Dice × List T_Belt → Option ((Int × T_made_Dice × List T_Belt) ⊕ (T_made_Dice × List T_Belt))) (hg : g = F_law39_BeltsAll_L1) (n : Int) (d : T_made_Dice) (hd : DiceOk d) (h0 : 1 ≤ n) (hn : n ≤ 6) : Ok (loopC g (n, d, ([] : List T_Belt))) fun r => DiceOk r.1 ∧ (r.2.length : Int) = n ∧ Back r.2 := by
  subst hg
  refine ok_loop (fun s : Int × T_made_Dice × List T_Belt => 0 ≤ s.1 ∧ (s.2.2.length : Int) + s.1 = n ∧ DiceOk s.2.1 ∧ Back s.2.2) (fun s => s.1.toNat) _ (fun s hs => ?_) _ ⟨by dsimp only; omega, by simp, hd, by simp, fun i b hb => by simp at hb⟩
  obtain ⟨k, d, l⟩ := s
  obtain ⟨a1, a2, a3, a4⟩ := hs
  dsimp only at a1 a2 a3 a4
  unfold F_law39_BeltsAll_L1
  dsimp only
  refine ok_dec (fun hk => ?_) (fun hk => ok_some ⟨a3, by dsimp only; omega, a4⟩)
  rw [w64 (n := (l.length : Int) + 1) (by omega) (by omega)]
  refine ok_bind (dnext_lt d _ a3 (by omega) (by omega)) fun x6 h6 => ?_
  refine ok_bind (of_ok x6.1 [5, 0, 20] h6.1 (by simp) (by simp)) fun x8 h8 => ?_
  rw [w64 (n := x6.2 - 1) (by omega) (by omega), appI_ok (by simp; omega), bind_some, w64 (by omega) (by omega)]
  refine ok_some ⟨⟨by dsimp only; omega, ?_, h8.1, back_app a4 (by omega) h6.2 (by simpa using h8.2)⟩, ?_⟩
  · dsimp only; rw [List.length_append, List.length_singleton]; omega
  · show (k - 1).toNat < k.toNat; omega

/-- The first i belts run; the others stand. -/
structure Upto (l : List T_Belt) (i : Nat) (x : T_Line) : Prop where
  vld : Vld l x = true
  time : x.Time ≤ 20 * i
  st : ∀ k : Nat, k < l.length → s0 x k = if k < i then 2 else 0
  pl : ∀ k : Nat, gB x.Pulled k = false
  hd : ∀ k : Nat, gB x.Held k = false
theorem gB_rep {n k : Nat} : gB (List.replicate n false) (k : Int) = false := by
  unfold gB
  rw [Int.toNat_natCast]
  by_cases h : k < n
  · rw [List.getElem?_replicate_of_lt h]; rfl
  · rw [List.getElem?_eq_none (by simpa using h)]; rfl
theorem rep_at {n k : Nat} : ((List.replicate n (0 : Int))[k]?).getD 0 = 0 := by
  by_cases h : k < n
  · rw [List.getElem?_replicate_of_lt h]; rfl
  · rw [List.getElem?_eq_none (by simpa using h)]; rfl
theorem make_vld {l : List T_Belt} (hs : Snd l = true) : (makeR l).2 = 0 ∧ Upto l 0 (makeR l).1 := by
  unfold makeR
  rw [if_pos hs]
  refine ⟨rfl, vld_iff.2 ⟨hs, ⟨by simp, by simp, by simp, by simp⟩, ⟨by show (0:Int) ≤ 0; decide, by show (0:Int) ≤ 2147483648; decide⟩, fun k hk => ?_⟩, by show (0:Int) ≤ 20 * ((0:Nat):Int); decide, fun k hk => rep_at, fun k => gB_rep, fun k => gB_rep⟩
  have e1 : s0 ⟨0, List.replicate l.length 0, List.replicate l.length 0, List.replicate l.length false, List.replicate l.length false⟩ k = 0 := rep_at
  have e2 : c0 ⟨0, List.replicate l.length 0, List.replicate l.length 0, List.replicate l.length false, List.replicate l.length false⟩ k = 0 := rep_at
  unfold Good
  rw [e1, e2]
  exact ⟨Int.le_refl _, by decide, Int.le_refl _, Int.le_refl _, fun h => absurd rfl h⟩
theorem back_nx {l : List T_Belt} (h : Back l) {i : Nat} (hi : i < l.length) : nx l i = l[i].Onto ∧ -1 ≤ l[i].Onto ∧ l[i].Onto < (i : Int) ∧ wn l i = l[i].Warn ∧ 0 ≤ l[i].Warn ∧ l[i].Warn ≤ 20 := by
  have hb := h.2 i l[i] (List.getElem?_eq_getElem hi)
  refine ⟨nx_get (by rw [getI_nat, List.getElem?_eq_getElem hi]), hb.1, hb.2.1, ?_, by omega, by omega⟩
  unfold wn
  rw [List.getElem?_eq_getElem hi]
  rfl
theorem upto_next {l : List T_Belt} (hB : Back l) {i : Nat} (hi : i < l.length) {x : T_Line} (h : Upto l i x) :
    startR l x i = (startY x i, 0) ∧ (startY x i).Time = x.Time ∧ waitR l (startY x i) (x.Time + l[i].Warn) = (waitY l (startY x i) (x.Time + l[i].Warn), 0) ∧ Upto l (i + 1) (waitY l (startY x i) (x.Time + l[i].Warn)) := by
  obtain ⟨hv, ht, hst, hpl, hhd⟩ := h
  obtain ⟨b1, b2, b3, b4, b5, b6⟩ := back_nx hB hi
  have h6 := hB.1
  obtain ⟨hs, hL, hT, hg⟩ := vld_iff.1 hv
  obtain ⟨L1, L2, L3, L4⟩ := hL
  have hsi : gI x.States (i : Int) = 0 := by
    have := hst i hi
    rw [if_neg (by omega)] at this
    exact this
  have hns : noStart l x i = 0 := by
    unfold noStart
    rw [decide_eq_true hsi, hpl, hhd]
    by_cases h0 : 0 ≤ nx l i
    · have := hst (nx l i).toNat (by omega)
      rw [if_pos (by omega)] at this
      rw [decide_eq_true (show gI x.States (nx l i) = 2 from this), Bool.not_true, Bool.and_false]
      rfl
    · rw [decide_eq_false h0]
      rfl
  have hchk : chk l x i = 0 := by
    unfold chk
    rw [hv, decide_eq_true (show (0 : Int) ≤ i by omega), decide_eq_true (show (i : Int) < l.length by omega)]
    rfl
  have hsv := start_vld hv hi hns
  have eS : ∀ k : Nat, s0 (startY x i) k = if k = i then 1 else s0 x k := fun k => set_get (l := x.States) (by omega)
  have eC : ∀ k : Nat, c0 (startY x i) k = if k = i then x.Time else c0 x k := fun k => set_get (l := x.Since) (by omega)
  refine ⟨?_, rfl, ?_, wait_vld hsv (by show x.Time ≤ _; omega) (by omega), ?_, fun k hk => ?_, hpl, hhd⟩
  · unfold startR
    rw [if_neg (fun h => h hchk), if_neg (fun h => h hns)]
  · unfold waitR
    rw [hsv, if_neg (by simp), if_neg (by show ¬ (x.Time + l[i].Warn < x.Time ∨ _); omega)]
  · show x.Time + l[i].Warn ≤ 20 * ((i + 1 : Nat) : Int)
    omega
  · rw [(wait_at hk).1]
    by_cases e : k = i
    · subst e
      have : due l (startY x k) (x.Time + l[k].Warn) k = true := due_iff.2 ⟨by rw [eS, if_pos rfl], by rw [eC, if_pos rfl, b4]; exact Int.le_refl _⟩
      rw [this, if_pos (by omega)]
      rfl
    · have : due l (startY x i) (x.Time + l[i].Warn) k = false := by
        cases hd : due l (startY x i) (x.Time + l[i].Warn) k with
        | false => rfl
        | true =>
          have := (due_iff.1 hd).1
          rw [eS, if_neg e, hst k hk] at this
          split at this <;> omega
      rw [this, cond_false, eS, if_neg e, hst k hk]
      by_cases h : k < i
      · rw [if_pos h, if_pos (by omega)]
      · rw [if_neg h, if_neg (by omega)]

theorem law_BeltsAll (p0 : List Int) (w0 : InL (In .i64) p0) : F_law39_BeltsAll p0 = some true := by
  refine Ok.val ?_
  unfold F_law39_BeltsAll F_made_Light
  rw [bind_some]
  refine ok_bif (fun _ => ok_awake (ok_some rfl)) (fun hlt => ?_)
  have hlt : p0.length ≤ 400 := by simp at hlt; omega
  refine ok_bind (roll_ok p0 hlt) fun x6 h6 => ?_
  refine ok_bind (dnext_lt x6 6 h6 (by decide) (by decide)) fun x8 h8 => ?_
  rw [w64 (n := 1 + x8.2) (by omega) (by omega)]
  refine ok_bind (make_loop _ rfl _ x8.1 h8.1 (by omega) (by omega)) fun o11 h11 => ?_
  obtain ⟨hd, hlen, hB⟩ := h11
  have h6' := hB.1
  have hl : SmL o11.2 := by unfold SmL; omega
  have hs := back_snd hB (by omega)
  obtain ⟨m0, mU⟩ := make_vld hs
  rw [make_eq _ hl, bind_some, m0]
  refine ok_bind (Q := fun o => ∃ x : T_Line, o = .inr (0, x) ∧ Upto o11.2 o11.2.length x) (ok_loop (fun s : Int × Int × T_Line => s.1 = 0 ∧ ∃ i : Nat, s.2.1 = (i : Int) ∧ i ≤ o11.2.length ∧ Upto o11.2 i s.2.2) (fun s => (o11.2.length - s.2.1).toNat) _ (fun s hs' => ?_) _ ⟨rfl, 0, rfl, Nat.zero_le _, mU⟩) fun o22 h22 => ?_
  · obtain ⟨e, i', x⟩ := s
    obtain ⟨rfl, i, rfl, hi, hU⟩ := hs'
    dsimp only at hU
    unfold F_law39_BeltsAll_L2
    dsimp only
    rw [and_bif rfl, bind_some]
    refine ok_dec (fun hlt => ?_) (fun hge => ok_some ?_)
    · have hi' : i < o11.2.length := by omega
      obtain ⟨u1, u2, u3, u4⟩ := upto_next hB hi' hU
      obtain ⟨b1, b2, b3, b4, b5, b6⟩ := back_nx hB hi'
      have hT := (vld_is hU.vld).2.2
      rw [start_eq _ _ _ hl, bind_some, u1]
      dsimp only
      rw [bif_neg (fun h => h rfl), getI_nat, List.getElem?_eq_getElem hi', bind_some, u2, w64 (n := x.Time + _) (by omega) (by omega), wait_eq _ _ _ hl, bind_some, u3, w64 (by omega) (by omega)]
      refine ok_some ⟨⟨rfl, i + 1, by dsimp only; omega, by omega, u4⟩, ?_⟩
      dsimp only
      omega
    · have : i = o11.2.length := by omega
      subst this
      exact ⟨x, rfl, hU⟩
  obtain ⟨x, rfl, hU⟩ := h22
  dsimp only [Sum.elim_inr]
  obtain ⟨hv, _, hst, hpl, hhd⟩ := hU
  have hL := (vld_is hv).2.1
  rw [or_bif rfl, bind_some, bif_neg (by have := hL.1; omega)]
  refine ok_bind (dnext_lt o11.1 _ hd (by omega) (by omega)) fun x38 h38 => ?_
  have hchk : chk o11.2 x x38.2 = 0 := by
    unfold chk
    rw [hv, decide_eq_true h38.2.1, decide_eq_true h38.2.2]
    rfl
  rw [pull_eq _ _ _ hl, bind_some, above_eq _ _ hl, bind_some]
  have hpr : pullR o11.2 x x38.2 = (pullY o11.2 x x38.2, 0) := by unfold pullR; rw [if_neg (fun h => h hchk)]
  rw [hpr]
  dsimp only
  have hpl' : (pullY o11.2 x x38.2).States.length = o11.2.length := tab_len _ _
  rw [or_bif rfl, bind_some, bif_neg (by omega)]
  have hA : Abv o11.2 x38.2 = abv o11.2 x38.2 := by
    unfold Abv
    rw [hs, decide_eq_true h38.2.1, decide_eq_true h38.2.2]
    rfl
  rw [hA]
  have hAl : (abv o11.2 x38.2).length ≤ 1000000 := by
    unfold abv
    rw [List.length_map]
    have := List.length_filter_le (fun k : Nat => thr o11.2 k x38.2) (List.range o11.2.length)
    simp at this
    omega
  rw [show loopC (F_law39_BeltsAll_L3 o11 (0, x) x38 (pullY o11.2 x x38.2, 0) (abv o11.2 x38.2)) 0 = some (if (List.range o11.2.length).all (fun _ => !false) then .inr () else .inl ()) from
    scan (n := o11.2.length) (by omega) (fun _ => false) (fun i h0 hi => by
      unfold F_law39_BeltsAll_L3
      obtain ⟨k, rfl⟩ : ∃ k : Nat, i = k := ⟨i.toNat, by omega⟩
      have hk : k < o11.2.length := by omega
      have hs2 := hst k hk
      rw [if_pos hk] at hs2
      have hy : s0 (pullY o11.2 x x38.2) k = (bif stpd o11.2 x38.2 k then 0 else s0 x k) := (stop_at hk).1
      dsimp only
      rw [bif_pos hi, getI_g (by omega) (by have := hL.1; omega), bind_some, s0_g, hs2, bif_neg (fun h => h rfl), getI_g (by omega) (by omega), bind_some, s0_g, hy, hs2, has_eq _ _ hAl, bind_some, w64 (by omega) (by omega)]
      have e1 : decide ((bif stpd o11.2 x38.2 k then (0 : Int) else 2) = 2) = !stpd o11.2 x38.2 k := by cases stpd o11.2 x38.2 k <;> rfl
      have e2 : decide ((k : Int) ∈ abv o11.2 x38.2) = thr o11.2 k x38.2 := by
        cases h : thr o11.2 k x38.2 with
        | true => exact decide_eq_true ((mem_abv hk).2 h)
        | false => exact decide_eq_false fun hm => by rw [(mem_abv hk).1 hm] at h; cases h
      rw [e1, e2]
      unfold stpd
      cases decide ((k : Int) = x38.2) <;> cases thr o11.2 k x38.2 <;> rfl) (by unfold F_law39_BeltsAll_L3; rw [bif_neg (by omega)]), bind_some]
  have : (List.range o11.2.length).all (fun _ => !false) = true := List.all_eq_true.2 fun _ _ => rfl
  rw [this, if_pos rfl]
  exact ok_awake (ok_some rfl)
end Go.L
