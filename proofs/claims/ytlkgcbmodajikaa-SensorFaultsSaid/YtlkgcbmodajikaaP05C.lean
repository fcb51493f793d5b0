/- SensorDecodes: program and reference do the same. -/
import Derived.Test.YtlkgcbmodajikaaP05B
namespace Go.L
open Go Go.Aml
theorem rdec_L1 : F_ref05_Decode_L1 = F_sensor_Decode_L1 := rfl
theorem dec_loop (l : List T_Sensor) (f : T_Frame) (hl : l.length ≤ 1000) : Ok (loopC (F_sensor_Decode_L1 l f) (-1, IntKind.i64.wrap ((l.length : Int) - 1))) fun r => r < l.length := by
  rw [w64 (by omega) (by omega)]
  refine ok_loop (fun s : Int × Int => s.1 < l.length ∧ -1 ≤ s.2 ∧ s.2 < l.length) (fun s => (s.2 + 1).toNat) _ (fun s hs => ?_) _ ⟨by dsimp only; omega, by dsimp only; omega, by dsimp only; omega⟩
  obtain ⟨a, i⟩ := s
  obtain ⟨h0, h1, h2⟩ := hs
  dsimp only at h0 h1 h2
  unfold F_sensor_Decode_L1
  dsimp only
  refine ok_dec (fun hlt => ?_) (fun _ => ok_some h0)
  refine ok_bind (Q := fun r => r < (l.length : Int)) (ok_bind (ok_getI hlt h2) fun x8 _ => ok_dec (fun _ => ok_some h2) (fun _ => ok_some h0)) fun o7 h7 => ?_
  rw [w64 (n := i - 1) (by omega) (by omega)]
  refine ok_some ⟨⟨h7, by dsimp only; omega, by dsimp only; omega⟩, ?_⟩
  show (i - 1 + 1).toNat < (i + 1).toNat
  omega
theorem not_inT {p : Int} : (!(inR 0 2147483648 p)) = decide (p < 0 ∨ 2147483648 < p) := by
  cases h : inR 0 2147483648 p with
  | true => have := inR_iff.1 h; rw [decide_eq_false (by omega)]; rfl
  | false =>
    rw [decide_eq_true]
    · rfl
    · refine Decidable.byContradiction fun hn => ?_
      have : inR 0 2147483648 p = true := inR_iff.2 ⟨by omega, by omega⟩
      rw [h] at this; cases this
theorem dec_eq (l : List T_Sensor) (f : T_Frame) (t : Int) (hl : l.length ≤ 1000) : F_ref05_Decode l f t = F_sensor_Decode l f t ∧ Ok (F_sensor_Decode l f t) fun _ => True := by
  unfold F_ref05_Decode F_sensor_Decode
  rw [rin, bind_some, not_inT, or_bif rfl, bind_some, rdec_L1]
  by_cases ht : t < 0 ∨ 2147483648 < t
  · rw [bif_pos ht, bif_pos ht]
    exact ⟨rfl, ok_some trivial⟩
  rw [bif_neg ht, bif_neg ht]
  obtain ⟨o, h1, h2⟩ := dec_loop l f hl
  rw [h1, bind_some, bind_some]
  by_cases ho : o < 0
  · rw [bif_pos ho, bind_some, bif_pos ho, bind_some]
    exact ⟨rfl, ok_some trivial⟩
  rw [bif_neg ho, bif_neg ho, getI_ok (by omega) h2]
  generalize l[o.toNat]'(by omega) = x
  simp only [bind_some, scheck_eq, rscheck_eq]
  by_cases hc : snC x ≠ 0
  · rw [bif_pos hc, bif_pos hc]
    exact ⟨rfl, ok_some trivial⟩
  rw [bif_neg hc, bif_neg hc]
  have hc := Decidable.byContradiction hc
  have en : F_sensor_Nothing = some noth := rfl
  have en' : F_ref05_Nothing = some noth := rfl
  rw [en, en']
  simp only [bind_some, lvalue_eq _ _ hc, rvalue_eq]
  have e : ∀ p, valC x p = valS x p := fun p => by unfold valC; rw [if_neg (by omega)]
  simp only [e]
  by_cases k1 : f.Kind = 1
  · rw [bif_neg (fun h => h k1), bind_some, bif_pos k1, bif_pos k1, bif_pos k1]
    by_cases hd : (f.Data.length : Int) ≠ 2
    · rw [bif_pos hd, bif_pos hd]
      exact ⟨rfl, ok_some trivial⟩
    · rw [bif_neg hd, bif_neg hd, bif_neg (show ¬ f.Kind = 2 by omega), bind_some]
      have g0 := getI_ok (l := f.Data) (i := 0) (by decide) (by omega)
      have g1 := getI_ok (l := f.Data) (i := 1) (by decide) (by omega)
      rw [g0, g1]
      exact ⟨rfl, ok_some trivial⟩
  · rw [bif_pos k1, bind_some, bif_neg k1, bif_neg k1, bif_neg k1]
    by_cases k2 : f.Kind = 2
    · rw [bif_neg (fun h => h k2), bif_pos k2, bif_pos k2]
      by_cases hd : (f.Data.length : Int) ≠ 0
      · rw [decide_eq_true hd]
        exact ⟨rfl, ok_some trivial⟩
      · rw [decide_eq_false hd]
        exact ⟨rfl, ok_some trivial⟩
    · rw [bif_pos k2, bif_neg k2]
      exact ⟨rfl, ok_some trivial⟩
theorem frame_ok (c : T_draw_Codes) (hc : CodesOk c) : Ok (F_draw_Codes_Frame c) fun r => CodesOk r.1 := by
  unfold F_draw_Codes_Frame
  refine ok_bind (next_lt c 6 hc (by decide)) fun x1 h1 => ?_
  refine ok_bind (next_lt _ 2 h1.1 (by decide)) fun x3 h3 => ?_
  refine ok_bind (next_lt _ 256 h3.1 (by decide)) fun x5 h5 => ?_
  refine ok_bind (next_lt _ 8 h5.1 (by decide)) fun x7 h7 => ?_
  refine ok_bind (Q := fun r : T_Frame × T_draw_Codes => CodesOk r.2) (ok_dec (fun _ => ok_some h7.1) (fun _ => ok_dec (fun _ => ?_) (fun _ => ok_dec (fun _ => ?_) (fun _ => ok_some h7.1)))) fun r hr => ok_some hr
  · exact ok_bind (next_lt _ 4 h7.1 (by decide)) fun x12 h12 => ok_some h12.1
  · refine ok_bind (next_lt _ 3 h7.1 (by decide)) fun x15 h15 => ?_
    refine ok_bind (ok_sliI (Int.le_refl 0) h15.2.1 ?_) fun x17 _ => ok_some h15.1
    show x15.2 ≤ 2
    omega
theorem law_SensorDecodes (p0 : List Int) (w0 : InL (In .u8) p0) (p1 : List T_Sensor) (w1 : InL T_Sensor.Wf p1) (p2 : T_Frame) (w2 : p2.Wf) (p3 : Int) (w3 : In .i64 p3) : F_law05_SensorDecodes p0 p1 p2 p3 = some true := by
  refine Ok.val ?_
  unfold F_law05_SensorDecodes
  rw [or_bif rfl, bind_some]
  refine ok_dec (fun _ => ok_awake (ok_some rfl)) (fun hl => ?_)
  refine ok_bind (new_ok p0 (bytesOf w0)) fun c hc => ?_
  refine ok_bind (range_ok c 1 6 hc (by decide) (by decide) (by decide)) fun x8 h8 => ?_
  refine ok_bind (next_lt _ 3 h8.1 (by decide)) fun x10 h10 => ?_
  refine ok_bind (sensor_any _ _ _ _ h10.1) fun x12 h12 => ?_
  refine ok_bind (range_ok _ 1 6 h12 (by decide) (by decide) (by decide)) fun x14 h14 => ?_
  refine ok_bind (next_lt _ 3 h14.1 (by decide)) fun x16 h16 => ?_
  refine ok_bind (sensor_any _ _ _ _ h16.1) fun x18 h18 => ?_
  refine ok_bind (range_ok _ 1 6 h18 (by decide) (by decide) (by decide)) fun x20 h20 => ?_
  refine ok_bind (next_lt _ 2 h20.1 (by decide)) fun x22 h22 => ?_
  refine ok_bind (sensor_any _ _ _ _ h22.1) fun x24 h24 => ?_
  refine ok_bind (mod_ok p3 1000 (by decide)) fun x26 _ => ?_
  refine ok_bind (frame_ok _ h24) fun x28 h28 => ?_
  refine ok_bind (frame_ok _ h28) fun x30 h30 => ?_
  refine ok_bind (Q := (· = .inr ())) (ok_loop (fun s : Int => 0 ≤ s ∧ s ≤ 3) (fun s => (3 - s).toNat) _ (fun s hs => ?_) _ ⟨Int.le_refl 0, by decide⟩) fun o ho => ?_
  · unfold F_law05_SensorDecodes_L1
    refine ok_dec (fun hlt => ?_) (fun _ => ok_some rfl)
    have hl3 : s < 3 := hlt
    refine ok_bind (ok_getI hs.1 hlt) fun x37 _ => ?_
    refine ok_bind (Q := (· = .inr ())) (ok_loop (fun s : Int => 0 ≤ s ∧ s ≤ 2) (fun s => (2 - s).toNat) _ (fun i hi => ?_) _ ⟨Int.le_refl 0, by decide⟩) fun o ho => ?_
    · unfold F_law05_SensorDecodes_L2
      refine ok_dec (fun hlt2 => ?_) (fun _ => ok_some rfl)
      have hl2 : i < 2 := hlt2
      refine ok_bind (ok_getI hi.1 hlt2) fun x44 hx => ?_
      have hx44 : x44.length ≤ 1000 := by
        have := mem_get hx
        simp only [List.mem_cons, List.not_mem_nil, or_false] at this
        rcases this with rfl | rfl
        · show 3 ≤ 1000; decide
        · omega
      obtain ⟨a1, r1, b1, _⟩ := dec_eq x44 x37 p3 hx44
      obtain ⟨a2, r2, b2, _⟩ := dec_eq x44 x37 x26 hx44
      rw [a1, a2, b1, b2]
      simp only [bind_some, beq_self_eq_true, Bool.and_self, Bool.not_true, cond_false, ne_eq, not_true_eq_false, decide_false]
      have e : IntKind.i64.wrap (i + 1) = i + 1 := w64 (by omega) (by omega)
      rw [e]
      refine ok_some ⟨⟨by omega, by omega⟩, ?_⟩
      show (2 - (i + 1)).toNat < (2 - i).toNat
      omega
    · subst ho
      have e : IntKind.i64.wrap (s + 1) = s + 1 := w64 (by omega) (by omega)
      rw [e]
      refine ok_some ⟨⟨by omega, by omega⟩, ?_⟩
      show (3 - (s + 1)).toNat < (3 - s).toNat
      omega
  · subst ho
    exact ok_awake (ok_some rfl)
end Go.L
