/- SensorFaults. -/
import Derived.Test.YtlkgcbmodajikaaP05E
namespace Go.L
open Go Go.Aml
theorem i64_or_nat (a b : Nat) (ha : a < 9223372036854775808) (hb : b < 9223372036854775808) : bits .or .i64 (a : Int) (b : Int) = ((a ||| b : Nat) : Int) := by
  have hx : a ||| b < 2 ^ 63 := Nat.or_lt_two_pow (by omega) (by omega)
  have ofI : ∀ n : Nat, n < 9223372036854775808 → (BitVec.ofInt 64 (n : Int)).toNat = n := fun n hn => by
    rw [BitVec.ofInt_natCast, BitVec.toNat_ofNat]; exact Nat.mod_eq_of_lt (by omega)
  show IntKind.i64.wrap ((BitVec.ofInt 64 (a : Int) ||| BitVec.ofInt 64 (b : Int)).toNat : Int) = _
  rw [BitVec.toNat_or, ofI a ha, ofI b hb, IntKind.wrap_i64]
  omega
theorem or_bytes (a b : Int) (ha : 0 ≤ a ∧ a ≤ 255) (hb : 0 ≤ b ∧ b ≤ 255) : bits .or .i64 (a * 256) b = a * 256 + b := by
  obtain ⟨n, rfl⟩ := Int.eq_ofNat_of_zero_le ha.1
  obtain ⟨m, rfl⟩ := Int.eq_ofNat_of_zero_le hb.1
  rw [show (n : Int) * 256 = ((n * 256 : Nat) : Int) by omega, i64_or_nat _ _ (by omega) (by omega)]
  have : 2 ^ 8 * n + m = 2 ^ 8 * n ||| m := Nat.two_pow_add_eq_or_of_lt (by omega) n
  rw [show n * 256 = 2 ^ 8 * n by omega, ← this]
  omega
theorem one_loop (x : T_Sensor) (f : T_Frame) (h : x.Address = f.Address) : loopC (F_sensor_Decode_L1 [x] f) (-1, IntKind.i64.wrap (([x].length : Int) - 1)) = some 0 := by
  have e : IntKind.i64.wrap (([x].length : Int) - 1) = 0 := by simp; decide
  have g : getI [x] 0 = some x := rfl
  rw [e, loopC_inl (a' := (0, -1)), loopC_inr (b := 0)]
  · rfl
  · unfold F_sensor_Decode_L1
    dsimp only
    rw [bif_pos (by decide), g, bind_some, bif_pos h, bind_some]
    rfl
theorem dec_quiet (x : T_Sensor) (a : Int) (h : x.Address = a) (hs : snC x = 0) : F_sensor_Decode [x] (T_Frame.mk a 2 []) 3 = some (T_Measure.mk 0 3 noth, 0) := by
  have g : getI [x] 0 = some x := rfl
  unfold F_sensor_Decode
  rw [one_loop x _ h]
  simp only [g, bind_some, scheck_eq, hs]
  rfl
theorem dec_num (x : T_Sensor) (a u v : Int) (h : x.Address = a) (hs : snC x = 0) : F_sensor_Decode [x] (T_Frame.mk a 1 [u, v]) 3 = some (T_Measure.mk 0 3 (valS x (bits .or .i64 (IntKind.i64.wrap ((IntKind.i64.wrap u) * 256)) (IntKind.i64.wrap v))), 0) := by
  have g : getI [x] 0 = some x := rfl
  have g0 : getI [u, v] 0 = some u := rfl
  have g1 : getI [u, v] 1 = some v := rfl
  unfold F_sensor_Decode
  rw [one_loop x _ h]
  simp only [g, g0, g1, bind_some, scheck_eq, hs, lvalue_eq _ _ hs]
  rfl
theorem law_SensorFaults (p0 : List Int) (w0 : InL (In .u8) p0) (p1 : Int) (w1 : In .u16 p1) (p2 : Int) (w2 : In .u8 p2) : F_law05_SensorFaults p0 p1 p2 = some true := by
  have u1 : 0 ≤ p1 ∧ p1 ≤ 65535 := w1
  have u2 := In.u8 w2
  have m2 := tmod_lt (n := 3) u2.1 (by decide)
  have w_2 : IntKind.i64.wrap p2 = p2 := w64 (by omega) (by omega)
  have w_1 : IntKind.i64.wrap p1 = p1 := w64 (by omega) (by omega)
  refine Ok.val ?_
  unfold F_law05_SensorFaults
  rw [w_2, w_1]
  generalize hr : Int.tmod p2 3 = r at *
  refine ok_bind (new_ok p0 (bytesOf w0)) fun c hc => ?_
  have w_4 : IntKind.i64.wrap (4 + r) = 4 + r := w64 (by omega) (by omega)
  have hx3 : getI [1, 2, 5] r = some (vmax (4 + r)) := by
    have : r = 0 ∨ r = 1 ∨ r = 2 := by omega
    rcases this with rfl | rfl | rfl <;> rfl
  rw [hx3, bind_some, w_4]
  refine ok_bind (sensor_full c (4 + r) 5 0 hc) fun x5 h5 => ?_
  have hs := sn_ok h5.2 ⟨by omega, by omega⟩ (by decide) (by decide)
  obtain ⟨k1, k2, _⟩ := h5.2
  have b1 : IntKind.u8.wrap (p1 / 256) = p1 / 256 := w8 (by omega) (by omega)
  have b2 : IntKind.u8.wrap p1 = p1 % 256 := by
    unfold IntKind.wrap
    simp [IntKind.bits, IntKind.signed]
  have b3 : IntKind.i64.wrap (p1 / 256) = p1 / 256 := w64 (by omega) (by omega)
  have b4 : IntKind.i64.wrap (p1 / 256 * 256) = p1 / 256 * 256 := w64 (by omega) (by omega)
  have b5 : IntKind.i64.wrap (p1 % 256) = p1 % 256 := w64 (by omega) (by omega)
  rw [b1, b2, dec_quiet _ 5 k2 hs, bind_some, dec_num _ 5 _ _ k2 hs, bind_some, b3, b4, b5, or_bytes _ _ (by omega) (by omega), show p1 / 256 * 256 + p1 % 256 = p1 by omega]
  have hv : valS x5.2 p1 = if vmax (4 + r) < p1 then noth else ⟨p1, p1⟩ := by
    unfold valS
    rw [if_neg (by omega), if_pos (by omega), k1]
  have en : F_sensor_Nothing = some noth := rfl
  rw [hv, en]
  simp only [bind_some, bif_ite]
  by_cases hlt : vmax (4 + r) < p1
  · rw [if_pos hlt]
    simp only [if_pos hlt, bind_some, speq, cond_true, if_true]
    exact ok_awake (ok_some rfl)
  · rw [if_neg hlt]
    simp only [if_neg hlt, bind_some, speq, cond_true, if_true, beq_self_eq_true, Bool.and_self]
    exact ok_awake (ok_some rfl)
end Go.L
