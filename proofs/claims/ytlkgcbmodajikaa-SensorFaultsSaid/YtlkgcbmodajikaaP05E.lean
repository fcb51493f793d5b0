/- SensorTrue. -/
import Derived.Test.YtlkgcbmodajikaaP05D
namespace Go.L
open Go Go.Aml
theorem law_SensorTrue (p0 : List Int) (w0 : InL (In .u8) p0) (p1 : Int) (w1 : In .u16 p1) (p2 : Int) (w2 : In .i64 p2) (p3 : Int) (w3 : In .u8 p3) : F_law05_SensorTrue p0 p1 p2 p3 = some true := by
  have u1 : 0 ≤ p1 ∧ p1 ≤ 65535 := w1
  have u3 := In.u8 w3
  refine Ok.val ?_
  unfold F_law05_SensorTrue
  refine ok_bind (new_ok p0 (bytesOf w0)) fun c hc => ?_
  refine ok_bind (sensor_full c 3 0 0 hc) fun x3 h3 => ?_
  have hs := sn_ok h3.2 (by decide) (by decide) (by decide)
  obtain ⟨k1, k2, k3, o1, o2, s1, s2, e1, e2, d1, d2, l1, l2⟩ := h3.2
  have hb := scale_bd (p := p1) hs u1.1 u1.2
  have w_p : IntKind.i64.wrap p1 = p1 := w64 (by omega) (by omega)
  have w_m : IntKind.i64.wrap p3 = p3 := w64 (by omega) (by omega)
  have w_e : IntKind.i64.wrap (x3.2.Error + p3) = x3.2.Error + p3 := w64 (by omega) (by omega)
  have w_o : IntKind.i64.wrap (1000 * x3.2.Offset) = 1000 * x3.2.Offset := w64 (by omega) (by omega)
  have w_s : IntKind.i64.wrap (x3.2.Scale * p1) = x3.2.Scale * p1 := w64 (by omega) (by omega)
  have w_x : IntKind.i64.wrap (1000 * x3.2.Offset + x3.2.Scale * p1) = 1000 * x3.2.Offset + x3.2.Scale * p1 := w64 (by omega) (by omega)
  have w_2 : IntKind.i64.wrap (2 * x3.2.Error) = 2 * x3.2.Error := w64 (by omega) (by omega)
  have w_21 : IntKind.i64.wrap (2 * x3.2.Error + 1) = 2 * x3.2.Error + 1 := w64 (by omega) (by omega)
  have w_1k : IntKind.i64.wrap (1000 * x3.2.Error) = 1000 * x3.2.Error := w64 (by omega) (by omega)
  rw [w_p, w_m, w_e, w_o, w_s, w_x, w_2, w_21, w_1k, value_eq, bind_some, floor_eq _ (by omega) (by omega), bind_some]
  refine ok_bind (mod_ok p2 _ (by omega)) fun x9 h9 => ?_
  have h9' := h9.2.1 (by omega)
  generalize hX : x3.2.Scale * p1 = X at *
  have v1 : IntKind.i64.wrap ((1000 * x3.2.Offset + X) / 1000 + x9) = (1000 * x3.2.Offset + X) / 1000 + x9 := w64 (by omega) (by omega)
  have v2 : IntKind.i64.wrap ((1000 * x3.2.Offset + X) / 1000 + x9 - x3.2.Error) = (1000 * x3.2.Offset + X) / 1000 + x9 - x3.2.Error := w64 (by omega) (by omega)
  rw [v1, v2]
  generalize hv : (1000 * x3.2.Offset + X) / 1000 + x9 - x3.2.Error = v at *
  have v3 : IntKind.i64.wrap (1000 * v) = 1000 * v := w64 (by omega) (by omega)
  have v4 : IntKind.i64.wrap (1000 * v - (1000 * x3.2.Offset + X)) = 1000 * v - (1000 * x3.2.Offset + X) := w64 (by omega) (by omega)
  have v5 : IntKind.i64.wrap (1000 * x3.2.Offset + X - 1000 * v) = 1000 * x3.2.Offset + X - 1000 * v := w64 (by omega) (by omega)
  rw [v3, v4, v5, or_bif rfl, bind_some]
  refine ok_dec (fun _ => ok_awake (ok_some rfl)) (fun hn => ?_)
  have hs2 : snC (T_Sensor.mk x3.2.Address x3.2.Kind x3.2.Target x3.2.Offset x3.2.Scale (x3.2.Error + p3) x3.2.Drift x3.2.Life) = 0 := snC_of (by dsimp only; omega)
  rw [value_eq, bind_some, valC_num hs (by omega) u1.1 u1.2, valC_num hs2 (by dsimp only; omega) u1.1 u1.2, if_neg (by omega), if_neg (by dsimp only; omega)]
  unfold loV hiV
  dsimp only
  rw [hX, bif_pos (by omega), bif_pos (by omega), bif_pos (by omega), bif_pos (by omega)]
  exact ok_awake (ok_some rfl)
end Go.L
