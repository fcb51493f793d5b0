/- SensorTrue, SensorBack. -/
import Derived.Test.YtlkgcbmodajikaaP05C
namespace Go.L
open Go Go.Aml
theorem snC_of {s : T_Sensor} (h : 1 ≤ s.Kind ∧ s.Kind ≤ 6 ∧ 0 ≤ s.Address ∧ s.Address ≤ 255 ∧ 0 ≤ s.Target ∧ -1000000 ≤ s.Offset ∧ s.Offset ≤ 1000000 ∧ -1000000 ≤ s.Scale ∧ s.Scale ≤ 1000000 ∧ 0 ≤ s.Error ∧ s.Error ≤ 1000000 ∧ 0 ≤ s.Drift ∧ s.Drift ≤ 1000000 ∧ 1 ≤ s.Life ∧ s.Life ≤ 1000000) : snC s = 0 := by
  unfold snC
  rw [inR_iff.2 ⟨h.1, h.2.1⟩, inR_iff.2 (show 0 ≤ s.Address ∧ s.Address ≤ 255 by omega), inR_iff.2 (show -1000000 ≤ s.Offset ∧ s.Offset ≤ 1000000 by omega), inR_iff.2 (show -1000000 ≤ s.Scale ∧ s.Scale ≤ 1000000 by omega), inR_iff.2 (show 0 ≤ s.Error ∧ s.Error ≤ 1000000 by omega), inR_iff.2 (show 0 ≤ s.Drift ∧ s.Drift ≤ 1000000 by omega), inR_iff.2 (show 1 ≤ s.Life ∧ s.Life ≤ 1000000 by omega), decide_eq_false (show ¬ s.Target < 0 by omega)]
  rfl
def SnOk (s : T_Sensor) (k a t : Int) : Prop := s.Kind = k ∧ s.Address = a ∧ s.Target = t ∧ -50 ≤ s.Offset ∧ s.Offset ≤ 20 ∧ 300 ≤ s.Scale ∧ s.Scale ≤ 2000 ∧ 0 ≤ s.Error ∧ s.Error ≤ 5 ∧ 0 ≤ s.Drift ∧ s.Drift ≤ 699 ∧ 1 ≤ s.Life ∧ s.Life ≤ 200
theorem sensor_full (c : T_draw_Codes) (k a t : Int) (hc : CodesOk c) : Ok (F_draw_Codes_Sensor c k a t) fun r => CodesOk r.1 ∧ SnOk r.2 k a t := by
  unfold F_draw_Codes_Sensor
  refine ok_bind (range_ok c 1 200 hc (by decide) (by decide) (by decide)) fun x1 h1 => ?_
  refine ok_bind (Q := fun _ => True) (ok_some trivial) fun x3 _ => ?_
  refine ok_bind (Q := fun r : T_Sensor × T_draw_Codes => CodesOk r.2 ∧ SnOk r.1 k a t) (ok_bif (fun _ => ?_) (fun _ => ?_)) fun r hr => ok_some hr
  · refine ok_bind (range_ok _ (-50) 20 h1.1 (by decide) (by decide) (by decide)) fun x7 h7 => ?_
    refine ok_bind (range_ok _ 300 2000 h7.1 (by decide) (by decide) (by decide)) fun x9 h9 => ?_
    refine ok_bind (next_lt _ 6 h9.1 (by decide)) fun x11 h11 => ?_
    refine ok_bind (next_lt _ 700 h11.1 (by decide)) fun x13 h13 => ?_
    exact ok_some ⟨h13.1, by unfold SnOk; dsimp only; omega⟩
  · exact ok_some ⟨h1.1, by unfold SnOk; dsimp only; omega⟩
theorem sn_ok {s : T_Sensor} {k a t : Int} (h : SnOk s k a t) (hk : 1 ≤ k ∧ k ≤ 6) (ha : 0 ≤ a ∧ a ≤ 255) (ht : 0 ≤ t) : snC s = 0 := snC_of (by unfold SnOk at h; omega)
theorem lo_hi {s : T_Sensor} {p : Int} (h : 0 ≤ s.Error) : loV s p ≤ hiV s p := by unfold loV hiV; omega
theorem valC_num {s : T_Sensor} {p : Int} (h : snC s = 0) (hk : s.Kind < 4) (h0 : 0 ≤ p) (h1 : p ≤ 65535) : valC s p = (if s.Kind = 1 ∨ s.Kind = 2 then ⟨max (loV s p) 0, max (hiV s p) 0⟩ else ⟨loV s p, hiV s p⟩) := by
  unfold valC valS
  rw [if_neg (by omega), if_neg (by omega), if_neg (by omega)]
theorem valC_ne {s : T_Sensor} {p : Int} (h : snC s = 0) (hk : s.Kind < 4) (h0 : 0 ≤ p) (h1 : p ≤ 65535) : valC s p ≠ noth ∧ (valC s p).Low ≤ (valC s p).High := by
  have hs := sn0 h
  have hb := scale_bd h h0 h1
  have hl := lo_hi (p := p) hs.2.2.2.2.2.2.2.2.2.2.1
  have hlb : -1000000000 ≤ loV s p := by unfold loV; omega
  rw [valC_num h hk h0 h1]
  split
  · refine ⟨fun e => ?_, by dsimp only; omega⟩
    have := congrArg T_Span.Low e
    unfold noth at this
    dsimp only at this
    omega
  · refine ⟨fun e => ?_, hl⟩
    have := congrArg T_Span.Low e
    unfold noth at this
    dsimp only at this
    omega
theorem hit_iff {s : T_Sensor} {c p : Int} (h : snC s = 0) (hk : s.Kind < 4) (h0 : 0 ≤ p) (h1 : p ≤ 65535) : hitB s c p = true ↔ (valC s p).Low ≤ c ∧ c ≤ (valC s p).High := by
  unfold hitB
  rw [decide_eq_false (valC_ne h hk h0 h1).1]
  simp

theorem law_SensorBack (p0 : List Int) (w0 : InL (In .u8) p0) (p1 : Int) (w1 : In .u16 p1) : F_law05_SensorBack p0 p1 = some true := by
  have u1 : 0 ≤ p1 ∧ p1 ≤ 65535 := w1
  refine Ok.val ?_
  unfold F_law05_SensorBack
  refine ok_bind (new_ok p0 (bytesOf w0)) fun c hc => ?_
  refine ok_bind (range_ok c 1 3 hc (by decide) (by decide) (by decide)) fun x3 h3 => ?_
  refine ok_bind (sensor_full _ _ _ _ h3.1) fun x5 h5 => ?_
  have hs := sn_ok h5.2 ⟨h3.2.1, by omega⟩ (by decide) (by decide)
  have hk : x5.2.Kind < 4 := by have := h5.2.1; omega
  have e1 : IntKind.i64.wrap p1 = p1 := w64 (by omega) (by omega)
  have m1 := tmod_lt (n := 500) u1.1 (by decide)
  rw [e1]
  generalize hm : Int.tmod p1 500 = m at *
  rw [value_eq, bind_some, raw_eq]
  have hv := valC_ne (p := m) hs hk m1.1 (by omega)
  have hit : hitB x5.2 (valC x5.2 m).Low m = true := (hit_iff hs hk m1.1 (by omega)).2 ⟨Int.le_refl _, hv.2⟩
  generalize (valC x5.2 m).Low = lo at *
  refine ok_bind (Q := fun r => r.2 = true ∧ 0 ≤ r.1 ∧ r.1 ≤ m ∧ hitB x5.2 lo r.1 = true ∧ ∀ q, 0 ≤ q → q < r.1 → hitB x5.2 lo q = false) ?_ fun x9 h9 => ?_
  · unfold F_ref05_Raw
    refine ok_bind (raw_loop x5.2 lo) fun o ho => ?_
    rcases ho with ⟨p, rfl, q1, q2, q3, q4⟩ | ⟨rfl, q4⟩
    · refine ok_some ⟨rfl, q1, ?_, q3, q4⟩
      refine Decidable.byContradiction fun hn => ?_
      dsimp only at hn
      rw [q4 m m1.1 (by omega)] at hit
      cases hit
    · rw [q4 m m1.1 (by omega)] at hit
      cases hit
  obtain ⟨g1, g2, g3, g4, g5⟩ := h9
  have hh := (hit_iff hs hk g2 (by omega)).1 g4
  rw [g1, value_eq]
  simp only [Bool.not_true, cond_false, bind_some]
  rw [bif_neg (by omega), bind_some, decide_eq_false (by omega)]
  show Ok (Option.bind _ _) _
  rw [bif_neg (by omega), bind_some, decide_eq_false (by omega)]
  show Ok (bif decide (x9.1 = 0) then _ else _) _
  refine ok_dec (fun _ => ok_awake (ok_some rfl)) (fun hz => ?_)
  have e2 : IntKind.i64.wrap (x9.1 - 1) = x9.1 - 1 := w64 (by omega) (by omega)
  have hn := g5 (x9.1 - 1) (by omega) (by omega)
  have hx : ¬ ((valC x5.2 (x9.1 - 1)).Low ≤ lo ∧ lo ≤ (valC x5.2 (x9.1 - 1)).High) := fun hh => by
    rw [(hit_iff hs hk (by omega) (by omega)).2 hh] at hn
    cases hn
  rw [e2, value_eq]
  simp only [bind_some]
  refine ok_dec (fun _ => ok_awake (ok_some rfl)) (fun h1 => ?_)
  rw [bif_pos (by omega)]
  exact ok_awake (ok_some rfl)
end Go.L
