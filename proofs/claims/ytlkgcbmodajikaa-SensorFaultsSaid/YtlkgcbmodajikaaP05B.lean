/- SensorRaw, SensorDecodes: program and reference do the same. -/
import Derived.Test.YtlkgcbmodajikaaP05A
namespace Go.L
open Go Go.Aml

/-! ### the least raw number -/
def hitB (s : T_Sensor) (c p : Int) : Bool := !(decide (valC s p = noth)) && (decide ((valC s p).Low ≤ c) && decide (c ≤ (valC s p).High))
theorem rraw_step (s : T_Sensor) (c p : Int) : F_ref05_Raw_L1 s c p = bif decide (p ≤ 65535) then some (bif hitB s c p then Sum.inr (Sum.inl p) else Sum.inl (IntKind.i64.wrap (p + 1))) else some (Sum.inr (Sum.inr ())) := by
  unfold F_ref05_Raw_L1 hitB
  have en : F_ref05_Nothing = some noth := rfl
  rw [rvalue_eq, bind_some, en]
  simp only [bind_some, spdec]
  cases decide (valC s p = noth) <;> cases decide ((valC s p).Low ≤ c) <;> cases decide (c ≤ (valC s p).High) <;> rfl
theorem raw_step {s : T_Sensor} (h : snC s = 0) (c p : Int) : F_sensor_Raw_L1 s c p = F_ref05_Raw_L1 s c p := by
  have e : valC s p = valS s p := by unfold valC; rw [if_neg (by omega)]
  rw [rraw_step]
  unfold F_sensor_Raw_L1 hitB
  have en : F_sensor_Nothing = some noth := rfl
  rw [lvalue_eq _ _ h, bind_some, en, e]
  simp only [bind_some, spdec]
  cases decide (valS s p = noth) <;> cases decide ((valS s p).Low ≤ c) <;> cases decide (c ≤ (valS s p).High) <;> rfl
def RawR (s : T_Sensor) (c : Int) (o : Int ⊕ Unit) : Prop := (∃ p, o = .inl p ∧ 0 ≤ p ∧ p ≤ 65535 ∧ hitB s c p = true ∧ ∀ q, 0 ≤ q → q < p → hitB s c q = false) ∨ (o = .inr () ∧ ∀ q, 0 ≤ q → q ≤ 65535 → hitB s c q = false)
theorem raw_loop (s : T_Sensor) (c : Int) : Ok (loopC (F_ref05_Raw_L1 s c) 0) (RawR s c) := by
  refine ok_loop (fun p : Int => 0 ≤ p ∧ p ≤ 65536 ∧ ∀ q, 0 ≤ q → q < p → hitB s c q = false) (fun p => (65536 - p).toNat) _ (fun p hp => ?_) _ ⟨Int.le_refl 0, by decide, fun q a b => by omega⟩
  obtain ⟨h0, h1, h2⟩ := hp
  rw [rraw_step]
  refine ok_dec (fun hlt => ?_) (fun hge => ok_some (.inr ⟨rfl, fun q a b => h2 q a (by omega)⟩))
  cases hh : hitB s c p with
  | true => exact ok_some (.inl ⟨p, rfl, h0, hlt, hh, h2⟩)
  | false =>
    have e : IntKind.i64.wrap (p + 1) = p + 1 := w64 (by omega) (by omega)
    rw [e]
    refine ok_some ⟨⟨by omega, by omega, fun q a b => ?_⟩, ?_⟩
    · by_cases hq : q = p
      · rw [hq]; exact hh
      · exact h2 q a (by omega)
    · show (65536 - (p + 1)).toNat < (65536 - p).toNat; omega
theorem raw_eq (s : T_Sensor) (c : Int) : F_sensor_Raw s c = F_ref05_Raw s c := by
  unfold F_sensor_Raw
  rw [scheck_eq, bind_some]
  by_cases h : snC s ≠ 0
  · rw [bif_pos h]
    obtain ⟨o, h1, h2⟩ := raw_loop s c
    unfold F_ref05_Raw
    rw [h1]
    rcases h2 with ⟨p, rfl, _, _, hh, _⟩ | ⟨rfl, _⟩
    · have e : valC s p = noth := by unfold valC; rw [if_pos h]
      unfold hitB at hh
      rw [decide_eq_true e] at hh
      cases hh
    · rfl
  · rw [bif_neg h]
    have h := Decidable.byContradiction h
    unfold F_ref05_Raw
    rw [loop_congr (f := F_sensor_Raw_L1 s c) (g := F_ref05_Raw_L1 s c) (fun _ => True) (fun p _ => raw_step h c p) (fun _ _ _ _ => trivial) _ trivial]
theorem raw_ok (s : T_Sensor) (c : Int) : Ok (F_ref05_Raw s c) fun _ => True := by
  unfold F_ref05_Raw
  refine ok_bind (raw_loop s c) fun o _ => ?_
  cases o with
  | inl p => exact ok_some trivial
  | inr u => exact ok_some trivial
theorem law_SensorRaw (p0 : List Int) (w0 : InL (In .u8) p0) (p1 : Int) (w1 : In .i64 p1) (p2 : Int) (w2 : In .i64 p2) : F_law05_SensorRaw p0 p1 p2 = some true := by
  refine Ok.val ?_
  unfold F_law05_SensorRaw
  refine ok_bind (made_ok p0 p2 (bytesOf w0)) fun x1 _ => ?_
  refine ok_bind (mod_ok p1 400 (by decide)) fun x3 _ => ?_
  obtain ⟨r, h1, _⟩ := raw_ok x1 (IntKind.i64.wrap (x3 - 100))
  rw [raw_eq, h1]
  simp only [bind_some, decide_true, cond_true, beq_self_eq_true]
  exact ok_awake (ok_some rfl)
end Go.L
