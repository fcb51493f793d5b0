/- Sensors: what the functions yield, plain; program and reference do the same. -/
import Derived.Test.YtlkgcbmodajikaaPDrawB05
namespace Go.L
open Go Go.Aml
theorem bytesOf {l : List Int} (h : InL (In .u8) l) : Bytes l := fun x hx => In.u8 (h.2 x hx)
theorem speq (a : T_Span) : ((a.Low == a.Low) && ((a.High == a.High) && true)) = true := by simp
theorem spdec (a b : T_Span) : ((a.Low == b.Low) && ((a.High == b.High) && true)) = decide (a = b) := by
  by_cases h : a = b
  · subst h; rw [speq, decide_eq_true rfl]
  · rw [decide_eq_false h]
    cases a; cases b
    simp at h ⊢
    exact h

/-! ### sensors -/
def inR (a b x : Int) : Bool := decide (a ≤ x) && decide (x ≤ b)
theorem inR_iff {a b x : Int} : inR a b x = true ↔ a ≤ x ∧ x ≤ b := by simp [inR]
def inG (a b : Int) (l : List Int) (s : Int) : Unit ⊕ Unit := bif (l.drop s.toNat).all (inR a b) then .inr () else .inl ()
theorem in_eq (a b : Int) (l : List Int) (hl : l.length ≤ 1000) : F_sensor_in a b l = some (l.all (inR a b)) := by
  unfold F_sensor_in
  rw [loop_fun (fun s : Int => 0 ≤ s ∧ s ≤ l.length) (fun s => (l.length - s).toNat) (inG a b l) (fun s hs => ?_) 0 ⟨Int.le_refl 0, by omega⟩]
  · rw [bind_some]
    unfold inG
    show Sum.elim _ _ (bif l.all (inR a b) then _ else _) = _
    cases l.all (inR a b) <;> rfl
  · unfold F_sensor_in_L1
    by_cases hlt : s < (l.length : Int)
    · have hd : l.drop s.toNat = l[s.toNat]'(by omega) :: l.drop (s.toNat + 1) := List.drop_eq_getElem_cons (by omega)
      rw [bif_pos hlt, getI_ok hs.1 hlt, bind_some, or_bif rfl, bind_some]
      generalize hx : l[s.toNat]'(by omega) = x at *
      have e : IntKind.i64.wrap (s + 1) = s + 1 := w64 (by omega) (by omega)
      by_cases h : x < a ∨ b < x
      · rw [bif_pos h]
        refine .inr ?_
        unfold inG
        have hn : inR a b x = false := by
          cases hh : inR a b x with
          | false => rfl
          | true => have := inR_iff.1 hh; omega
        rw [hd, List.all_cons, hn]
        rfl
      · rw [bif_neg h, e]
        refine .inl ⟨s + 1, rfl, ⟨by omega, by omega⟩, by omega, ?_⟩
        unfold inG
        have hn : inR a b x = true := inR_iff.2 ⟨by omega, by omega⟩
        rw [hd, List.all_cons, hn, Bool.true_and, show (s + 1).toNat = s.toNat + 1 by omega]
    · rw [bif_neg hlt]
      refine .inr ?_
      unfold inG
      rw [List.drop_of_length_le (by omega)]
      rfl
theorem in1 (a b x : Int) : F_sensor_in a b [x] = some (inR a b x) := by
  rw [in_eq _ _ _ (by simp)]; simp
theorem in2 (a b x y : Int) : F_sensor_in a b [x, y] = some (inR a b x && inR a b y) := by
  rw [in_eq _ _ _ (by simp)]; simp
theorem rin (a b x : Int) : F_ref05_in x a b = some (inR a b x) := by
  unfold F_ref05_in inR
  cases decide (a ≤ x) <;> rfl
def snC (s : T_Sensor) : Int :=
  bif !(inR 1 6 s.Kind) then 5 else
  bif inR 0 255 s.Address && !decide (s.Target < 0) && inR (-1000000) 1000000 s.Offset && inR (-1000000) 1000000 s.Scale && inR 0 1000000 s.Error && inR 0 1000000 s.Drift && inR 1 1000000 s.Life then 0 else 1
theorem scheck_eq (s : T_Sensor) : F_sensor_Check s = some (snC s) := by
  unfold F_sensor_Check snC
  simp only [in1, in2, bind_some]
  cases inR 1 6 s.Kind <;> cases inR 0 255 s.Address <;> cases decide (s.Target < 0) <;> cases inR (-1000000) 1000000 s.Offset <;> cases inR (-1000000) 1000000 s.Scale <;> cases inR 0 1000000 s.Error <;> cases inR 0 1000000 s.Drift <;> cases inR 1 1000000 s.Life <;> rfl
theorem rscheck_eq (s : T_Sensor) : F_ref05_Check s = some (snC s) := by
  unfold F_ref05_Check snC
  simp only [rin, bind_some]
  cases inR 1 6 s.Kind <;> cases inR 0 255 s.Address <;> cases decide (s.Target < 0) <;> cases inR (-1000000) 1000000 s.Offset <;> cases inR (-1000000) 1000000 s.Scale <;> cases inR 0 1000000 s.Error <;> cases inR 0 1000000 s.Drift <;> cases inR 1 1000000 s.Life <;> rfl
theorem sn0 {s : T_Sensor} (h : snC s = 0) : 1 ≤ s.Kind ∧ s.Kind ≤ 6 ∧ 0 ≤ s.Drift ∧ s.Drift ≤ 1000000 ∧ 1 ≤ s.Life ∧ s.Life ≤ 1000000 ∧ -1000000 ≤ s.Offset ∧ s.Offset ≤ 1000000 ∧ -1000000 ≤ s.Scale ∧ s.Scale ≤ 1000000 ∧ 0 ≤ s.Error ∧ s.Error ≤ 1000000 := by
  unfold snC at h
  cases h1 : inR 1 6 s.Kind with
  | false => rw [h1] at h; exact absurd (show (5 : Int) = 0 from h) (by decide)
  | true =>
    rw [h1] at h
    cases h2 : inR 0 255 s.Address && !decide (s.Target < 0) && inR (-1000000) 1000000 s.Offset && inR (-1000000) 1000000 s.Scale && inR 0 1000000 s.Error && inR 0 1000000 s.Drift && inR 1 1000000 s.Life with
    | false => rw [h2] at h; exact absurd (show (1 : Int) = 0 from h) (by decide)
    | true =>
      simp only [Bool.and_eq_true, inR_iff] at h1 h2
      omega


def noth : T_Span := ⟨-1125899906842624, 1125899906842624⟩
/-! ### whole thousandths -/
theorem tdm (x : Int) : Int.tdiv x 1000 = (if 0 ≤ x then x / 1000 else -((-x) / 1000)) ∧ Int.tmod x 1000 = (if 0 ≤ x then x % 1000 else -((-x) % 1000)) := by
  by_cases h : 0 ≤ x
  · rw [if_pos h, if_pos h]
    exact ⟨Int.tdiv_eq_ediv_of_nonneg h, Int.tmod_eq_emod_of_nonneg h⟩
  · rw [if_neg h, if_neg h]
    have e : x = -(-x) := by omega
    constructor
    · rw [e, Int.neg_tdiv, Int.tdiv_eq_ediv_of_nonneg (by omega)]; simp
    · rw [e, Int.neg_tmod, Int.tmod_eq_emod_of_nonneg (by omega)]; simp
theorem down_eq (x : Int) (h0 : -1000000000000 ≤ x) (h1 : x ≤ 1000000000000) : F_sensor_down x = some (x / 1000) := by
  unfold F_sensor_down
  obtain ⟨a, b⟩ := tdm x
  rw [a, b]
  by_cases hx : 0 ≤ x
  · rw [if_pos hx, if_pos hx, bif_neg (by omega), bind_some, w64 (by omega) (by omega)]
  · rw [if_neg hx, if_neg hx]
    by_cases h : -((-x) % 1000) < 0
    · rw [bif_pos h, bind_some, w64 (n := -((-x) / 1000)) (by omega) (by omega), w64 (by omega) (by omega)]
      congr 1; omega
    · rw [bif_neg h, bind_some, w64 (by omega) (by omega)]
      congr 1; omega
theorem floor_eq (x : Int) (h0 : -1000000000000 ≤ x) (h1 : x ≤ 1000000000000) : F_ref05_Floor x 1000 = some (x / 1000) := by
  unfold F_ref05_Floor
  obtain ⟨a, b⟩ := tdm x
  rw [quoI_ok (by decide), bind_some, remI_ok (by decide), bind_some, a, b]
  by_cases hx : 0 ≤ x
  · rw [if_pos hx, if_pos hx, bif_neg (by omega), bind_some, w64 (by omega) (by omega)]
  · rw [if_neg hx, if_neg hx]
    by_cases h : -((-x) % 1000) < 0
    · rw [bif_pos h, bind_some, w64 (n := -((-x) / 1000)) (by omega) (by omega), w64 (by omega) (by omega)]
      congr 1; omega
    · rw [bif_neg h, bind_some, w64 (by omega) (by omega)]
      congr 1; omega
theorem ceil_eq (x : Int) (h0 : -1000000000000 ≤ x) (h1 : x ≤ 1000000000000) : F_ref05_Ceil x 1000 = some (-((-x) / 1000)) := by
  unfold F_ref05_Ceil
  rw [w64 (n := 0 - x) (by omega) (by omega), floor_eq _ (by omega) (by omega), bind_some, w64 (by omega) (by omega)]
  congr 1; omega

/-! ### values -/
def vmax (k : Int) : Int := if k = 4 then 1 else if k = 5 then 2 else if k = 6 then 5 else -1
def loV (s : T_Sensor) (p : Int) : Int := s.Offset + s.Scale * p / 1000 - s.Error
def hiV (s : T_Sensor) (p : Int) : Int := s.Offset + -((-(s.Scale * p)) / 1000) + s.Error
def valS (s : T_Sensor) (p : Int) : T_Span :=
  if p < 0 ∨ 65535 < p then noth else if 4 ≤ s.Kind then (if vmax s.Kind < p then noth else ⟨p, p⟩)
  else if s.Kind = 1 ∨ s.Kind = 2 then ⟨max (loV s p) 0, max (hiV s p) 0⟩ else ⟨loV s p, hiV s p⟩
theorem scale_bd {s : T_Sensor} {p : Int} (h : snC s = 0) (h0 : 0 ≤ p) (h1 : p ≤ 65535) : -65535000000 ≤ s.Scale * p ∧ s.Scale * p ≤ 65535000000 := by
  have := sn0 h
  have a := Int.mul_le_mul_of_nonneg_right (c := p) this.2.2.2.2.2.2.2.2.2.1 h0
  have b := Int.mul_le_mul_of_nonneg_right (c := p) this.2.2.2.2.2.2.2.2.1 h0
  omega
theorem lvalue_eq (s : T_Sensor) (p : Int) (h : snC s = 0) : F_sensor_value s p = some (valS s p) := by
  have hs := sn0 h
  unfold F_sensor_value valS
  rw [or_bif rfl, bind_some]
  by_cases hp : p < 0 ∨ 65535 < p
  · rw [bif_pos hp, if_pos hp]; rfl
  rw [bif_neg hp, if_neg hp]
  have e : ((bif decide (s.Kind = 4) then some 1 else bif decide (s.Kind = 5) then some 2 else bif decide (s.Kind = 6) then some 5 else some (-1)) : Option Int) = some (vmax s.Kind) := by
    unfold vmax
    simp only [bif_ite]
    split
    · rfl
    split
    · rfl
    split <;> rfl
  rw [e, bind_some]
  by_cases hk : 4 ≤ s.Kind
  · have hv : 0 ≤ vmax s.Kind := by
      unfold vmax
      split
      · decide
      split
      · decide
      split
      · decide
      · omega
    rw [bif_pos hv, if_pos hk, bif_ite]
    split <;> rfl
  · have hv : ¬ 0 ≤ vmax s.Kind := by
      unfold vmax
      rw [if_neg (by omega), if_neg (by omega), if_neg (by omega)]
      decide
    have hb := scale_bd (p := p) h (by omega) (by omega)
    rw [bif_neg hv, if_neg hk]
    have e1 : IntKind.i64.wrap (s.Scale * p) = s.Scale * p := w64 (by omega) (by omega)
    have e2 : IntKind.i64.wrap (0 - s.Scale * p) = -(s.Scale * p) := by rw [w64 (by omega) (by omega)]; omega
    rw [e1, e2, down_eq _ (by omega) (by omega), bind_some, down_eq _ (by omega) (by omega), bind_some]
    have f1 : IntKind.i64.wrap (s.Offset + s.Scale * p / 1000) = s.Offset + s.Scale * p / 1000 := w64 (by omega) (by omega)
    have f2 : IntKind.i64.wrap (s.Offset - -(s.Scale * p) / 1000) = s.Offset + -((-(s.Scale * p)) / 1000) := by rw [w64 (by omega) (by omega)]; omega
    have f3 : IntKind.i64.wrap (s.Offset + s.Scale * p / 1000 - s.Error) = loV s p := w64 (by omega) (by omega)
    have f4 : IntKind.i64.wrap (s.Offset + -((-(s.Scale * p)) / 1000) + s.Error) = hiV s p := w64 (by omega) (by omega)
    rw [f1, f2, f3, f4, or_bif rfl, bind_some]
    by_cases h2 : s.Kind = 1 ∨ s.Kind = 2
    · rw [bif_pos h2, if_pos h2]; rfl
    · rw [bif_neg h2, if_neg h2]; rfl
def valC (s : T_Sensor) (p : Int) : T_Span := if snC s ≠ 0 then noth else valS s p
theorem value_eq (s : T_Sensor) (p : Int) : F_sensor_Value s p = some (valC s p) := by
  unfold F_sensor_Value valC
  rw [scheck_eq, bind_some]
  by_cases h : snC s ≠ 0
  · rw [bif_pos h, if_pos h]; rfl
  · rw [bif_neg h, if_neg h, lvalue_eq _ _ (Decidable.byContradiction h)]; rfl
theorem not_in {p : Int} : (some (!(inR 0 65535 p)) : Option Bool) = some (decide (p < 0 ∨ 65535 < p)) := by
  congr 1
  cases h : inR 0 65535 p with
  | true => have := inR_iff.1 h; rw [decide_eq_false (by omega)]; rfl
  | false =>
    rw [decide_eq_true]
    · rfl
    · refine Decidable.byContradiction fun hn => ?_
      have : inR 0 65535 p = true := inR_iff.2 ⟨by omega, by omega⟩
      rw [h] at this; cases this
theorem rvalue_eq (s : T_Sensor) (p : Int) : F_ref05_Value s p = some (valC s p) := by
  unfold F_ref05_Value valC
  rw [rscheck_eq, bind_some, rin, bind_some, not_in, or_bif rfl, bind_some]
  by_cases h : snC s ≠ 0
  · rw [bif_pos (.inl h), if_pos h]; rfl
  rw [if_neg h]
  have h := Decidable.byContradiction h
  have hs := sn0 h
  unfold valS
  by_cases hp : p < 0 ∨ 65535 < p
  · rw [bif_pos (.inr hp), if_pos hp]; rfl
  rw [bif_neg (by rintro (x | x); exact x h; exact hp x), if_neg hp]
  show Option.bind (some (decide (4 ≤ s.Kind))) _ = _
  rw [bind_some]
  by_cases hk : 4 ≤ s.Kind
  · rw [bif_pos hk, if_pos hk]
    have e : (((bif decide (s.Kind = 5) then some 2 else some 1) : Option Int).bind fun o13 => (bif decide (s.Kind = 6) then some 5 else some o13 : Option Int)) = some (vmax s.Kind) := by
      unfold vmax
      by_cases h5 : s.Kind = 5
      · rw [bif_pos h5, bind_some, bif_neg (by omega), if_neg (by omega), if_pos h5]
      · rw [bif_neg h5, bind_some, if_neg h5]
        by_cases h6 : s.Kind = 6
        · rw [bif_pos h6, if_neg (by omega), if_pos h6]
        · rw [bif_neg h6, if_pos (by omega)]
    rw [← Option.bind_assoc, e, bind_some, bif_ite]
    split <;> rfl
  · have hb := scale_bd (p := p) h (by omega) (by omega)
    rw [bif_neg hk, if_neg hk]
    have e1 : IntKind.i64.wrap (s.Scale * p) = s.Scale * p := w64 (by omega) (by omega)
    rw [e1, floor_eq _ (by omega) (by omega), bind_some, ceil_eq _ (by omega) (by omega), bind_some]
    have f1 : IntKind.i64.wrap (s.Offset + s.Scale * p / 1000) = s.Offset + s.Scale * p / 1000 := w64 (by omega) (by omega)
    have f2 : IntKind.i64.wrap (s.Offset + -((-(s.Scale * p)) / 1000)) = s.Offset + -((-(s.Scale * p)) / 1000) := w64 (by omega) (by omega)
    have f3 : IntKind.i64.wrap (s.Offset + s.Scale * p / 1000 - s.Error) = loV s p := w64 (by omega) (by omega)
    have f4 : IntKind.i64.wrap (s.Offset + -((-(s.Scale * p)) / 1000) + s.Error) = hiV s p := w64 (by omega) (by omega)
    unfold F_ref05_Gassy
    rw [f1, f2, f3, f4, or_bif rfl, bind_some]
    by_cases h2 : s.Kind = 1 ∨ s.Kind = 2
    · rw [bif_pos h2, if_pos h2]; rfl
    · rw [bif_neg h2, if_neg h2]; rfl

/-! ### drawn -/
theorem sensor_any (c : T_draw_Codes) (k a t : Int) (hc : CodesOk c) : Ok (F_draw_Codes_Sensor c k a t) fun r => CodesOk r.1 := by
  unfold F_draw_Codes_Sensor
  refine ok_bind (range_ok c 1 200 hc (by decide) (by decide) (by decide)) fun x1 h1 => ?_
  refine ok_bind (Q := fun _ => True) (ok_some trivial) fun x3 _ => ?_
  refine ok_bind (Q := fun r : T_Sensor × T_draw_Codes => CodesOk r.2) (ok_bif (fun _ => ?_) (fun _ => ok_some h1.1)) fun r hr => ok_some hr
  refine ok_bind (range_ok _ (-50) 20 h1.1 (by decide) (by decide) (by decide)) fun x7 h7 => ?_
  refine ok_bind (range_ok _ 300 2000 h7.1 (by decide) (by decide) (by decide)) fun x9 h9 => ?_
  refine ok_bind (next_lt _ 6 h9.1 (by decide)) fun x11 h11 => ?_
  refine ok_bind (next_lt _ 700 h11.1 (by decide)) fun x13 h13 => ?_
  exact ok_some h13.1
theorem made_ok (l : List Int) (p : Int) (hl : Bytes l) : Ok (F_law05_made l p) fun _ => True := by
  unfold F_law05_made
  refine ok_bind (new_ok l hl) fun c hc => ?_
  refine ok_bind (range_ok c 1 6 hc (by decide) (by decide) (by decide)) fun x3 h3 => ?_
  refine ok_bind (next_lt _ 6 h3.1 (by decide)) fun x5 h5 => ?_
  refine ok_bind (next_lt _ 4 h5.1 (by decide)) fun x7 h7 => ?_
  refine ok_bind (sensor_any _ _ _ _ h7.1) fun x9 h9 => ?_
  refine ok_bind (next_lt _ 14 h9 (by decide)) fun x11 h11 => ?_
  simp only [bif_ite]
  refine ok_bind (Q := fun _ => True) ?_ fun _ _ => ok_some trivial
  repeat' first | exact ok_some trivial | refine ok_ite (fun _ => ?_) (fun _ => ?_)

/-! ### telegrams -/
theorem awake_dec : F_sensor_Decode [T_Sensor.mk 0 3 0 0 500 3 0 1] (T_Frame.mk 0 1 [0, 101]) 7 = some (T_Measure.mk 0 7 (T_Span.mk 47 54), 0) := by
  unfold F_sensor_Decode
  have e : loopC (F_sensor_Decode_L1 [T_Sensor.mk 0 3 0 0 500 3 0 1] (T_Frame.mk 0 1 [0, 101])) (-1, IntKind.i64.wrap (([T_Sensor.mk 0 3 0 0 500 3 0 1].length : Int) - 1)) = some 0 := by
    rw [loopC_inl (a' := (0, -1)) (by decide +kernel), loopC_inr (b := 0) (by decide +kernel)]
  rw [e]
  simp only [bind_some, scheck_eq]
  have ev : F_sensor_value (T_Sensor.mk 0 3 0 0 500 3 0 1) 101 = some (T_Span.mk 47 54) := by
    rw [lvalue_eq _ _ (by decide +kernel)]; decide +kernel
  have eg : getI [T_Sensor.mk 0 3 0 0 500 3 0 1] 0 = some (T_Sensor.mk 0 3 0 0 500 3 0 1) := rfl
  have er : bits .or .i64 (IntKind.i64.wrap ((IntKind.i64.wrap 0) * 256)) (IntKind.i64.wrap 101) = 101 := by decide +kernel
  have eh : getI [(0 : Int), 101] 0 = some 0 := rfl
  have ei : getI [(0 : Int), 101] 1 = some 101 := rfl
  rw [eg, eh, ei]
  simp only [bind_some, er, ev, scheck_eq]
  decide +kernel
theorem awake05 : F_law05_awake = some true := by
  unfold F_law05_awake
  rw [awake_dec]
  simp only [bind_some, scheck_eq, value_eq]
  decide +kernel
theorem ok_awake {k : Bool → Option Bool} {R : Bool → Prop} (h : Ok (k true) R) : Ok (F_law05_awake.bind k) R := ok_bindE awake05 h

theorem law_SensorChecks (p0 : List Int) (w0 : InL (In .u8) p0) (p1 : T_Sensor) (w1 : p1.Wf) (p2 : Int) (w2 : In .i64 p2) : F_law05_SensorChecks p0 p1 p2 = some true := by
  refine Ok.val ?_
  unfold F_law05_SensorChecks
  refine ok_bind (made_ok p0 p2 (bytesOf w0)) fun x1 _ => ?_
  simp only [scheck_eq, rscheck_eq, bind_some, decide_true, cond_true]
  exact ok_awake (ok_some rfl)
theorem law_SensorValues (p0 : List Int) (w0 : InL (In .u8) p0) (p1 : T_Sensor) (w1 : p1.Wf) (p2 : Int) (w2 : In .i64 p2) (p3 : Int) (w3 : In .i64 p3) : F_law05_SensorValues p0 p1 p2 p3 = some true := by
  refine Ok.val ?_
  unfold F_law05_SensorValues
  refine ok_bind (mod_ok p2 3000 (by decide)) fun x1 _ => ?_
  refine ok_bind (made_ok p0 p3 (bytesOf w0)) fun x3 _ => ?_
  refine ok_bind (Q := (· = .inr ())) (ok_loop (fun s : Int => 0 ≤ s ∧ s ≤ 2) (fun s => (2 - s).toNat) _ (fun s hs => ?_) _ ⟨Int.le_refl 0, by decide⟩) fun o ho => ?_
  · unfold F_law05_SensorValues_L1
    refine ok_dec (fun hlt => ?_) (fun _ => ok_some rfl)
    have hl : s < 2 := hlt
    refine ok_bind (ok_getI hs.1 hlt) fun x10 hx => ?_
    simp only [value_eq, rvalue_eq, bind_some, speq, Bool.not_true, cond_false]
    have e : IntKind.i64.wrap (s + 1) = s + 1 := w64 (by omega) (by omega)
    rw [e]
    refine ok_some ⟨⟨by omega, by omega⟩, ?_⟩
    show (2 - (s + 1)).toNat < (2 - s).toNat
    omega
  · subst ho
    exact ok_awake (ok_some rfl)
end Go.L
