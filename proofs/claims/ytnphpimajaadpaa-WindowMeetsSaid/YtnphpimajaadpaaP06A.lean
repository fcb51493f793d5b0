/- Windows: what the functions yield, plain; program and reference do the same. -/
import Derived.Test.YtnphpimajaadpaaPDrawB06
namespace Go.L
open Go Go.Aml
theorem bytesOf {l : List Int} (h : InL (In .u8) l) : Bytes l := fun x hx => In.u8 (h.2 x hx)
theorem speq (a : T_Span) : ((a.Low == a.Low) && ((a.High == a.High) && true)) = true := by simp
theorem spdec (a b : T_Span) : ((a.Low == b.Low) && ((a.High == b.High) && true)) = decide (a = b) := by
  by_cases h : a = b
  · subst h; rw [speq, decide_eq_true rfl]
  · rw [decide_eq_false h]
    cases a; cases b
    simp at h ⊢
    exact h

def above (s : T_Span) (c : Int) : Int := if s.High < s.Low then 0 else if c ≤ s.Low then 1 else if s.High < c then -1 else 0
theorem above_eq (s : T_Span) (c : Int) : F_window_Above s c = some (above s c) := by
  unfold F_window_Above above
  simp only [bif_ite]
  split
  · rfl
  split
  · rfl
  split <;> rfl
theorem rabove_eq (s : T_Span) (c : Int) : F_ref06_Above s c = some (above s c) := by
  unfold F_ref06_Above above
  simp only [bif_ite]
  split
  · rfl
  split
  · rfl
  split <;> rfl

/-! ### sensors -/
def inR (a b x : Int) : Bool := decide (a ≤ x) && decide (x ≤ b)
theorem inR_iff {a b x : Int} : inR a b x = true ↔ a ≤ x ∧ x ≤ b := by simp [inR]
def inG (a b : Int) (l : List Int) (s : Int) : Unit ⊕ Unit := bif (l.drop s.toNat).all (inR a b) then .inr () else .inl ()
theorem in_eq (a b : Int) (l : List Int) (hl : l.length ≤ 1000) : F_sensor_in a b l = some (l.all (inR a b)) := by
  unfold F_sensor_in
  rw [loop_fun (fun s : Int => 0 ≤ s ∧ s ≤ l.length) (fun s => (l.length - s).toNat) (inG a b l) (fun s hs => ?_) 0 ⟨Int.le_refl 0, by omega⟩]
  · rw [bind_some]
    unfold inG
    show Sum.elim _ _ (bif l.all (inR a b) then _ else _) = _
    cases l.all (inR a b) <;> rfl
  · unfold F_sensor_in_L1
    by_cases hlt : s < (l.length : Int)
    · have hd : l.drop s.toNat = l[s.toNat]'(by omega) :: l.drop (s.toNat + 1) := List.drop_eq_getElem_cons (by omega)
      rw [bif_pos hlt, getI_ok hs.1 hlt, bind_some, or_bif rfl, bind_some]
      generalize hx : l[s.toNat]'(by omega) = x at *
      have e : IntKind.i64.wrap (s + 1) = s + 1 := w64 (by omega) (by omega)
      by_cases h : x < a ∨ b < x
      · rw [bif_pos h]
        refine .inr ?_
        unfold inG
        have hn : inR a b x = false := by
          cases hh : inR a b x with
          | false => rfl
          | true => have := inR_iff.1 hh; omega
        rw [hd, List.all_cons, hn]
        rfl
      · rw [bif_neg h, e]
        refine .inl ⟨s + 1, rfl, ⟨by omega, by omega⟩, by omega, ?_⟩
        unfold inG
        have hn : inR a b x = true := inR_iff.2 ⟨by omega, by omega⟩
        rw [hd, List.all_cons, hn, Bool.true_and, show (s + 1).toNat = s.toNat + 1 by omega]
    · rw [bif_neg hlt]
      refine .inr ?_
      unfold inG
      rw [List.drop_of_length_le (by omega)]
      rfl
theorem in1 (a b x : Int) : F_sensor_in a b [x] = some (inR a b x) := by
  rw [in_eq _ _ _ (by simp)]; simp
theorem in2 (a b x y : Int) : F_sensor_in a b [x, y] = some (inR a b x && inR a b y) := by
  rw [in_eq _ _ _ (by simp)]; simp
theorem rin (a b x : Int) : F_ref05_in x a b = some (inR a b x) := by
  unfold F_ref05_in inR
  cases decide (a ≤ x) <;> rfl
def snC (s : T_Sensor) : Int :=
  bif !(inR 1 6 s.Kind) then 5 else
  bif inR 0 255 s.Address && !decide (s.Target < 0) && inR (-1000000) 1000000 s.Offset && inR (-1000000) 1000000 s.Scale && inR 0 1000000 s.Error && inR 0 1000000 s.Drift && inR 1 1000000 s.Life then 0 else 1
theorem scheck_eq (s : T_Sensor) : F_sensor_Check s = some (snC s) := by
  unfold F_sensor_Check snC
  simp only [in1, in2, bind_some]
  cases inR 1 6 s.Kind <;> cases inR 0 255 s.Address <;> cases decide (s.Target < 0) <;> cases inR (-1000000) 1000000 s.Offset <;> cases inR (-1000000) 1000000 s.Scale <;> cases inR 0 1000000 s.Error <;> cases inR 0 1000000 s.Drift <;> cases inR 1 1000000 s.Life <;> rfl
theorem rscheck_eq (s : T_Sensor) : F_ref05_Check s = some (snC s) := by
  unfold F_ref05_Check snC
  simp only [rin, bind_some]
  cases inR 1 6 s.Kind <;> cases inR 0 255 s.Address <;> cases decide (s.Target < 0) <;> cases inR (-1000000) 1000000 s.Offset <;> cases inR (-1000000) 1000000 s.Scale <;> cases inR 0 1000000 s.Error <;> cases inR 0 1000000 s.Drift <;> cases inR 1 1000000 s.Life <;> rfl
theorem sn0 {s : T_Sensor} (h : snC s = 0) : 1 ≤ s.Kind ∧ s.Kind ≤ 6 ∧ 0 ≤ s.Drift ∧ s.Drift ≤ 1000000 ∧ 1 ≤ s.Life ∧ s.Life ≤ 1000000 := by
  unfold snC at h
  cases h1 : inR 1 6 s.Kind with
  | false => rw [h1] at h; exact absurd (show (5 : Int) = 0 from h) (by decide)
  | true =>
    rw [h1] at h
    cases h2 : inR 0 255 s.Address && !decide (s.Target < 0) && inR (-1000000) 1000000 s.Offset && inR (-1000000) 1000000 s.Scale && inR 0 1000000 s.Error && inR 0 1000000 s.Drift && inR 1 1000000 s.Life with
    | false => rw [h2] at h; exact absurd (show (1 : Int) = 0 from h) (by decide)
    | true =>
      simp only [Bool.and_eq_true, inR_iff] at h1 h2
      omega

/-! ### at a time -/
def noth : T_Span := ⟨-1125899906842624, 1125899906842624⟩
def wid (s : T_Sensor) (d : Int) : Int := (s.Drift * d + 999) / 1000
def BadAt (s : T_Sensor) (m : T_Measure) (t : Int) : Prop := snC s ≠ 0 ∨ m.Sensor < 0 ∨ m.Span = noth ∨ t < m.Time ∨ s.Life < t - m.Time
instance (s : T_Sensor) (m : T_Measure) (t : Int) : Decidable (BadAt s m t) := by unfold BadAt; infer_instance
def atS (s : T_Sensor) (m : T_Measure) (t : Int) : T_Span :=
  if BadAt s m t then noth else if 4 ≤ s.Kind then m.Span
  else if s.Kind = 1 ∨ s.Kind = 2 then ⟨max (m.Span.Low - wid s (t - m.Time)) 0, max (m.Span.High + wid s (t - m.Time)) 0⟩
  else ⟨m.Span.Low - wid s (t - m.Time), m.Span.High + wid s (t - m.Time)⟩
def MeOk (m : T_Measure) : Prop := -1000000000 ≤ m.Time ∧ m.Time ≤ 1000000000 ∧ -1125899906842624 ≤ m.Span.Low ∧ m.Span.Low ≤ m.Span.High ∧ m.Span.High ≤ 1125899906842624
theorem drift_bd {s : T_Sensor} {m : T_Measure} {t : Int} (h : ¬ BadAt s m t) : 0 ≤ s.Drift * (t - m.Time) ∧ s.Drift * (t - m.Time) ≤ 1000000000000 ∧ 0 ≤ t - m.Time ∧ t - m.Time ≤ 1000000 := by
  unfold BadAt at h
  have h0 : snC s = 0 := Decidable.byContradiction fun x => h (.inl x)
  have h1 := sn0 h0
  have a : 0 ≤ t - m.Time := by omega
  have b : t - m.Time ≤ 1000000 := by omega
  refine ⟨Int.mul_nonneg h1.2.2.1 a, ?_, a, b⟩
  have := Int.mul_le_mul h1.2.2.2.1 b a (by decide : (0 : Int) ≤ 1000000)
  omega
theorem wid_bd {s : T_Sensor} {m : T_Measure} {t : Int} (h : ¬ BadAt s m t) : 0 ≤ wid s (t - m.Time) ∧ wid s (t - m.Time) ≤ 1000000001 := by
  have := drift_bd h
  unfold wid
  omega
theorem plain_eq (k : Int) : F_window_plain k = some (decide (k = 4 ∨ k = 5 ∨ k = 6)) := by
  unfold F_window_plain
  rw [or_bif (or_bif rfl)]
theorem at_eq (s : T_Sensor) (m : T_Measure) (t : Int) (hm : MeOk m) (ht : -1000000000 ≤ t ∧ t ≤ 1000000000) : F_window_At s m t = some (atS s m t) := by
  obtain ⟨m1, m2, m3, m4, m5⟩ := hm
  unfold F_window_At
  have e : IntKind.i64.wrap (t - m.Time) = t - m.Time := w64 (by omega) (by omega)
  show (Option.bind (some noth) _) = _
  rw [bind_some, e, scheck_eq, bind_some, spdec, or_bif (or_bif (or_bif (or_bif rfl))), bind_some]
  unfold atS
  by_cases h : BadAt s m t
  · rw [if_pos h]
    unfold BadAt at h
    rw [bif_pos h]
  have hd := drift_bd h
  have hw := wid_bd h
  rw [if_neg h]
  have h' := h
  unfold BadAt at h
  rw [bif_neg h]
  have h1 := sn0 (Decidable.byContradiction fun x => h (.inl x))
  rw [plain_eq, bind_some]
  by_cases hk : 4 ≤ s.Kind
  · rw [if_pos hk, bif_pos (by omega)]
  rw [if_neg hk, bif_neg (by omega)]
  have e1 : IntKind.i64.wrap (s.Drift * (t - m.Time)) = s.Drift * (t - m.Time) := w64 (by omega) (by omega)
  have e2 : IntKind.i64.wrap (s.Drift * (t - m.Time) + 999) = s.Drift * (t - m.Time) + 999 := w64 (by omega) (by omega)
  have e3 : Int.tdiv (s.Drift * (t - m.Time) + 999) 1000 = wid s (t - m.Time) := by unfold wid; exact Int.tdiv_eq_ediv_of_nonneg (by omega)
  rw [e1, e2, e3]
  generalize wid s (t - m.Time) = w at *
  have f1 : IntKind.i64.wrap w = w := w64 (by omega) (by omega)
  have f2 : IntKind.i64.wrap (m.Span.Low - w) = m.Span.Low - w := w64 (by omega) (by omega)
  have f3 : IntKind.i64.wrap (m.Span.High + w) = m.Span.High + w := w64 (by omega) (by omega)
  rw [f1, f2, f3, or_bif rfl, bind_some]
  by_cases h2 : s.Kind = 1 ∨ s.Kind = 2
  · rw [bif_pos h2, if_pos h2]; rfl
  · rw [bif_neg h2, if_neg h2]; rfl
theorem ceil_eq (x : Int) (h0 : 0 ≤ x) (h1 : x ≤ 1000000000000) : F_ref05_Ceil x 1000 = some ((x + 999) / 1000) := by
  unfold F_ref05_Ceil F_ref05_Floor
  have e0 : IntKind.i64.wrap (0 - x) = -x := by rw [w64 (by omega) (by omega)]; omega
  have e1 : Int.tdiv (-x) 1000 = -(x / 1000) := by rw [Int.neg_tdiv, Int.tdiv_eq_ediv_of_nonneg h0]
  have e2 : Int.tmod (-x) 1000 = -(x % 1000) := by rw [Int.neg_tmod, Int.tmod_eq_emod_of_nonneg h0]
  rw [e0, quoI_ok (by decide), bind_some, remI_ok (by decide), bind_some, e1, e2, w64 (n := -(x / 1000)) (by omega) (by omega)]
  by_cases h : -(x % 1000) < 0
  · rw [bif_pos h, bind_some, bind_some, w64 (n := -(x / 1000) - 1) (by omega) (by omega), w64 (by omega) (by omega)]
    congr 1; omega
  · rw [bif_neg h, bind_some, bind_some, w64 (by omega) (by omega)]
    congr 1; omega
theorem rat_eq (s : T_Sensor) (m : T_Measure) (t : Int) (hm : MeOk m) (ht : -1000000000 ≤ t ∧ t ≤ 1000000000) : F_ref06_At s m t = some (atS s m t) := by
  obtain ⟨m1, m2, m3, m4, m5⟩ := hm
  unfold F_ref06_At
  have e : IntKind.i64.wrap (t - m.Time) = t - m.Time := w64 (by omega) (by omega)
  have en : F_ref05_Nothing = some noth := rfl
  rw [e, rscheck_eq, en]
  simp only [bind_some]
  rw [spdec, or_bif (or_bif (or_bif (or_bif rfl))), bind_some]
  unfold atS
  by_cases h : BadAt s m t
  · rw [if_pos h]
    unfold BadAt at h
    rw [bif_pos h]
  have hd := drift_bd h
  have hw := wid_bd h
  rw [if_neg h]
  have h' := h
  unfold BadAt at h
  rw [bif_neg h]
  have h1 := sn0 (Decidable.byContradiction fun x => h (.inl x))
  show Option.bind (some (decide (4 ≤ s.Kind))) _ = _
  rw [bind_some]
  by_cases hk : 4 ≤ s.Kind
  · rw [if_pos hk, bif_pos hk]
  rw [if_neg hk, bif_neg hk]
  have e1 : IntKind.i64.wrap (s.Drift * (t - m.Time)) = s.Drift * (t - m.Time) := w64 (by omega) (by omega)
  rw [e1, ceil_eq _ hd.1 hd.2.1, bind_some]
  show Option.bind _ _ = _
  have e3 : (s.Drift * (t - m.Time) + 999) / 1000 = wid s (t - m.Time) := rfl
  rw [e3]
  generalize wid s (t - m.Time) = w at *
  have f2 : IntKind.i64.wrap (m.Span.Low - w) = m.Span.Low - w := w64 (by omega) (by omega)
  have f3 : IntKind.i64.wrap (m.Span.High + w) = m.Span.High + w := w64 (by omega) (by omega)
  unfold F_ref05_Gassy
  rw [f2, f3, or_bif rfl, bind_some]
  by_cases h2 : s.Kind = 1 ∨ s.Kind = 2
  · rw [bif_pos h2, if_pos h2]; rfl
  · rw [bif_neg h2, if_neg h2]; rfl
end Go.L
