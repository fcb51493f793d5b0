/- Windows: meeting, hull, until when; WindowAbove, WindowUntil, WindowTogether. -/
import Derived.Test.YtnphpimajaadpaaP06A
namespace Go.L
open Go Go.Aml

def mt (a b : T_Span) : T_Span := ⟨max a.Low b.Low, min a.High b.High⟩
theorem mt_self (a : T_Span) : mt a a = a := by
  cases a with
  | mk l h =>
    unfold mt
    dsimp only
    rw [Int.max_self, Int.min_self]
theorem meet_loop (l : List T_Span) (hl : l.length ≤ 1000) (i : Int) (a : T_Span) (h0 : 0 ≤ i) (h1 : i ≤ l.length) : loopC (F_window_Meet_L1 l) (i, a) = some ((l.drop i.toNat).foldl mt a) := by
  refine loop_fun (fun s : Int × T_Span => 0 ≤ s.1 ∧ s.1 ≤ l.length) (fun s => (l.length - s.1).toNat) (fun s => (l.drop s.1.toNat).foldl mt s.2) (fun s hs => ?_) (i, a) ⟨h0, h1⟩
  obtain ⟨i, a⟩ := s
  dsimp only at hs
  unfold F_window_Meet_L1
  dsimp only
  by_cases hlt : i < (l.length : Int)
  · have hd : l.drop i.toNat = l[i.toNat]'(by omega) :: l.drop (i.toNat + 1) := List.drop_eq_getElem_cons (by omega)
    rw [bif_pos hlt, getI_ok hs.1 hlt, bind_some, w64 (n := i + 1) (by omega) (by omega)]
    refine .inl ⟨_, rfl, ⟨by dsimp only; omega, by dsimp only; omega⟩, by dsimp only; omega, ?_⟩
    dsimp only
    rw [hd, show (i + 1).toNat = i.toNat + 1 by omega]
    rfl
  · rw [bif_neg hlt]
    refine .inr ?_
    rw [List.drop_of_length_le (by omega)]
    rfl
theorem rmeet_loop (l : List T_Span) (s : Int × T_Span) : loopC (F_ref06_Meet_L1 l) s = loopC (F_window_Meet_L1 l) s := by
  refine loop_congr (fun _ => True) (fun s _ => ?_) (fun _ _ _ _ => trivial) s trivial
  unfold F_ref06_Meet_L1 F_window_Meet_L1
  cases getI l s.1 with
  | none => rfl
  | some x => rfl
def meetS (l : List T_Span) : T_Span × Bool :=
  match l with
  | [] => (noth, true)
  | a :: l => if (l.foldl mt a).High < (l.foldl mt a).Low then (noth, false) else (l.foldl mt a, true)
theorem meet_eq (l : List T_Span) (hl : l.length ≤ 1000) : F_window_Meet l = some (meetS l) := by
  unfold F_window_Meet meetS
  cases l with
  | nil => rfl
  | cons a l =>
    dsimp only
    rw [bif_neg (by rw [List.length_cons]; omega)]
    show Option.bind (loopC _ _) _ = _
    rw [meet_loop _ hl _ _ (by decide) (by omega), bind_some]
    show (bif decide ((List.foldl mt (mt a a) l).High < (List.foldl mt (mt a a) l).Low) then _ else some (List.foldl mt (mt a a) l, true)) = _
    rw [mt_self, bif_ite]
    split <;> rfl
theorem rmeet_eq (l : List T_Span) (hl : l.length ≤ 1000) : F_ref06_Meet l = some (meetS l) := by
  unfold F_ref06_Meet meetS
  cases l with
  | nil => rfl
  | cons a l =>
    dsimp only
    rw [bif_neg (by rw [List.length_cons]; omega)]
    show Option.bind (loopC _ _) _ = _
    rw [rmeet_loop, meet_loop _ hl _ _ (by decide) (by rw [List.length_cons]; omega), bind_some]
    show (bif decide ((List.foldl mt a l).High < (List.foldl mt a l).Low) then _ else some (List.foldl mt a l, true)) = _
    rw [bif_ite]
    split <;> rfl
theorem hull_ok (l : List T_Span) (hl : l.length ≤ 1000) : Ok (F_window_Hull l) fun _ => True := by
  unfold F_window_Hull
  show Ok ((loopC _ _).bind _) _
  refine ok_bind (Q := fun _ => True) (ok_loop (fun s : Bool × Int × T_Span => 0 ≤ s.2.1 ∧ s.2.1 ≤ l.length) (fun s => (l.length - s.2.1).toNat) _ (fun s hs => ?_) _ ⟨Int.le_refl 0, by dsimp only; omega⟩) fun _ _ => ok_some trivial
  unfold F_window_Hull_L1
  refine ok_dec (fun hlt => ?_) (fun _ => ok_some trivial)
  rw [w64 (n := s.2.1 + 1) (by omega) (by omega)]
  refine ok_bind (Q := fun _ => True) (ok_bind (ok_getI hs.1 hlt) fun x7 _ => ok_dec (fun _ => ok_some trivial) (fun _ => ok_bif (fun _ => ok_some trivial) (fun _ => ok_some trivial))) fun o6 _ => ok_some ⟨⟨?_, ?_⟩, ?_⟩
  · dsimp only; omega
  · dsimp only; omega
  · show ((l.length : Int) - (s.2.1 + 1)).toNat < ((l.length : Int) - s.2.1).toNat; omega
theorem rhull_eq (l : List T_Span) : F_ref06_Hull l = F_window_Hull l := by
  unfold F_ref06_Hull F_window_Hull
  show Option.bind (loopC (F_ref06_Hull_L1 l) (false, 0, noth)) _ = Option.bind (loopC (F_window_Hull_L1 l) (false, 0, noth)) _
  rw [loop_congr (f := F_ref06_Hull_L1 l) (g := F_window_Hull_L1 l) (fun _ => True) (fun s _ => ?_) (fun _ _ _ _ => trivial) _ trivial]
  unfold F_ref06_Hull_L1 F_window_Hull_L1
  obtain ⟨b, i, a⟩ := s
  dsimp only
  cases getI l i with
  | none => rfl
  | some x =>
    simp only [bind_some]
    cases b with
    | true => rfl
    | false =>
      cases x
      simp only [bind_some, Bool.not_false, cond_true, Int.min_self, Int.max_self]

/-! ### drawn -/
theorem measured_ok (c : T_draw_Codes) (hc : CodesOk c) : Ok (F_law06_measured c) fun r => CodesOk r.1 ∧ 0 ≤ r.2.Time ∧ r.2.Time ≤ 199 ∧ -1125899906842624 ≤ r.2.Span.Low ∧ r.2.Span.Low ≤ r.2.Span.High ∧ r.2.Span.High ≤ 1125899906842624 := by
  unfold F_law06_measured
  refine ok_bind (next_lt c 3 hc (by decide)) fun x1 h1 => ?_
  refine ok_bind (next_lt _ 200 h1.1 (by decide)) fun x3 h3 => ?_
  refine ok_bind (range_ok _ (-30) 90 h3.1 (by decide) (by decide) (by decide)) fun x5 h5 => ?_
  refine ok_bind (next_lt _ 40 h5.1 (by decide)) fun x7 h7 => ?_
  refine ok_bind (one_ok _ 8 h7.1 (by decide)) fun x9 h9 => ?_
  refine ok_bind (Q := fun r : T_Measure => 0 ≤ r.Time ∧ r.Time ≤ 199 ∧ -1125899906842624 ≤ r.Span.Low ∧ r.Span.Low ≤ r.Span.High ∧ r.Span.High ≤ 1125899906842624) (ok_bif (fun _ => ?_) (fun _ => ?_)) fun o11 h11 => ?_
  · exact ok_some ⟨h3.2.1, by dsimp only; omega, by dsimp only; decide, by dsimp only; decide, by dsimp only; decide⟩
  · rw [w64 (by omega) (by omega)]
    exact ok_some ⟨h3.2.1, by dsimp only; omega, by dsimp only; omega, by dsimp only; omega, by dsimp only; omega⟩
  refine ok_bind (one_ok _ 12 h9 (by decide)) fun x15 h15 => ?_
  refine ok_bind (Q := fun _ => True) (ok_bif (fun _ => ok_some trivial) (fun _ => ok_some trivial)) fun o17 _ => ok_some ⟨h15, h11⟩
theorem me_ok {m : T_Measure} (h : 0 ≤ m.Time ∧ m.Time ≤ 199 ∧ -1125899906842624 ≤ m.Span.Low ∧ m.Span.Low ≤ m.Span.High ∧ m.Span.High ≤ 1125899906842624) : MeOk m := by unfold MeOk; omega
theorem snC_of {s : T_Sensor} (h : 1 ≤ s.Kind ∧ s.Kind ≤ 6 ∧ 0 ≤ s.Address ∧ s.Address ≤ 255 ∧ 0 ≤ s.Target ∧ -1000000 ≤ s.Offset ∧ s.Offset ≤ 1000000 ∧ -1000000 ≤ s.Scale ∧ s.Scale ≤ 1000000 ∧ 0 ≤ s.Error ∧ s.Error ≤ 1000000 ∧ 0 ≤ s.Drift ∧ s.Drift ≤ 1000000 ∧ 1 ≤ s.Life ∧ s.Life ≤ 1000000) : snC s = 0 := by
  unfold snC
  rw [inR_iff.2 ⟨h.1, h.2.1⟩, inR_iff.2 (show 0 ≤ s.Address ∧ s.Address ≤ 255 by omega), inR_iff.2 (show -1000000 ≤ s.Offset ∧ s.Offset ≤ 1000000 by omega), inR_iff.2 (show -1000000 ≤ s.Scale ∧ s.Scale ≤ 1000000 by omega), inR_iff.2 (show 0 ≤ s.Error ∧ s.Error ≤ 1000000 by omega), inR_iff.2 (show 0 ≤ s.Drift ∧ s.Drift ≤ 1000000 by omega), inR_iff.2 (show 1 ≤ s.Life ∧ s.Life ≤ 1000000 by omega), decide_eq_false (show ¬ s.Target < 0 by omega)]
  rfl
theorem sensor_ok (c : T_draw_Codes) (k : Int) (hc : CodesOk c) (hk : 1 ≤ k ∧ k ≤ 6) : Ok (F_draw_Codes_Sensor c k 0 0) fun r => CodesOk r.1 ∧ snC r.2 = 0 ∧ r.2.Life ≤ 200 := by
  unfold F_draw_Codes_Sensor
  refine ok_bind (range_ok c 1 200 hc (by decide) (by decide) (by decide)) fun x1 h1 => ?_
  show Ok (Option.bind _ _) _
  refine ok_bind (Q := fun _ => True) (ok_some trivial) fun x3 _ => ?_
  refine ok_bind (Q := fun r : T_Sensor × T_draw_Codes => CodesOk r.2 ∧ snC r.1 = 0 ∧ r.1.Life ≤ 200) (ok_bif (fun _ => ?_) (fun _ => ?_)) fun r hr => ok_some hr
  · refine ok_bind (range_ok _ (-50) 20 h1.1 (by decide) (by decide) (by decide)) fun x7 h7 => ?_
    refine ok_bind (range_ok _ 300 2000 h7.1 (by decide) (by decide) (by decide)) fun x9 h9 => ?_
    refine ok_bind (next_lt _ 6 h9.1 (by decide)) fun x11 h11 => ?_
    refine ok_bind (next_lt _ 700 h11.1 (by decide)) fun x13 h13 => ?_
    exact ok_some ⟨h13.1, snC_of (by dsimp only; omega), h1.2.2⟩
  · exact ok_some ⟨h1.1, snC_of (by dsimp only; omega), h1.2.2⟩

/-! ### until -/
def Under (s : T_Sensor) (m : T_Measure) (c t : Int) : Prop := above (atS s m t) c = -1
instance (s : T_Sensor) (m : T_Measure) (c t : Int) : Decidable (Under s m c t) := by unfold Under; infer_instance
theorem above_lt {s : T_Span} {c : Int} (h : s.Low ≤ s.High) : above s c = -1 ↔ s.High < c := by
  unfold above
  rw [if_neg (by omega)]
  constructor
  · intro hh
    split at hh
    · exact absurd hh (by decide)
    split at hh
    · omega
    · exact absurd hh (by decide)
  · intro hh
    rw [if_neg (by omega), if_pos hh]
theorem atS_ord {s : T_Sensor} {m : T_Measure} {t : Int} (hm : MeOk m) : (atS s m t).Low ≤ (atS s m t).High := by
  obtain ⟨m1, m2, m3, m4, m5⟩ := hm
  unfold atS
  by_cases h : BadAt s m t
  · rw [if_pos h]; decide
  have := wid_bd h
  rw [if_neg h]
  split
  · exact m4
  split
  · dsimp only; omega
  · dsimp only; omega
theorem atS_mono {s : T_Sensor} {m : T_Measure} {t t' : Int} (h0 : m.Time ≤ t) (h1 : t ≤ t') (h2 : t' ≤ m.Time + s.Life) : (atS s m t).High ≤ (atS s m t').High := by
  have hb : BadAt s m t ↔ BadAt s m t' := by
    unfold BadAt
    constructor
    · rintro (h | h | h | h | h)
      · exact .inl h
      · exact .inr (.inl h)
      · exact .inr (.inr (.inl h))
      · omega
      · omega
    · rintro (h | h | h | h | h)
      · exact .inl h
      · exact .inr (.inl h)
      · exact .inr (.inr (.inl h))
      · omega
      · omega
  unfold atS
  by_cases h : BadAt s m t'
  · rw [if_pos h, if_pos (hb.2 h)]; exact Int.le_refl _
  have hn : ¬ BadAt s m t := fun x => h (hb.1 x)
  rw [if_neg h, if_neg hn]
  unfold BadAt at h
  have hs := sn0 (Decidable.byContradiction fun x => h (.inl x))
  have hw : wid s (t - m.Time) ≤ wid s (t' - m.Time) := by
    have : s.Drift * (t - m.Time) ≤ s.Drift * (t' - m.Time) := Int.mul_le_mul_of_nonneg_left (by omega) hs.2.2.1
    unfold wid
    omega
  split
  · exact Int.le_refl _
  split
  · dsimp only; omega
  · dsimp only; omega
theorem under_mono {s : T_Sensor} {m : T_Measure} {c t t' : Int} (hm : MeOk m) (h0 : m.Time ≤ t) (h1 : t ≤ t') (h2 : t' ≤ m.Time + s.Life) (h : Under s m c t') : Under s m c t := by
  have a := (above_lt (atS_ord hm)).1 h
  have b := atS_mono h0 h1 h2
  exact (above_lt (atS_ord hm)).2 (by omega)
def UntilR (s : T_Sensor) (m : T_Measure) (c r : Int) : Prop := (r = -1 ∧ ¬ Under s m c m.Time) ∨ (m.Time ≤ r ∧ r ≤ m.Time + s.Life ∧ Under s m c r ∧ (r = m.Time + s.Life ∨ ¬ Under s m c (r + 1)))
theorem until_lt {s : T_Sensor} {m : T_Measure} {c a b : Int} (hm : MeOk m) (ha : UntilR s m c a) (hb : UntilR s m c b) : a = b := by
  rcases ha with ⟨a1, a2⟩ | ⟨a1, a2, a3, a4⟩
  · rcases hb with ⟨b1, b2⟩ | ⟨b1, b2, b3, b4⟩
    · omega
    · exact absurd (under_mono hm (Int.le_refl _) b1 b2 b3) a2
  · rcases hb with ⟨b1, b2⟩ | ⟨b1, b2, b3, b4⟩
    · exact absurd (under_mono hm (Int.le_refl _) a1 a2 a3) b2
    · rcases Int.lt_trichotomy a b with h | h | h
      · rcases a4 with a4 | a4
        · omega
        · exact absurd (under_mono hm (by omega) (by omega) b2 b3) a4
      · exact h
      · rcases b4 with b4 | b4
        · omega
        · exact absurd (under_mono hm (by omega) (by omega) a2 a3) b4
theorem until_ok (s : T_Sensor) (m : T_Measure) (c : Int) (hm : MeOk m) (hs : snC s = 0) (ht : m.Time ≤ 900000000) : Ok (F_window_Until s m c) (UntilR s m c) := by
  have hs' := sn0 hs
  have m1 := hm.1
  unfold F_window_Until
  rw [at_eq _ _ _ hm ⟨by omega, by omega⟩, bind_some, above_eq, bind_some]
  refine ok_dec (fun h => ok_some (.inl ⟨rfl, h⟩)) (fun h => ?_)
  rw [w64 (n := m.Time + s.Life) (by omega) (by omega)]
  refine ok_bind (Q := UntilR s m c) ?_ fun r hr => ok_some hr
  refine ok_loop (fun q : Int × Int => m.Time ≤ q.1 ∧ q.1 ≤ q.2 ∧ q.2 ≤ m.Time + s.Life ∧ Under s m c q.1 ∧ (q.2 = m.Time + s.Life ∨ ¬ Under s m c (q.2 + 1))) (fun q => (q.2 - q.1).toNat) _ (fun q hq => ?_) _ ⟨Int.le_refl _, by dsimp only; omega, Int.le_refl _, Decidable.byContradiction h, .inl rfl⟩
  obtain ⟨lo, hi⟩ := q
  obtain ⟨q1, q2, q3, q4, q5⟩ := hq
  dsimp only at q1 q2 q3 q4 q5
  unfold F_window_Until_L1
  dsimp only
  refine ok_dec (fun hlt => ?_) (fun hge => ok_some ?_)
  · have e1 : IntKind.i64.wrap (hi - lo) = hi - lo := w64 (by omega) (by omega)
    have e2 : IntKind.i64.wrap (hi - lo + 1) = hi - lo + 1 := w64 (by omega) (by omega)
    have e3 : Int.tdiv (hi - lo + 1) 2 = (hi - lo + 1) / 2 := Int.tdiv_eq_ediv_of_nonneg (by omega)
    have e4 : IntKind.i64.wrap ((hi - lo + 1) / 2) = (hi - lo + 1) / 2 := w64 (by omega) (by omega)
    rw [e1, e2, e3, e4]
    generalize hg : (hi - lo + 1) / 2 = g
    have g1 : 1 ≤ g ∧ lo + g ≤ hi := by omega
    have e5 : IntKind.i64.wrap (lo + g) = lo + g := w64 (by omega) (by omega)
    have e6 : IntKind.i64.wrap (lo + g - 1) = lo + g - 1 := w64 (by omega) (by omega)
    rw [e5, e6, at_eq _ _ _ hm ⟨by omega, by omega⟩, bind_some, above_eq, bind_some]
    refine ok_dec (fun hu => ok_some ⟨⟨?_, ?_, ?_, hu, q5⟩, ?_⟩) (fun hu => ok_some ⟨⟨q1, ?_, ?_, q4, .inr ?_⟩, ?_⟩)
    · dsimp only; omega
    · dsimp only; omega
    · exact q3
    · show (hi - (lo + g)).toNat < (hi - lo).toNat; omega
    · dsimp only; omega
    · dsimp only; omega
    · dsimp only; rw [show lo + g - 1 + 1 = lo + g by omega]; exact hu
    · show (lo + g - 1 - lo).toNat < (hi - lo).toNat; omega
  · have : lo = hi := by omega
    subst this
    exact .inr ⟨q1, q3, q4, q5⟩

theorem until0 : F_window_Until (T_Sensor.mk 0 3 0 0 0 0 100 60) (T_Measure.mk 0 5 (T_Span.mk 40 50)) 51 = some 5 := by
  have hm : MeOk (T_Measure.mk 0 5 (T_Span.mk 40 50)) := me_ok (by decide)
  obtain ⟨r, h1, h2⟩ := until_ok _ _ 51 hm (by decide +kernel : snC (T_Sensor.mk 0 3 0 0 0 0 100 60) = 0) (by decide)
  have h5 : UntilR (T_Sensor.mk 0 3 0 0 0 0 100 60) (T_Measure.mk 0 5 (T_Span.mk 40 50)) 51 5 := .inr ⟨by decide, by decide, by decide +kernel, .inr (by decide +kernel)⟩
  rw [h1, until_lt hm h2 h5]
theorem awake06 : F_law06_awake = some true := by
  have hm : MeOk (T_Measure.mk 0 5 (T_Span.mk 40 50)) := me_ok (by decide)
  unfold F_law06_awake
  rw [meet_eq _ (by decide), bind_some, at_eq _ _ _ hm (by decide), bind_some, at_eq _ _ _ hm (by decide), until0]
  simp only [bind_some, above_eq]
  decide +kernel
theorem ok_awake {k : Bool → Option Bool} {R : Bool → Prop} (h : Ok (k true) R) : Ok (F_law06_awake.bind k) R := ok_bindE awake06 h

theorem law_WindowAbove (p0 : List Int) (w0 : InL (In .u8) p0) (p1 : T_Span) (w1 : p1.Wf) (p2 : Int) (w2 : In .i64 p2) : F_law06_WindowAbove p0 p1 p2 = some true := by
  refine Ok.val ?_
  unfold F_law06_WindowAbove
  refine ok_bind (new_ok p0 (bytesOf w0)) fun c hc => ?_
  refine ok_bind (measured_ok c hc) fun x3 _ => ?_
  refine ok_bind (mod_ok p2 200 (by decide)) fun x5 _ => ?_
  simp only [above_eq, rabove_eq, bind_some, decide_true, cond_true]
  exact ok_awake (ok_some rfl)
theorem law_WindowUntil (p0 : List Int) (w0 : InL (In .u8) p0) (p1 : Int) (w1 : In .i64 p1) : F_law06_WindowUntil p0 p1 = some true := by
  refine Ok.val ?_
  unfold F_law06_WindowUntil
  refine ok_bind (new_ok p0 (bytesOf w0)) fun c hc => ?_
  refine ok_bind (range_ok c 1 6 hc (by decide) (by decide) (by decide)) fun x3 h3 => ?_
  refine ok_bind (sensor_ok _ _ h3.1 ⟨h3.2.1, h3.2.2⟩) fun x5 h5 => ?_
  refine ok_bind (measured_ok _ h5.1) fun x7 h7 => ?_
  refine ok_bind (mod_ok p1 260 (by decide)) fun x9 h9 => ?_
  have hm := me_ok h7.2
  have hs' := sn0 h5.2.1
  obtain ⟨cc, hcc⟩ : ∃ cc, cc = x9 - 60 := ⟨_, rfl⟩
  have e9 : IntKind.i64.wrap (x9 - 60) = cc := by rw [hcc]; exact w64 (by omega) (by omega)
  have eL : IntKind.i64.wrap (x7.2.Time + x5.2.Life) = x7.2.Time + x5.2.Life := w64 (by omega) (by omega)
  refine ok_bind (Q := UntilR x5.2 x7.2 cc) (ok_loop (fun q : Int × Int => ((q.1 = -1 ∧ q.2 = x7.2.Time) ∨ (q.1 = q.2 - 1 ∧ x7.2.Time ≤ q.1 ∧ Under x5.2 x7.2 cc q.1)) ∧ q.2 ≤ x7.2.Time + x5.2.Life + 1) (fun q => (x7.2.Time + x5.2.Life + 1 - q.2).toNat) _ (fun q hq => ?_) _ ⟨.inl ⟨rfl, rfl⟩, by dsimp only; omega⟩) fun o ho => ?_
  · obtain ⟨pv, t⟩ := q
    obtain ⟨q1, q2⟩ := hq
    dsimp only at q1 q2
    unfold F_law06_WindowUntil_L1
    rw [eL, e9]
    dsimp only
    have ht : x7.2.Time ≤ t := by rcases q1 with h | h <;> omega
    refine ok_dec (fun hlt => ?_) (fun hge => ok_some ?_)
    · rw [rat_eq _ _ _ hm ⟨by omega, by omega⟩, bind_some, rabove_eq, bind_some, w64 (n := t + 1) (by omega) (by omega)]
      refine ok_dec (fun hu => ok_some ?_) (fun hu => ok_some ⟨⟨.inr ⟨?_, ht, Decidable.byContradiction hu⟩, ?_⟩, ?_⟩)
      · rcases q1 with ⟨h1, h2⟩ | ⟨h1, h2, h3⟩
        · subst h2; exact .inl ⟨h1, hu⟩
        · refine .inr ⟨h2, by omega, h3, .inr ?_⟩
          rw [h1, show t - 1 + 1 = t by omega]
          exact hu
      · dsimp only; omega
      · dsimp only; omega
      · show (x7.2.Time + x5.2.Life + 1 - (t + 1)).toNat < (x7.2.Time + x5.2.Life + 1 - t).toNat; omega
    · rcases q1 with ⟨h1, h2⟩ | ⟨h1, h2, h3⟩
      · omega
      · exact .inr ⟨h2, by omega, h3, .inl (by omega)⟩
  · rw [e9]
    refine ok_bind (until_ok _ _ _ hm h5.2.1 (by omega)) fun r hr => ?_
    have := until_lt hm hr ho
    rw [bif_pos this]
    exact ok_awake (ok_some rfl)

theorem law_WindowTogether (p0 : List Int) (w0 : InL (In .u8) p0) (p1 : List T_Span) (w1 : InL T_Span.Wf p1) : F_law06_WindowTogether p0 p1 = some true := by
  refine Ok.val ?_
  unfold F_law06_WindowTogether
  refine ok_dec (fun _ => ok_awake (ok_some rfl)) (fun hl1 => ?_)
  refine ok_bind (new_ok p0 (bytesOf w0)) fun c hc => ?_
  refine ok_bind (next_lt c 5 hc (by decide)) fun x6 h6 => ?_
  refine ok_bind (Q := fun l => l.length ≤ 4) (ok_loop (fun s : Int × T_draw_Codes × List T_Span => 0 ≤ s.1 ∧ s.1 ≤ 4 ∧ CodesOk s.2.1 ∧ (s.2.2.length : Int) + s.1 ≤ 4) (fun s => s.1.toNat) _ (fun s hs => ?_) _ ⟨h6.2.1, by dsimp only; omega, h6.1, by dsimp only [List.length_nil]; omega⟩) fun o9 h9 => ?_
  · obtain ⟨k, c, L⟩ := s
    obtain ⟨a1, a2, a3, a4⟩ := hs
    dsimp only at a1 a2 a3 a4
    unfold F_law06_WindowTogether_L1
    dsimp only
    refine ok_dec (fun hlt => ?_) (fun _ => ok_some (by dsimp only; omega))
    refine ok_bind (measured_ok c a3) fun x11 h11 => ?_
    refine ok_bind (one_ok _ 12 h11.1 (by decide)) fun x13 h13 => ?_
    refine ok_bind (Q := fun _ => True) (ok_bif (fun _ => ok_some trivial) (fun _ => ok_some trivial)) fun o15 _ => ?_
    rw [appI_ok (by simp; omega), bind_some, w64 (by omega) (by omega)]
    refine ok_some ⟨⟨by dsimp only; omega, by dsimp only; omega, h13, ?_⟩, ?_⟩
    · dsimp only; rw [List.length_append, List.length_singleton]; omega
    · show (k - 1).toNat < k.toNat; omega
  refine ok_bind (Q := (· = .inr ())) (ok_loop (fun s : Int => 0 ≤ s ∧ s ≤ 2) (fun s => (2 - s).toNat) _ (fun s hs => ?_) _ ⟨Int.le_refl 0, by decide⟩) fun o ho => ?_
  · unfold F_law06_WindowTogether_L2
    refine ok_dec (fun hlt => ?_) (fun _ => ok_some rfl)
    have hl : s < 2 := hlt
    refine ok_bind (ok_getI hs.1 hlt) fun x24 hx => ?_
    have hx24 : x24.length ≤ 1000 := by
      have := mem_get hx
      simp only [List.mem_cons, List.not_mem_nil, or_false] at this
      rcases this with rfl | rfl
      · omega
      · omega
    rw [meet_eq _ hx24, bind_some, rmeet_eq _ hx24, bind_some, rhull_eq, speq]
    refine ok_bind (Q := (· = false)) ?_ fun o30 h30 => ?_
    · refine ok_bif (fun h => by cases h) (fun _ => ?_)
      refine ok_bif (fun h => by simp at h) (fun _ => ?_)
      obtain ⟨hh, e1, _⟩ := hull_ok x24 hx24
      rw [e1, bind_some, bind_some, speq]
      exact ok_some rfl
    · subst h30
      have e : IntKind.i64.wrap (s + 1) = s + 1 := w64 (by omega) (by omega)
      rw [e]
      refine ok_some ⟨⟨by omega, by omega⟩, ?_⟩
      show (2 - (s + 1)).toNat < (2 - s).toNat
      omega
  · subst ho
    exact ok_awake (ok_some rfl)
end Go.L
