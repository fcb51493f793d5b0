/- Windows: WindowWidens, WindowMeets. -/
import Derived.Test.YtnphpimajaadpaaP06B
namespace Go.L
open Go Go.Aml

theorem measured2 (c : T_draw_Codes) (hc : CodesOk c) : Ok (F_law06_measured c) fun r => CodesOk r.1 ∧ 0 ≤ r.2.Time ∧ r.2.Time ≤ 199 ∧ (r.2.Span = noth ∨ (-30 ≤ r.2.Span.Low ∧ r.2.Span.Low ≤ r.2.Span.High ∧ r.2.Span.High ≤ 130)) := by
  unfold F_law06_measured
  refine ok_bind (next_lt c 3 hc (by decide)) fun x1 h1 => ?_
  refine ok_bind (next_lt _ 200 h1.1 (by decide)) fun x3 h3 => ?_
  refine ok_bind (range_ok _ (-30) 90 h3.1 (by decide) (by decide) (by decide)) fun x5 h5 => ?_
  refine ok_bind (next_lt _ 40 h5.1 (by decide)) fun x7 h7 => ?_
  refine ok_bind (one_ok _ 8 h7.1 (by decide)) fun x9 h9 => ?_
  refine ok_bind (Q := fun m : T_Measure => 0 ≤ m.Time ∧ m.Time ≤ 199 ∧ (m.Span = noth ∨ (-30 ≤ m.Span.Low ∧ m.Span.Low ≤ m.Span.High ∧ m.Span.High ≤ 130))) ?_ fun o11 h11 => ?_
  · refine ok_bif (fun _ => ?_) (fun _ => ok_some ?_)
    · exact ok_some ⟨h3.2.1, by dsimp only; omega, .inl rfl⟩
    · have e : IntKind.i64.wrap (x5.2 + x7.2) = x5.2 + x7.2 := w64 (by omega) (by omega)
      rw [e]
      exact ⟨h3.2.1, by dsimp only; omega, .inr ⟨by dsimp only; omega, by dsimp only; omega, by dsimp only; omega⟩⟩
  · refine ok_bind (one_ok _ 12 h9 (by decide)) fun x15 h15 => ?_
    refine ok_bind (Q := fun _ => True) (ok_bif (fun _ => ok_some trivial) (fun _ => ok_some trivial)) fun o17 _ => ?_
    exact ok_some ⟨h15, h11⟩
theorem sensor3 (c : T_draw_Codes) (hc : CodesOk c) : Ok (F_draw_Codes_Sensor c 3 0 0) fun r => CodesOk r.1 ∧ r.2.Kind = 3 ∧ 0 ≤ r.2.Drift ∧ r.2.Drift ≤ 699 ∧ 1 ≤ r.2.Life ∧ r.2.Life ≤ 200 ∧ snC r.2 = 0 := by
  unfold F_draw_Codes_Sensor
  refine ok_bind (range_ok _ 1 200 hc (by decide) (by decide) (by decide)) fun x1 h1 => ?_
  show Ok (Option.bind (some (decide ((4 : Int) ≤ 3))) _) _
  rw [bind_some]
  refine ok_bind (Q := fun o => CodesOk o.2 ∧ o.1.Kind = 3 ∧ 0 ≤ o.1.Drift ∧ o.1.Drift ≤ 699 ∧ 1 ≤ o.1.Life ∧ o.1.Life ≤ 200 ∧ snC o.1 = 0) (ok_bif (fun _ => ?_) (fun h => by simp at h)) fun o ho => ok_some ho
  refine ok_bind (range_ok _ (-50) 20 h1.1 (by decide) (by decide) (by decide)) fun x7 h7 => ?_
  refine ok_bind (range_ok _ 300 2000 h7.1 (by decide) (by decide) (by decide)) fun x9 h9 => ?_
  refine ok_bind (next_lt _ 6 h9.1 (by decide)) fun x11 h11 => ?_
  refine ok_bind (next_lt _ 700 h11.1 (by decide)) fun x13 h13 => ?_
  refine ok_some ⟨h13.1, rfl, h13.2.1, by dsimp only; omega, h1.2.1, h1.2.2, snC_of ?_⟩
  dsimp only
  omega

theorem law_WindowWidens (p0 : List Int) (w0 : InL (In .u8) p0) (p1 : Int) (w1 : In .u8 p1) (p2 : Int) (w2 : In .u8 p2) (p3 : Int) (w3 : In .i64 p3) : F_law06_WindowWidens p0 p1 p2 p3 = some true := by
  refine Ok.val ?_
  have w1 := w1.u8
  have w2 := w2.u8
  unfold F_law06_WindowWidens
  refine ok_bind (new_ok p0 (bytesOf w0)) fun c hc => ?_
  refine ok_bind (sensor3 c hc) fun x3 h3 => ?_
  refine ok_bind (measured2 _ h3.1) fun x5 h5 => ?_
  obtain ⟨s1, s2, s3, s4, s5, s6, s7⟩ := h3
  obtain ⟨m1, m2, m3, m4⟩ := h5
  show Ok (((bif decide (x5.2.Sensor < 0) then some true else some ((x5.2.Span.Low == noth.Low) && ((x5.2.Span.High == noth.High) && true))) : Option Bool).bind _) _
  rw [spdec, or_bif rfl, bind_some]
  refine ok_dec (fun _ => ok_awake (ok_some rfl)) (fun hn => ?_)
  have hn0 : ¬ x5.2.Sensor < 0 := fun h => hn (.inl h)
  have hn1 : x5.2.Span ≠ noth := fun h => hn (.inr h)
  have m4 : -30 ≤ x5.2.Span.Low ∧ x5.2.Span.Low ≤ x5.2.Span.High ∧ x5.2.Span.High ≤ 130 := m4.resolve_left hn1
  have hm : MeOk x5.2 := me_ok ⟨m2, m3, by omega, by omega, by omega⟩
  have e1 : IntKind.i64.wrap p1 = p1 := w64 (by omega) (by omega)
  have e1' : IntKind.i64.wrap p2 = p2 := w64 (by omega) (by omega)
  have e2 : IntKind.i64.wrap (x5.2.Time + p1) = x5.2.Time + p1 := w64 (by omega) (by omega)
  have e3 : IntKind.i64.wrap (x5.2.Time + p1 + 1) = x5.2.Time + p1 + 1 := w64 (by omega) (by omega)
  rw [e1, e1', e2, e3, at_eq _ _ _ hm ⟨by omega, by omega⟩, bind_some, at_eq _ _ _ hm ⟨by omega, by omega⟩, bind_some]
  have dr : 0 ≤ x3.2.Drift * p1 ∧ x3.2.Drift * p1 ≤ 178245 := by
    refine ⟨Int.mul_nonneg s3 w1.1, ?_⟩
    have a : x3.2.Drift * p1 ≤ 699 * p1 := Int.mul_le_mul_of_nonneg_right s4 w1.1
    omega
  have dr1 : x3.2.Drift * (p1 + 1) = x3.2.Drift * p1 + x3.2.Drift := by rw [Int.mul_add, Int.mul_one]
  -- what is said at a time
  have at3 : ∀ t, x5.2.Time ≤ t → atS x3.2 x5.2 t = if x3.2.Life < t - x5.2.Time then noth else ⟨x5.2.Span.Low - wid x3.2 (t - x5.2.Time), x5.2.Span.High + wid x3.2 (t - x5.2.Time)⟩ := by
    intro t ht
    unfold atS
    by_cases h : x3.2.Life < t - x5.2.Time
    · rw [if_pos h, if_pos (show BadAt x3.2 x5.2 t from .inr (.inr (.inr (.inr h))))]
    · rw [if_neg h, if_neg (show ¬ BadAt x3.2 x5.2 t by
        rintro (q | q | q | q | q)
        · exact q s7
        · exact hn0 q
        · exact hn1 q
        · omega
        · omega), if_neg (by omega), if_neg (by omega)]
  rw [at3 _ (by omega), at3 _ (by omega), show x5.2.Time + p1 - x5.2.Time = p1 by omega, show x5.2.Time + p1 + 1 - x5.2.Time = p1 + 1 by omega]
  have hw : 0 ≤ wid x3.2 p1 ∧ wid x3.2 p1 ≤ 200000 ∧ x3.2.Drift * p1 / 1000 ≤ wid x3.2 p1 := by unfold wid; omega
  have hw1 : wid x3.2 p1 ≤ wid x3.2 (p1 + 1) ∧ wid x3.2 (p1 + 1) ≤ 200000 := by unfold wid; rw [dr1]; omega
  obtain ⟨x, hx⟩ : ∃ x, x = (if x3.2.Life < p1 then noth else ⟨x5.2.Span.Low - wid x3.2 p1, x5.2.Span.High + wid x3.2 p1⟩ : T_Span) := ⟨_, rfl⟩
  obtain ⟨y, hy⟩ : ∃ y, y = (if x3.2.Life < p1 + 1 then noth else ⟨x5.2.Span.Low - wid x3.2 (p1 + 1), x5.2.Span.High + wid x3.2 (p1 + 1)⟩ : T_Span) := ⟨_, rfl⟩
  rw [← hx, ← hy]
  have n1 : noth.Low = -1125899906842624 := rfl
  have n2 : noth.High = 1125899906842624 := rfl
  have hx' : x.Low ≤ x5.2.Span.Low - wid x3.2 p1 ∧ x5.2.Span.High + wid x3.2 p1 ≤ x.High := by
    rw [hx]
    split
    · omega
    · dsimp only; omega
  have hxy : y.Low ≤ x.Low ∧ x.High ≤ y.High := by
    rw [hx, hy]
    by_cases q : x3.2.Life < p1
    · rw [if_pos q, if_pos (by omega)]; exact ⟨Int.le_refl _, Int.le_refl _⟩
    · rw [if_neg q]
      by_cases q' : x3.2.Life < p1 + 1
      · rw [if_pos q']; dsimp only; omega
      · rw [if_neg q']; dsimp only; omega
  rw [or_bif rfl, bind_some]
  refine ok_dec (fun h => by omega) (fun _ => ?_)
  have f1 : IntKind.i64.wrap (x5.2.Span.High - x5.2.Span.Low) = x5.2.Span.High - x5.2.Span.Low := w64 (by omega) (by omega)
  have f2 : IntKind.i64.wrap (x5.2.Span.High - x5.2.Span.Low + 1) = x5.2.Span.High - x5.2.Span.Low + 1 := w64 (by omega) (by omega)
  have f3 : IntKind.i64.wrap (x3.2.Drift * p1) = x3.2.Drift * p1 := w64 (by omega) (by omega)
  have f4 : Int.tdiv (x3.2.Drift * p1) 1000 = x3.2.Drift * p1 / 1000 := Int.tdiv_eq_ediv_of_nonneg (by omega)
  have f5 : IntKind.i64.wrap (x3.2.Drift * p1 / 1000) = x3.2.Drift * p1 / 1000 := w64 (by omega) (by omega)
  have f6 : IntKind.i64.wrap (x3.2.Drift * p1 / 1000 + 1) = x3.2.Drift * p1 / 1000 + 1 := w64 (by omega) (by omega)
  rw [f1, f2, f3, f4, f5, f6]
  refine ok_bind (mod_ok _ _ (by omega)) fun x21 h21 => ?_
  refine ok_bind (mod_ok _ _ (by omega)) fun x23 h23 => ?_
  have g1 := h21.2.1 (by omega)
  have g2 := h23.2.1 (by omega)
  have k1 : IntKind.i64.wrap (x5.2.Span.Low + x21) = x5.2.Span.Low + x21 := w64 (by omega) (by omega)
  have k2 : IntKind.i64.wrap (x5.2.Span.Low + x21 - x23) = x5.2.Span.Low + x21 - x23 := w64 (by omega) (by omega)
  have k3 : IntKind.i64.wrap (x5.2.Span.Low + x21 + x23) = x5.2.Span.Low + x21 + x23 := w64 (by omega) (by omega)
  rw [k1, k2, k3, bif_pos (by omega), bif_pos (by omega)]
  exact ok_awake (ok_some rfl)

/-! ### folds whose order does not matter -/
theorem fold_out {α : Type} {f : α → α → α} (hc : ∀ a b, f a b = f b a) (ha : ∀ a b c, f (f a b) c = f a (f b c)) : ∀ (l : List α) (a e : α), l.foldl f (f a e) = f a (l.foldl f e)
  | [], _, _ => rfl
  | b :: l, a, e => by
    rw [List.foldl_cons, List.foldl_cons, ha a e b]
    exact fold_out hc ha l a (f e b)
theorem fold_rev {α : Type} {f : α → α → α} (hc : ∀ a b, f a b = f b a) (ha : ∀ a b c, f (f a b) c = f a (f b c)) (e : α) : ∀ l : List α, l.reverse.foldl f e = l.foldl f e
  | [] => rfl
  | a :: l => by
    rw [List.reverse_cons, List.foldl_append, fold_rev hc ha e l, List.foldl_cons, List.foldl_cons, List.foldl_nil, hc e a, fold_out hc ha, hc]

def SpB (a : T_Span) : Prop := -1125899906842624 ≤ a.Low ∧ a.Low ≤ a.High ∧ a.High ≤ 1125899906842624
theorem mt_comm (a b : T_Span) : mt a b = mt b a := by unfold mt; rw [Int.max_comm, Int.min_comm]
theorem mt_assoc (a b c : T_Span) : mt (mt a b) c = mt a (mt b c) := by unfold mt; dsimp only; rw [Int.max_assoc, Int.min_assoc]
theorem mt_noth {a : T_Span} (h : SpB a) : mt noth a = a := by
  unfold mt
  have n1 : noth.Low = -1125899906842624 := rfl
  have n2 : noth.High = 1125899906842624 := rfl
  obtain ⟨h1, h2, h3⟩ := h
  cases a
  dsimp only at h1 h2 h3
  rw [n1, n2]
  simp only [T_Span.mk.injEq]
  omega
theorem meetS_fold {l : List T_Span} (h : ∀ x ∈ l, SpB x) : meetS l = if (l.foldl mt noth).High < (l.foldl mt noth).Low then (noth, false) else (l.foldl mt noth, true) := by
  cases l with
  | nil => rfl
  | cons a l =>
    rw [List.foldl_cons, mt_noth (h a (by simp))]
    rfl
def Cont (v : Int) (a : T_Span) : Prop := a.Low ≤ v ∧ v ≤ a.High
instance (v : Int) (a : T_Span) : Decidable (Cont v a) := by unfold Cont; infer_instance
theorem cont_fold {v : Int} : ∀ (l : List T_Span) (e : T_Span), Cont v (l.foldl mt e) ↔ Cont v e ∧ ∀ x ∈ l, Cont v x
  | [], e => by simp
  | a :: l, e => by
    rw [List.foldl_cons, cont_fold l]
    have : Cont v (mt e a) ↔ Cont v e ∧ Cont v a := by unfold Cont mt; dsimp only; omega
    rw [this]
    simp [and_assoc]

def hu (a b : T_Span) : T_Span := ⟨min a.Low b.Low, max a.High b.High⟩
def huE : T_Span := ⟨2251799813685248, -2251799813685248⟩
theorem hu_comm (a b : T_Span) : hu a b = hu b a := by unfold hu; rw [Int.max_comm, Int.min_comm]
theorem hu_assoc (a b c : T_Span) : hu (hu a b) c = hu a (hu b c) := by unfold hu; dsimp only; rw [Int.max_assoc, Int.min_assoc]
theorem hu_E {a : T_Span} (h : SpB a) : hu huE a = a := by
  unfold hu huE
  obtain ⟨h1, h2, h3⟩ := h
  cases a
  dsimp only at h1 h2 h3 ⊢
  simp only [T_Span.mk.injEq]
  omega
theorem hu_le : ∀ (l : List T_Span) (e x : T_Span), (x = e ∨ x ∈ l) → (l.foldl hu e).Low ≤ x.Low ∧ x.High ≤ (l.foldl hu e).High
  | [], e, x, h => by
    rcases h with rfl | h
    · exact ⟨Int.le_refl _, Int.le_refl _⟩
    · cases h
  | a :: l, e, x, h => by
    rw [List.foldl_cons]
    have k := hu_le l (hu e a) (hu e a) (.inl rfl)
    have q : (hu e a).Low ≤ e.Low ∧ (hu e a).Low ≤ a.Low ∧ e.High ≤ (hu e a).High ∧ a.High ≤ (hu e a).High := by unfold hu; dsimp only; omega
    rcases h with rfl | h
    · omega
    · rcases List.mem_cons.1 h with rfl | h
      · omega
      · exact hu_le l (hu e a) x (.inr h)
def hullS (l : List T_Span) : T_Span := match l with | [] => noth | _ :: _ => l.foldl hu huE
theorem hull_eq (l : List T_Span) (hl : l.length ≤ 1000) (hb : ∀ x ∈ l, SpB x) : F_window_Hull l = some (hullS l) := by
  unfold F_window_Hull
  show Option.bind (loopC (F_window_Hull_L1 l) (false, 0, noth)) _ = _
  rw [loop_fun (fun s : Bool × Int × T_Span => 0 ≤ s.2.1 ∧ s.2.1 ≤ l.length ∧ (s.1 = false → s.2.1 = 0 ∧ s.2.2 = noth) ∧ (s.1 = true → s.2.1 ≠ 0)) (fun s => (l.length - s.2.1).toNat) (fun s => bif s.1 then (l.drop s.2.1.toNat).foldl hu s.2.2 else hullS l) (fun s hs => ?_) (false, 0, noth) ⟨Int.le_refl 0, by dsimp only; omega, fun _ => ⟨rfl, rfl⟩, fun h => by cases h⟩]
  · rfl
  obtain ⟨b, i, a⟩ := s
  obtain ⟨h1, h2, h3, h4⟩ := hs
  dsimp only at h1 h2 h3 h4
  unfold F_window_Hull_L1
  dsimp only
  by_cases hlt : i < (l.length : Int)
  · have hd : l.drop i.toNat = l[i.toNat]'(by omega) :: l.drop (i.toNat + 1) := List.drop_eq_getElem_cons (by omega)
    rw [bif_pos hlt, getI_ok h1 hlt, bind_some, w64 (n := i + 1) (by omega) (by omega)]
    have hx := hb (l[i.toNat]'(by omega)) (List.getElem_mem _)
    generalize l[i.toNat]'(by omega) = x at *
    rw [bif_neg (by have := hx.2.1; omega)]
    cases b with
    | false =>
      obtain ⟨rfl, rfl⟩ := h3 rfl
      refine .inl ⟨_, rfl, ⟨by dsimp only; omega, by dsimp only; omega, (fun h => by cases h), fun _ => by dsimp only; omega⟩, by dsimp only; omega, ?_⟩
      show (l.drop 1).foldl hu x = hullS l
      have hd : l = x :: l.drop 1 := by simpa using hd
      rw [hd]
      show _ = (x :: l.drop 1).foldl hu huE
      rw [List.foldl_cons, hu_E hx]
      rfl
    | true =>
      refine .inl ⟨_, rfl, ⟨by dsimp only; omega, by dsimp only; omega, (fun h => by cases h), fun _ => by dsimp only; omega⟩, by dsimp only; omega, ?_⟩
      show (l.drop (i + 1).toNat).foldl hu _ = (l.drop i.toNat).foldl hu a
      rw [hd, show (i + 1).toNat = i.toNat + 1 by omega]
      rfl
  · rw [bif_neg hlt]
    refine .inr ?_
    cases b with
    | false =>
      obtain ⟨rfl, rfl⟩ := h3 rfl
      have : l = [] := List.eq_nil_of_length_eq_zero (by omega)
      subst this
      rfl
    | true =>
      show some (Sum.inr a) = some (Sum.inr ((l.drop i.toNat).foldl hu a))
      rw [List.drop_of_length_le (by omega)]
      rfl
theorem hullS_rev (l : List T_Span) : hullS l.reverse = hullS l := by
  cases l with
  | nil => rfl
  | cons a l =>
    have : ∀ m : List T_Span, m ≠ [] → hullS m = m.foldl hu huE := fun m hm => by
      cases m with
      | nil => exact absurd rfl hm
      | cons => rfl
    rw [this _ (by simp), this _ (by simp), fold_rev hu_comm hu_assoc]
theorem meetS_rev {l : List T_Span} (h : ∀ x ∈ l, SpB x) : meetS l.reverse = meetS l := by
  rw [meetS_fold h, meetS_fold (fun x hx => h x (List.mem_reverse.1 hx)), fold_rev mt_comm mt_assoc]

theorem law_WindowMeets (p0 : List Int) (w0 : InL (In .u8) p0) (p1 : Int) (w1 : In .i64 p1) : F_law06_WindowMeets p0 p1 = some true := by
  refine Ok.val ?_
  unfold F_law06_WindowMeets
  refine ok_bind (new_ok p0 (bytesOf w0)) fun c hc => ?_
  refine ok_bind (mod_ok p1 150 (by decide)) fun x3 h3 => ?_
  have h3' := h3.2.1 (by decide)
  refine ok_bind (next_lt c 5 hc (by decide)) fun x5 h5 => ?_
  obtain ⟨v, hv⟩ : ∃ v, v = x3 - 40 := ⟨_, rfl⟩
  have ev : IntKind.i64.wrap (x3 - 40) = v := by rw [hv]; exact w64 (by omega) (by omega)
  refine ok_bind (Q := fun o : List T_Span × Bool × List T_Span => o.1 = o.2.2.reverse ∧ o.2.2.length ≤ 4 ∧ (∀ x ∈ o.2.2, SpB x) ∧ (o.2.1 = decide (∀ x ∈ o.2.2, Cont v x))) (ok_loop (fun s : List T_Span × Bool × Int × T_draw_Codes × List T_Span => 0 ≤ s.2.2.1 ∧ CodesOk s.2.2.2.1 ∧ s.1 = s.2.2.2.2.reverse ∧ (s.2.2.2.2.length : Int) + s.2.2.1 ≤ 4 ∧ (∀ x ∈ s.2.2.2.2, SpB x) ∧ (s.2.1 = decide (∀ x ∈ s.2.2.2.2, Cont v x))) (fun s => s.2.2.1.toNat) _ (fun s hs => ?_) _ ⟨h5.2.1, h5.1, rfl, by dsimp only [List.length_nil]; omega, (by simp), by simp⟩) fun o ho => ?_
  · obtain ⟨bk, b, k, c, L⟩ := s
    obtain ⟨a1, a2, a3, a4, a5, a6⟩ := hs
    dsimp only at a1 a2 a3 a4 a5 a6
    subst a3
    unfold F_law06_WindowMeets_L1
    rw [ev]
    dsimp only
    refine ok_dec (fun hlt => ?_) (fun _ => ok_some ⟨rfl, by dsimp only; omega, a5, a6⟩)
    refine ok_bind (measured_ok c a2) fun x10 h10 => ?_
    have hsp : SpB x10.2.Span := ⟨by omega, by omega, by omega⟩
    have e12 : (bif b then (bif decide (x10.2.Span.Low ≤ v) then some (decide (v ≤ x10.2.Span.High)) else some false) else some false) = some (decide (∀ x ∈ L ++ [x10.2.Span], Cont v x)) := by
      rw [and_bif rfl, a6, and_bif rfl]
      congr 1
      refine decide_eq_decide.2 ?_
      simp only [List.mem_append, List.mem_singleton]
      constructor
      · rintro ⟨q1, q2⟩ x (q | rfl)
        · exact q1 x q
        · exact q2
      · intro q
        exact ⟨fun x hx => q x (.inl hx), q _ (.inr rfl)⟩
    rw [e12, bind_some, appI_ok (by simp; omega), bind_some, appI_ok (by simp; omega), bind_some, w64 (by omega) (by omega)]
    refine ok_some ⟨⟨by dsimp only; omega, h10.1, by simp, ?_, ?_, rfl⟩, ?_⟩
    · dsimp only; rw [List.length_append, List.length_singleton]; omega
    · dsimp only
      intro x hx
      rcases List.mem_append.1 hx with q | q
      · exact a5 x q
      · rw [List.mem_singleton.1 q]; exact hsp
    · show (k - 1).toNat < k.toNat; omega
  obtain ⟨bk, b, L⟩ := o
  obtain ⟨a3, a4, a5, a6⟩ := ho
  dsimp only at a3 a4 a5 a6
  subst a3
  rw [ev]
  dsimp only
  have a5' : ∀ x ∈ L.reverse, SpB x := fun x hx => a5 x (List.mem_reverse.1 hx)
  rw [meet_eq _ (by omega), bind_some, meet_eq _ (by simp; omega), bind_some, hull_eq _ (by omega) a5, bind_some, hull_eq _ (by simp; omega) a5', bind_some, meetS_rev a5, hullS_rev, speq, speq]
  refine ok_bind (Q := (· = false)) ?_ fun o ho => ?_
  · refine ok_bif (fun h => by cases h) (fun _ => ?_)
    refine ok_bif (fun h => by simp at h) (fun _ => ?_)
    refine ok_bif (fun h => by cases h) (fun _ => ?_)
    rw [meetS_fold a5, a6]
    have n1 : noth.Low = -1125899906842624 := rfl
    have n2 : noth.High = 1125899906842624 := rfl
    have hcf := cont_fold (v := v) L noth
    have hno : Cont v noth := by unfold Cont; omega
    split
    · rename_i hlt
      have : ¬ ∀ x ∈ L, Cont v x := fun q => by
        have := hcf.2 ⟨hno, q⟩
        unfold Cont at this
        omega
      rw [decide_eq_false this]
      exact ok_some rfl
    · dsimp only
      by_cases hq : ∀ x ∈ L, Cont v x
      · have := hcf.2 ⟨hno, hq⟩
        unfold Cont at this
        rw [decide_eq_true hq, cond_true, bif_pos this.1, decide_eq_true this.2]
        exact ok_some rfl
      · rw [decide_eq_false hq, cond_true]
        by_cases h1 : (L.foldl mt noth).Low ≤ v
        · have h2 : ¬ v ≤ (L.foldl mt noth).High := fun h2 => hq (hcf.1 ⟨h1, h2⟩).2
          rw [bif_pos h1, decide_eq_false h2]
          exact ok_some rfl
        · rw [bif_neg h1]
          exact ok_some rfl
  subst ho
  rw [cond_false]
  rw [bind_some]
  refine ok_bind (Q := (· = .inr ())) (ok_loop (fun s : Int => 0 ≤ s ∧ s ≤ L.length) (fun s => (L.length - s).toNat) _ (fun s hs => ?_) _ ⟨Int.le_refl 0, by omega⟩) fun o ho => ?_
  · unfold F_law06_WindowMeets_L2
    dsimp only
    refine ok_dec (fun hlt => ?_) (fun _ => ok_some rfl)
    rw [getI_ok hs.1 hlt, bind_some, bind_some]
    have hm : L[s.toNat]'(by omega) ∈ L := List.getElem_mem _
    have hle : (hullS L).Low ≤ (L[s.toNat]'(by omega)).Low ∧ (L[s.toNat]'(by omega)).High ≤ (hullS L).High := by
      generalize L[s.toNat]'(by omega) = x at *
      cases L with
      | nil => cases hm
      | cons a L => exact hu_le (a :: L) huE x (.inr hm)
    rw [or_bif rfl, bind_some, bif_neg (by omega), w64 (n := s + 1) (by omega) (by omega)]
    refine ok_some ⟨⟨by omega, by omega⟩, ?_⟩
    show (L.length - (s + 1)).toNat < (L.length - s).toNat
    omega
  · subst ho
    exact ok_awake (ok_some rfl)
end Go.L
