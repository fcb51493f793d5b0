/- Mines that are drawn are right. -/
import Derived.Test.YtaedmgkcmbhicaaP14H
namespace Go.L
open Go Go.Aml

theorem mul_bd {a b A B : Int} (h0 : 0 ≤ a) (h1 : a ≤ A) (h2 : -B ≤ b) (h3 : b ≤ B) (hB : 0 ≤ B) : -(A * B) ≤ a * b ∧ a * b ≤ A * B := by
  have e1 : a * b ≤ a * B := Int.mul_le_mul_of_nonneg_left h3 h0
  have e2 : a * B ≤ A * B := Int.mul_le_mul_of_nonneg_right h1 hB
  have e3 : a * -B ≤ a * b := Int.mul_le_mul_of_nonneg_left h2 h0
  rw [Int.mul_neg] at e3
  omega
theorem mul_bd2 {a b A B : Int} (h0 : -A ≤ a) (h1 : a ≤ A) (h2 : -B ≤ b) (h3 : b ≤ B) (hB : 0 ≤ B) : -(A * B) ≤ a * b ∧ a * b ≤ A * B := by
  by_cases h : 0 ≤ a
  · exact mul_bd h h1 h2 h3 hB
  · have := mul_bd (a := -a) (A := A) (by omega) (by omega) h2 h3 hB
    rw [Int.neg_mul] at this
    omega
def CvV (l : List T_Point) : Prop := CvOk l ∧ ∀ p ∈ l, 0 ≤ p.Pressure ∧ p.Pressure ≤ 3000
def DrV (d : T_Door) : Prop := DrOk d ∧ ∀ x ∈ d.Rests, 0 ≤ x ∧ x ≤ 900
/-- A road that is right but for its ends and lift. -/
def RvOk (r : T_Road) : Prop := 1 ≤ r.Length ∧ r.Length ≤ 400 ∧ 4 ≤ r.Area ∧ r.Area ≤ 30 ∧ 1 ≤ r.Rest.Low ∧ r.Rest.Low ≤ 20 ∧ r.Rest.Low ≤ r.Rest.High ∧ r.Rest.High ≤ r.Rest.Low + 2
def LvOk (r : T_Road) : Prop := -10000000000 ≤ r.Lift.Low ∧ r.Lift.Low ≤ r.Lift.High ∧ r.Lift.High ≤ 10000000000

theorem vroad_ok (c : T_draw_Codes) (f t : Int) (hc : CodesOk c) : Ok (F_draw_Codes_Road c f t) fun r => CodesOk r.1 ∧ r.2.From = f ∧ r.2.To = t ∧ RvOk r.2 ∧ LvOk r.2 := by
  unfold F_draw_Codes_Road
  refine ok_bind (range_ok c 1 400 hc (by decide) (by decide) (by decide)) fun x1 h1 => ?_
  refine ok_bind (range_ok x1.1 4 30 h1.1 (by decide) (by decide) (by decide)) fun x3 h3 => ?_
  refine ok_bind (next_ok x3.1 4 h3.1) fun x5 h5 => ?_
  refine ok_bind (range_ok x5.1 1 20 h5.1 (by decide) (by decide) (by decide)) fun x7 h7 => ?_
  refine ok_bind (next_lt x7.1 3 h7.1 (by decide)) fun x9 h9 => ?_
  refine ok_bind (range_ok x9.1 (-300) 300 h9.1 (by decide) (by decide) (by decide)) fun x11 h11 => ?_
  refine ok_bind (next_lt x11.1 20 h11.1 (by decide)) fun x13 h13 => ?_
  rw [w64 (n := x7.2 + x9.2) (by omega) (by omega), w64 (n := x11.2 + x13.2) (by omega) (by omega)]
  refine ok_some ⟨h13.1, rfl, rfl, ⟨h1.2.1, h1.2.2, h3.2.1, h3.2.2, h7.2.1, h7.2.2, ?_, ?_⟩, ?_, ?_, ?_⟩ <;> dsimp only <;> omega
theorem vcurve_ok (c : T_draw_Codes) (hc : CodesOk c) : Ok (F_draw_Codes_Curve c) fun r => CodesOk r.1 ∧ CvV r.2 := by
  obtain ⟨r, hr, q1, q2⟩ := curve_ok c hc
  refine ⟨r, hr, q1, q2, ?_⟩
  have : Ok (F_draw_Codes_Curve c) fun r => ∀ p ∈ r.2, 0 ≤ p.Pressure ∧ p.Pressure ≤ 3000 := by
    unfold F_draw_Codes_Curve
    refine ok_bind (range_ok c (-20) 10 hc (by decide) (by decide) (by decide)) fun x1 h1 => ?_
    refine ok_bind (range_ok x1.1 500 3000 h1.1 (by decide) (by decide) (by decide)) fun x3 h3 => ?_
    refine ok_bind (next_lt x3.1 4 h3.1 (by decide)) fun x5 h5 => ?_
    refine ok_bind (ok_loop (fun s : Int × List T_Point × T_draw_Codes => 0 ≤ s.1 ∧ 1 ≤ s.2.1.length ∧ (s.2.1.length : Int) + s.1 ≤ 4 ∧ CodesOk s.2.2 ∧ ∀ p ∈ s.2.1, 0 ≤ p.Pressure ∧ p.Pressure ≤ 3000) (fun s => s.1.toNat) (fun r => ∀ p ∈ r.1, 0 ≤ p.Pressure ∧ p.Pressure ≤ 3000) (fun s hs => ?_) _ ⟨h5.2.1, by simp, by simp; omega, h5.1, fun p hp => ?_⟩) fun o8 h8 => ok_some h8
    · obtain ⟨k, l, c⟩ := s
      obtain ⟨a1, a2, a3, a4, a5⟩ := hs
      dsimp only at a1 a2 a3 a4 a5
      unfold F_draw_Codes_Curve_L1
      dsimp only
      refine ok_dec (fun hk => ?_) (fun hk => ok_some a5)
      rw [w64 (n := (l.length : Int) - 1) (by omega) (by omega)]
      refine ok_bind (ok_getI (by omega) (by omega)) fun x10 h10 => ?_
      have hx := a5 x10 (mem_get h10)
      refine ok_bind (range_ok c 1 40 a4 (by decide) (by decide) (by decide)) fun x12 h12 => ?_
      refine ok_bind (next_lt x12.1 900 h12.1 (by decide)) fun x14 h14 => ?_
      rw [appI_ok (by simp; omega), bind_some, w64 (n := k - 1) (by omega) (by omega), w64 (n := x10.Pressure - x14.2) (by omega) (by omega)]
      refine ok_some ⟨⟨by dsimp only; omega, by simp, by simp; omega, h14.1, fun p hp => ?_⟩, by dsimp only; omega⟩
      rcases mem_app1 hp with h | h
      · exact a5 p h
      · subst h
        dsimp only
        omega
    · simp at hp
      subst hp
      dsimp only
      omega
  obtain ⟨r', hr', q⟩ := this
  rw [hr] at hr'
  injection hr' with hr'
  subst hr'
  exact q
theorem vdoor_ok (c : T_draw_Codes) (rd : Int) (hc : CodesOk c) : Ok (F_draw_Codes_Door c rd) fun r => CodesOk r.1 ∧ DrV r.2 := by
  unfold F_draw_Codes_Door
  refine ok_bind (range_ok c 200 900 hc (by decide) (by decide) (by decide)) fun x1 h1 => ?_
  refine ok_bind (range_ok x1.1 1 3 h1.1 (by decide) (by decide) (by decide)) fun x3 h3 => ?_
  refine ok_bind (ok_loop (fun s : Int × List Int × T_draw_Codes => 0 ≤ s.1 ∧ 1 ≤ s.2.1.length ∧ (s.2.1.length : Int) + s.1 ≤ 4 ∧ CodesOk s.2.2 ∧ ∀ x ∈ s.2.1, 0 ≤ x ∧ x ≤ 900) (fun s => s.1.toNat) (fun r => CodesOk r.2 ∧ 1 ≤ r.1.length ∧ r.1.length ≤ 4 ∧ ∀ x ∈ r.1, 0 ≤ x ∧ x ≤ 900) (fun s hs => ?_) _ ⟨by dsimp only; omega, by simp, by simp; omega, h3.1, fun x hx => ?_⟩) fun o8 h8 => ok_some ⟨h8.1, ⟨h8.2.1, h8.2.2.1⟩, h8.2.2.2⟩
  · obtain ⟨k, l, c⟩ := s
    obtain ⟨a1, a2, a3, a4, a5⟩ := hs
    dsimp only at a1 a2 a3 a4 a5
    unfold F_draw_Codes_Door_L1
    dsimp only
    refine ok_dec (fun hk => ?_) (fun hk => ok_some ⟨a4, a2, by dsimp only; omega, a5⟩)
    rw [w64 (n := (l.length : Int) - 1) (by omega) (by omega)]
    refine ok_bind (ok_getI (by omega) (by omega)) fun x10 h10 => ?_
    have hx := a5 x10 (mem_get h10)
    refine ok_bind (range_ok c 1 60 a4 (by decide) (by decide) (by decide)) fun x12 h12 => ?_
    rw [appI_ok (by simp; omega), bind_some, w64 (n := k - 1) (by omega) (by omega), w64 (n := x10 - x12.2) (by omega) (by omega)]
    refine ok_some ⟨⟨by dsimp only; omega, by simp, by simp; omega, h12.1, fun x hx => ?_⟩, by dsimp only; omega⟩
    rcases mem_app1 hx with h | h
    · exact a5 x h
    · omega
  · have : x = x1.2 := by simpa using hx
    omega
structure EqV (a : T_Air) (s : T_Setting) : Prop where
  f1 : a.Fans.length ≤ 2
  f2 : s.Fans.length = a.Fans.length
  f3 : ∀ f ∈ a.Fans, CvV f.Curve
  d1 : a.Doors.length ≤ 2
  d2 : s.Doors.length = a.Doors.length
  d3 : ∀ d ∈ a.Doors, DrV d
theorem vequipped_ok (c : T_draw_Codes) (m : T_Mine) (hc : CodesOk c) (hm : m.Roads.length ≤ 20) : Ok (F_draw_Codes_equipped c ⟨m, [], []⟩) fun r => CodesOk r.1 ∧ r.2.1.Mine = m ∧ EqV r.2.1 r.2.2 := by
  unfold F_draw_Codes_equipped
  refine ok_bind (next_lt c 3 hc (by decide)) fun x2 h2 => ?_
  refine ok_bind (ok_loop (fun s : Int × List Int × T_draw_Codes × List T_Fan => 0 ≤ s.1 ∧ (s.2.2.2.length : Int) + s.1 ≤ 2 ∧ s.2.1.length = s.2.2.2.length ∧ CodesOk s.2.2.1 ∧ ∀ f ∈ s.2.2.2, CvV f.Curve) (fun s => s.1.toNat)
    (fun r => r.2.2.length ≤ 2 ∧ r.1.length = r.2.2.length ∧ CodesOk r.2.1 ∧ ∀ f ∈ r.2.2, CvV f.Curve) (fun s hs => ?_) _ ⟨h2.2.1, by simp; omega, rfl, h2.1, fun f hf => by cases hf⟩) fun o5 h5 => ?_
  · obtain ⟨k, l, c, fs⟩ := s
    obtain ⟨a1, a2, a3, a4, a5⟩ := hs
    dsimp only at a1 a2 a3 a4 a5
    unfold F_draw_Codes_equipped_L1
    dsimp only
    rw [and_bif rfl, bind_some]
    refine ok_dec (fun hk => ?_) (fun hk => ok_some ⟨by dsimp only; omega, a3, a4, a5⟩)
    refine ok_bind (next_ok c _ a4) fun x9 h9 => ?_
    refine ok_bind (one_ok x9.1 3 h9.1 (by decide)) fun x11 h11 => ?_
    refine ok_bind (one_ok x11.1 3 h11 (by decide)) fun x13 h13 => ?_
    refine ok_bind (vcurve_ok x13.1 h13) fun x15 h15 => ?_
    rw [appI_ok (by simp; omega), bind_some]
    refine ok_bind (next_ok x15.1 3 h15.1) fun x19 h19 => ?_
    rw [appI_ok (by simp; omega), bind_some, w64 (n := k - 1) (by omega) (by omega)]
    refine ok_some ⟨⟨by dsimp only; omega, by simp; omega, by simp [a3], h19.1, fun f hf => ?_⟩, by dsimp only; omega⟩
    rcases mem_app1 hf with h | h
    · exact a5 f h
    · subst h; exact h15.2
  obtain ⟨b1, b2, b3, b4⟩ := h5
  refine ok_bind (next_lt o5.2.1 3 b3 (by decide)) fun x24 h24 => ?_
  refine ok_bind (ok_loop (fun s : Int × T_Setting × T_draw_Codes × List T_Door => 0 ≤ s.1 ∧ (s.2.2.2.length : Int) + s.1 ≤ 2 ∧ s.2.1.Doors.length = s.2.2.2.length ∧ s.2.1.Fans = o5.1 ∧ CodesOk s.2.2.1 ∧ ∀ d ∈ s.2.2.2, DrV d) (fun s => s.1.toNat)
    (fun r => r.2.2.length ≤ 2 ∧ r.1.Doors.length = r.2.2.length ∧ r.1.Fans = o5.1 ∧ CodesOk r.2.1 ∧ ∀ d ∈ r.2.2, DrV d) (fun s hs => ?_) _ ⟨h24.2.1, by simp; omega, rfl, rfl, h24.1, fun f hf => by cases hf⟩) fun o27 h27 => ?_
  · obtain ⟨k, s, c, ds⟩ := s
    obtain ⟨a1, a2, a3, a4, a5, a6⟩ := hs
    dsimp only at a1 a2 a3 a4 a5 a6
    unfold F_draw_Codes_equipped_L2
    dsimp only
    refine ok_bind (Q := fun o => o.2 = s ∧ (o.1 = true → 0 < k)) (ok_dec (fun h => ok_some ⟨rfl, fun _ => h⟩) (fun _ => ok_some ⟨rfl, fun h => by cases h⟩)) fun o28 h28 => ?_
    obtain ⟨rfl, h28⟩ := h28
    refine ok_bif (fun hk => ?_) (fun hk => ok_some ⟨by dsimp only; omega, a3, a4, a5, a6⟩)
    have hk0 := h28 hk
    refine ok_bind (next_ok c _ a5) fun x31 h31 => ?_
    refine ok_bind (vdoor_ok x31.1 _ h31.1) fun x33 h33 => ?_
    rw [appI_ok (by simp; omega), bind_some]
    refine ok_bind (next_ok x33.1 _ h33.1) fun x37 h37 => ?_
    rw [appI_ok (by simp; omega), bind_some, w64 (n := k - 1) (by omega) (by omega)]
    refine ok_some ⟨⟨by dsimp only; omega, by simp; omega, by simp [a3], a4, h37.1, fun d hd => ?_⟩, by dsimp only; omega⟩
    rcases mem_app1 hd with h | h
    · exact a6 d h
    · subst h; exact h33.2
  exact ok_some ⟨h27.2.2.2.1, rfl, ⟨b1, by dsimp only; rw [h27.2.2.1]; exact b2, b4, h27.1, h27.2.1, h27.2.2.2.2⟩⟩
theorem vrest_ok (d : T_Door) (k : Int) (hd : DrV d) : Ok (F_ref08_Rest d k) fun r => 0 ≤ r.Low ∧ r.Low ≤ 900 := by
  obtain ⟨⟨h1, h2⟩, h3⟩ := hd
  unfold F_ref08_Rest
  rw [or_bif (or_bif rfl), bind_some]
  refine ok_dec (fun _ => ok_some ⟨Int.le_refl _, by show (0 : Int) ≤ 900; decide⟩) (fun hn => ?_)
  refine ok_dec (fun hk => ?_) (fun hk => ?_)
  · refine ok_bind (ok_getI (by omega) (by omega)) fun x hx => ?_
    exact ok_bind (ok_getI (by omega) (by omega)) fun _ _ => ok_some (h3 x (mem_get hx))
  · refine ok_bind (ok_getI (by omega) (by omega)) fun x hx => ?_
    refine ok_bind (ok_getI (by omega) (by omega)) fun y _ => ?_
    refine ok_bind (ok_loop (fun s : Int × T_Span => 0 ≤ s.1 ∧ s.1 ≤ d.Rests.length ∧ 0 ≤ s.2.Low ∧ s.2.Low ≤ 900) (fun s => (d.Rests.length - s.1).toNat) (fun r => 0 ≤ r.Low ∧ r.Low ≤ 900) (fun s hs => ?_) _ ⟨Int.le_refl _, by dsimp only; omega, h3 x (mem_get hx)⟩) fun _ h => ok_some h
    obtain ⟨b1, b2, b3, b4⟩ := hs
    unfold F_ref08_Rest_L1
    refine ok_dec (fun hi => ?_) (fun hi => ok_some ⟨b3, b4⟩)
    refine ok_bind (ok_getI b1 hi) fun x hx => ?_
    refine ok_bind (ok_getI b1 hi) fun y _ => ?_
    have := h3 x (mem_get hx)
    rw [w64 (by omega) (by omega)]
    refine ok_some ⟨⟨?_, ?_, ?_, ?_⟩, ?_⟩ <;> dsimp only <;> omega
theorem tdiv_bd {a b A : Int} (h0 : -A ≤ a) (h1 : a ≤ A) (hb : 1 ≤ b) : -A ≤ a.tdiv b ∧ a.tdiv b ≤ A := by
  by_cases h : 0 ≤ a
  · have e1 : 0 ≤ a.tdiv b := Int.tdiv_nonneg h (by omega)
    have e2 : a.tdiv b ≤ a := Int.tdiv_le_self _ h
    omega
  · have e1 : 0 ≤ (-a).tdiv b := Int.tdiv_nonneg (by omega) (by omega)
    have e2 : (-a).tdiv b ≤ -a := Int.tdiv_le_self _ (by omega)
    rw [Int.neg_tdiv] at e1 e2
    omega
theorem vfloor_ok (a b : Int) (hb : 1 ≤ b) (h0 : -6000000 ≤ a) (h1 : a ≤ 6000000) : Ok (F_ref05_Floor a b) fun r => -6000001 ≤ r ∧ r ≤ 6000001 := by
  obtain ⟨e1, e2⟩ := tdiv_bd h0 h1 hb
  unfold F_ref05_Floor
  rw [quoI_ok (by omega), bind_some, remI_ok (by omega), bind_some, w64 (n := a.tdiv b) (by omega) (by omega), w64 (n := a.tdiv b - 1) (by omega) (by omega)]
  exact ok_bind (Q := fun r => -6000001 ≤ r ∧ r ≤ 6000001) (ok_dec (fun _ => ok_some ⟨by omega, by omega⟩) (fun _ => ok_some ⟨by omega, by omega⟩)) fun _ h => ok_some h
theorem vceil_ok (a b : Int) (hb : 1 ≤ b) (h0 : -6000000 ≤ a) (h1 : a ≤ 6000000) : Ok (F_ref05_Ceil a b) fun r => -6000001 ≤ r ∧ r ≤ 6000001 := by
  unfold F_ref05_Ceil
  rw [w64 (n := 0 - a) (by omega) (by omega)]
  refine ok_bind (vfloor_ok _ b hb (by omega) (by omega)) fun r hr => ?_
  rw [w64 (by omega) (by omega)]
  exact ok_some ⟨by omega, by omega⟩
def SpB (s : T_Span) : Prop := -6010000 ≤ s.Low ∧ s.Low ≤ 6010000 ∧ -6010000 ≤ s.High ∧ s.High ≤ 6010000
theorem vinner_ok (f : T_Fan) (q : Int) (hf : CvV f.Curve) (hq0 : -1000 ≤ q) (hq1 : q ≤ 1000) : Ok (F_ref07_Inner f q) SpB := by
  obtain ⟨⟨h1, h2, h3⟩, h4⟩ := hf
  unfold F_ref07_Inner
  have e0 : getI f.Curve 0 = some f.Curve[0] := by rw [show (0 : Int) = ((0 : Nat) : Int) from rfl, getI_nat]; exact List.getElem?_eq_getElem h1
  have p0 := h4 f.Curve[0] (List.getElem_mem h1)
  rw [e0, bind_some]
  refine ok_dec (fun _ => ok_some ⟨by dsimp only; omega, by dsimp only; omega, by dsimp only; omega, by dsimp only; omega⟩) (fun hq0 => ?_)
  rw [w64 (n := (f.Curve.length : Int) - 1) (by omega) (by omega)]
  refine ok_bind (ok_getI (by omega) (by omega)) fun xl hl => ?_
  refine ok_dec (fun _ => ?_) (fun hq1 => ?_)
  · refine ok_bind (ok_getI (by omega) (by omega)) fun u hu => ?_
    refine ok_bind (ok_getI (by omega) (by omega)) fun v hv => ok_some ?_
    have := h4 u (mem_get hu)
    have := h4 v (mem_get hv)
    exact ⟨by dsimp only; omega, by dsimp only; omega, by dsimp only; omega, by dsimp only; omega⟩
  refine ok_bind (Q := fun o : Int => 0 ≤ o ∧ o + 1 < f.Curve.length ∧ (∀ x, f.Curve[o.toNat]? = some x → x.Flow ≤ q) ∧ ∀ x, f.Curve[(o + 1).toNat]? = some x → q < x.Flow) (ok_loop (fun s : Int => 0 ≤ s ∧ s + 1 < f.Curve.length ∧ ∀ x, f.Curve[s.toNat]? = some x → x.Flow ≤ q) (fun s => (f.Curve.length - s).toNat) _ (fun s hs => ?_) _ ⟨Int.le_refl _, ?_, fun x hx => ?_⟩) fun o16 ho => ?_
  · obtain ⟨a1, a2, a3⟩ := hs
    unfold F_ref07_Inner_L1
    rw [w64 (n := s + 1) (by omega) (by omega)]
    refine ok_bind (ok_getI (by omega) (by omega)) fun x hx => ?_
    refine ok_dec (fun hle => ok_some ⟨⟨by omega, ?_, fun y hy => ?_⟩, by omega⟩) (fun hgt => ok_some ⟨a1, a2, a3, fun y hy => ?_⟩)
    · by_cases e : s + 1 + 1 < (f.Curve.length : Int)
      · exact e
      · have : s + 1 = (f.Curve.length : Int) - 1 := by omega
        rw [this, hl] at hx
        injection hx with hx
        subst hx
        omega
    · rw [hx] at hy
      injection hy with hy
      subst hy
      exact hle
    · rw [hx] at hy
      injection hy with hy
      subst hy
      omega
  · by_cases e : (0 : Int) + 1 < (f.Curve.length : Int)
    · exact e
    · have : (f.Curve.length : Int) - 1 = 0 := by omega
      rw [this] at hl
      have : f.Curve[0] = xl := by
        have h' : f.Curve[(0 : Int).toNat]? = some f.Curve[0] := List.getElem?_eq_getElem h1
        rw [hl] at h'
        injection h' with h'
        exact h'.symm
      rw [this] at hq0
      omega
  · have h' : f.Curve[(0 : Int).toNat]? = some f.Curve[0] := List.getElem?_eq_getElem h1
    rw [h'] at hx
    injection hx with hx
    subst hx
    omega
  · obtain ⟨a1, a2, a3, a4⟩ := ho
    refine ok_bind (ok_getI (by omega) (by omega)) fun x20 h20 => ?_
    rw [w64 (n := o16 + 1) (by omega) (by omega)]
    refine ok_bind (ok_getI (by omega) (by omega)) fun x22 h22 => ?_
    have c1 := a3 x20 h20
    have c2 := a4 x22 h22
    have c3 := h3 x20 (mem_get h20)
    have c4 := h3 x22 (mem_get h22)
    have c5 := h4 x20 (mem_get h20)
    have c6 := h4 x22 (mem_get h22)
    have hm := mul_bd2 (a := x22.Pressure - x20.Pressure) (b := q - x20.Flow) (A := 3000) (B := 2000) (by omega) (by omega) (by omega) (by omega) (by decide)
    rw [w64 (n := x22.Flow - x20.Flow) (by omega) (by omega), w64 (n := x22.Pressure - x20.Pressure) (by omega) (by omega), w64 (n := q - x20.Flow) (by omega) (by omega), w64 (n := (x22.Pressure - x20.Pressure) * (q - x20.Flow)) (by omega) (by omega)]
    refine ok_bind (vfloor_ok _ _ (by omega) (by omega) (by omega)) fun u hu => ?_
    refine ok_bind (vceil_ok _ _ (by omega) (by omega) (by omega)) fun v hv => ?_
    rw [w64 (n := x20.Pressure + u) (by omega) (by omega), w64 (n := x20.Pressure + v) (by omega) (by omega)]
    exact ok_some ⟨by dsimp only; omega, by dsimp only; omega, by dsimp only; omega, by dsimp only; omega⟩
theorem valong_ok (f : T_Fan) (b : Bool) (q : Int) (hf : CvV f.Curve) (hq0 : -1000 ≤ q) (hq1 : q ≤ 1000) : Ok (F_ref07_Along f b q) SpB := by
  unfold F_ref07_Along
  rw [w64 (n := 0 - q) (by omega) (by omega)]
  refine ok_bif (fun _ => ok_bind (vinner_ok f _ hf (by omega) (by omega)) fun r hr => ?_) (fun _ => ok_bind (vinner_ok f _ hf hq0 hq1) fun _ h => ok_some h)
  obtain ⟨r1, r2, r3, r4⟩ := hr
  rw [w64 (n := 0 - r.High) (by omega) (by omega), w64 (n := 0 - r.Low) (by omega) (by omega)]
  exact ok_some ⟨by dsimp only; omega, by dsimp only; omega, by dsimp only; omega, by dsimp only; omega⟩
theorem vstate_ok (f : T_Fan) (k q : Int) (hf : CvV f.Curve) (hq0 : -1000 ≤ q) (hq1 : q ≤ 1000) : Ok (F_ref07_State f k q) fun r => -6010000 ≤ r.Low ∧ r.Low ≤ 6010000 := by
  unfold F_ref07_State
  refine ok_dec (fun _ => ok_some ⟨by show (-6010000 : Int) ≤ 0; decide, by show (0 : Int) ≤ 6010000; decide⟩) (fun _ => ok_dec (fun _ => ok_bind (valong_ok f _ q hf hq0 hq1) fun _ h => ok_some ⟨h.1, h.2.1⟩) (fun _ => ok_dec (fun _ => ok_bind (valong_ok f _ q hf hq0 hq1) fun _ h => ok_some ⟨h.1, h.2.1⟩) (fun _ => ?_)))
  refine ok_bind (valong_ok f _ q hf hq0 hq1) fun x hx => ok_bind (valong_ok f _ q hf hq0 hq1) fun y hy => ok_some ?_
  obtain ⟨x1, x2, _⟩ := hx
  obtain ⟨y1, y2, _⟩ := hy
  dsimp only
  omega
end Go.L
