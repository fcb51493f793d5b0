/- What the functions yield, plain: the laws. -/
import Derived.Test.YticjalhfpjlbdaaPDrawB16
/- Mines that are drawn: that they are made at all, and of what form they are. -/
namespace Go.L
open Go Go.Aml

def RdOk (n : Nat) (r : T_Road) : Prop := 0 ≤ r.From ∧ r.From < (n : Int) ∧ 0 ≤ r.To ∧ r.To < (n : Int)
structure MnOk (m : T_Mine) : Prop where
  p1 : 1 ≤ m.Places.length
  p2 : m.Places.length ≤ 12
  r1 : m.Roads.length ≤ 20
  rd : ∀ r ∈ m.Roads, RdOk m.Places.length r
def FlOk (l : List Int) : Prop := ∀ q ∈ l, -1000 ≤ q ∧ q ≤ 1000
def CvOk (l : List T_Point) : Prop := 1 ≤ l.length ∧ l.length ≤ 5 ∧ ∀ p ∈ l, -1000 ≤ p.Flow ∧ p.Flow ≤ 1000

theorem mem_app1 {α : Type} {l : List α} {a x : α} (h : x ∈ l ++ [a]) : x ∈ l ∨ x = a := by
  rcases List.mem_append.1 h with h | h
  · exact .inl h
  · exact .inr (by simpa using h)
theorem road_ok (c : T_draw_Codes) (f t : Int) (hc : CodesOk c) : Ok (F_draw_Codes_Road c f t) fun r => CodesOk r.1 ∧ r.2.From = f ∧ r.2.To = t := by
  unfold F_draw_Codes_Road
  refine ok_bind (range_ok c 1 400 hc (by decide) (by decide) (by decide)) fun x1 h1 => ?_
  refine ok_bind (range_ok x1.1 4 30 h1.1 (by decide) (by decide) (by decide)) fun x3 h3 => ?_
  refine ok_bind (next_ok x3.1 4 h3.1) fun x5 h5 => ?_
  refine ok_bind (range_ok x5.1 1 20 h5.1 (by decide) (by decide) (by decide)) fun x7 h7 => ?_
  refine ok_bind (next_ok x7.1 3 h7.1) fun x9 h9 => ?_
  refine ok_bind (range_ok x9.1 (-300) 300 h9.1 (by decide) (by decide) (by decide)) fun x11 h11 => ?_
  refine ok_bind (next_ok x11.1 20 h11.1) fun x13 h13 => ?_
  exact ok_some ⟨h13.1, rfl, rfl⟩
theorem curve_ok (c : T_draw_Codes) (hc : CodesOk c) : Ok (F_draw_Codes_Curve c) fun r => CodesOk r.1 ∧ CvOk r.2 := by
  unfold F_draw_Codes_Curve
  refine ok_bind (range_ok c (-20) 10 hc (by decide) (by decide) (by decide)) fun x1 h1 => ?_
  refine ok_bind (range_ok x1.1 500 3000 h1.1 (by decide) (by decide) (by decide)) fun x3 h3 => ?_
  refine ok_bind (next_lt x3.1 4 h3.1 (by decide)) fun x5 h5 => ?_
  refine ok_bind (ok_loop (fun s : Int × List T_Point × T_draw_Codes => 0 ≤ s.1 ∧ 1 ≤ s.2.1.length ∧ (s.2.1.length : Int) + s.1 ≤ 4 ∧ CodesOk s.2.2 ∧ ∀ p ∈ s.2.1, -20 ≤ p.Flow ∧ p.Flow ≤ 50 * (s.2.1.length : Int)) (fun s => s.1.toNat) (fun r => CodesOk r.2 ∧ CvOk r.1) (fun s hs => ?_) _ ⟨h5.2.1, by simp, by simp; omega, h5.1, fun p hp => ?_⟩) fun o8 h8 => ok_some h8
  · obtain ⟨k, l, c⟩ := s
    obtain ⟨a1, a2, a3, a4, a5⟩ := hs
    dsimp only at a1 a2 a3 a4 a5
    unfold F_draw_Codes_Curve_L1
    dsimp only
    refine ok_dec (fun hk => ?_) (fun hk => ok_some ⟨a4, a2, by dsimp only; omega, fun p hp => by have := a5 p hp; omega⟩)
    rw [w64 (n := (l.length : Int) - 1) (by omega) (by omega)]
    refine ok_bind (ok_getI (by omega) (by omega)) fun x10 h10 => ?_
    have hx := a5 x10 (mem_get h10)
    refine ok_bind (range_ok c 1 40 a4 (by decide) (by decide) (by decide)) fun x12 h12 => ?_
    refine ok_bind (next_ok x12.1 900 h12.1) fun x14 h14 => ?_
    rw [appI_ok (by simp; omega), bind_some, w64 (n := k - 1) (by omega) (by omega), w64 (n := x10.Flow + x12.2) (by omega) (by omega)]
    refine ok_some ⟨⟨by dsimp only; omega, by simp, by simp; omega, h14.1, fun p hp => ?_⟩, by dsimp only; omega⟩
    have hlen : ((l ++ [T_Point.mk (x10.Flow + x12.2) (max 0 (IntKind.i64.wrap (x10.Pressure - x14.2)))]).length : Int) = l.length + 1 := by simp
    dsimp only at hp ⊢
    rw [hlen]
    rcases mem_app1 hp with h | h
    · have := a5 p h; omega
    · subst h
      dsimp only
      omega
  · simp at hp
    subst hp
    simp
    omega
def DrOk (d : T_Door) : Prop := 1 ≤ d.Rests.length ∧ d.Rests.length ≤ 4
theorem door_ok (c : T_draw_Codes) (r : Int) (hc : CodesOk c) : Ok (F_draw_Codes_Door c r) fun r => CodesOk r.1 ∧ DrOk r.2 := by
  unfold F_draw_Codes_Door
  refine ok_bind (range_ok c 200 900 hc (by decide) (by decide) (by decide)) fun x1 h1 => ?_
  refine ok_bind (range_ok x1.1 1 3 h1.1 (by decide) (by decide) (by decide)) fun x3 h3 => ?_
  refine ok_bind (ok_loop (fun s : Int × List Int × T_draw_Codes => 0 ≤ s.1 ∧ 1 ≤ s.2.1.length ∧ (s.2.1.length : Int) + s.1 ≤ 4 ∧ CodesOk s.2.2) (fun s => s.1.toNat) (fun r => CodesOk r.2 ∧ 1 ≤ r.1.length ∧ r.1.length ≤ 4) (fun s hs => ?_) _ ⟨by dsimp only; omega, by simp, by simp; omega, h3.1⟩) fun o8 h8 => ok_some ⟨h8.1, h8.2.1, h8.2.2⟩
  obtain ⟨k, l, c⟩ := s
  obtain ⟨a1, a2, a3, a4⟩ := hs
  dsimp only at a1 a2 a3 a4
  unfold F_draw_Codes_Door_L1
  dsimp only
  refine ok_dec (fun hk => ?_) (fun hk => ok_some ⟨a4, a2, by dsimp only; omega⟩)
  rw [w64 (n := (l.length : Int) - 1) (by omega) (by omega)]
  refine ok_bind (ok_getI (by omega) (by omega)) fun x10 h10 => ?_
  refine ok_bind (range_ok c 1 60 a4 (by decide) (by decide) (by decide)) fun x12 h12 => ?_
  rw [appI_ok (by simp; omega), bind_some, w64 (n := k - 1) (by omega) (by omega)]
  exact ok_some ⟨⟨by dsimp only; omega, by simp, by simp; omega, h12.1⟩, by dsimp only; omega⟩

structure EqOk (a : T_Air) (s : T_Setting) : Prop where
  f1 : a.Fans.length ≤ 2
  f2 : s.Fans.length = a.Fans.length
  f3 : ∀ f ∈ a.Fans, CvOk f.Curve
  d1 : a.Doors.length ≤ 2
  d2 : s.Doors.length = a.Doors.length
  d3 : ∀ d ∈ a.Doors, DrOk d
theorem equipped_ok (c : T_draw_Codes) (m : T_Mine) (hc : CodesOk c) (hm : m.Roads.length ≤ 20) : Ok (F_draw_Codes_equipped c ⟨m, [], []⟩) fun r => CodesOk r.1 ∧ r.2.1.Mine = m ∧ EqOk r.2.1 r.2.2 := by
  unfold F_draw_Codes_equipped
  refine ok_bind (next_lt c 3 hc (by decide)) fun x2 h2 => ?_
  refine ok_bind (ok_loop (fun s : Int × List Int × T_draw_Codes × List T_Fan => 0 ≤ s.1 ∧ (s.2.2.2.length : Int) + s.1 ≤ 2 ∧ s.2.1.length = s.2.2.2.length ∧ CodesOk s.2.2.1 ∧ ∀ f ∈ s.2.2.2, CvOk f.Curve) (fun s => s.1.toNat)
    (fun r => r.2.2.length ≤ 2 ∧ r.1.length = r.2.2.length ∧ CodesOk r.2.1 ∧ ∀ f ∈ r.2.2, CvOk f.Curve) (fun s hs => ?_) _ ⟨h2.2.1, by simp; omega, rfl, h2.1, fun f hf => by cases hf⟩) fun o5 h5 => ?_
  · obtain ⟨k, l, c, fs⟩ := s
    obtain ⟨a1, a2, a3, a4, a5⟩ := hs
    dsimp only at a1 a2 a3 a4 a5
    unfold F_draw_Codes_equipped_L1
    dsimp only
    rw [and_bif rfl, bind_some]
    refine ok_dec (fun hk => ?_) (fun hk => ok_some ⟨by dsimp only; omega, a3, a4, a5⟩)
    refine ok_bind (next_ok c _ a4) fun x9 h9 => ?_
    refine ok_bind (one_ok x9.1 3 h9.1 (by decide)) fun x11 h11 => ?_
    refine ok_bind (one_ok x11.1 3 h11 (by decide)) fun x13 h13 => ?_
    refine ok_bind (curve_ok x13.1 h13) fun x15 h15 => ?_
    rw [appI_ok (by simp; omega), bind_some]
    refine ok_bind (next_ok x15.1 3 h15.1) fun x19 h19 => ?_
    rw [appI_ok (by simp; omega), bind_some, w64 (n := k - 1) (by omega) (by omega)]
    refine ok_some ⟨⟨by dsimp only; omega, by simp; omega, by simp [a3], h19.1, fun f hf => ?_⟩, by dsimp only; omega⟩
    rcases mem_app1 hf with h | h
    · exact a5 f h
    · subst h; exact h15.2
  obtain ⟨b1, b2, b3, b4⟩ := h5
  refine ok_bind (next_lt o5.2.1 3 b3 (by decide)) fun x24 h24 => ?_
  refine ok_bind (ok_loop (fun s : Int × T_Setting × T_draw_Codes × List T_Door => 0 ≤ s.1 ∧ (s.2.2.2.length : Int) + s.1 ≤ 2 ∧ s.2.1.Doors.length = s.2.2.2.length ∧ s.2.1.Fans = o5.1 ∧ CodesOk s.2.2.1 ∧ ∀ d ∈ s.2.2.2, DrOk d) (fun s => s.1.toNat)
    (fun r => r.2.2.length ≤ 2 ∧ r.1.Doors.length = r.2.2.length ∧ r.1.Fans = o5.1 ∧ CodesOk r.2.1 ∧ ∀ d ∈ r.2.2, DrOk d) (fun s hs => ?_) _ ⟨h24.2.1, by simp; omega, rfl, rfl, h24.1, fun f hf => by cases hf⟩) fun o27 h27 => ?_
  · obtain ⟨k, s, c, ds⟩ := s
    obtain ⟨a1, a2, a3, a4, a5, a6⟩ := hs
    dsimp only at a1 a2 a3 a4 a5 a6
    unfold F_draw_Codes_equipped_L2
    dsimp only
    refine ok_bind (Q := fun o => o.2 = s ∧ (o.1 = true → 0 < k)) (ok_dec (fun h => ok_some ⟨rfl, fun _ => h⟩) (fun _ => ok_some ⟨rfl, fun h => by cases h⟩)) fun o28 h28 => ?_
    obtain ⟨rfl, h28⟩ := h28
    refine ok_bif (fun hk => ?_) (fun hk => ok_some ⟨by dsimp only; omega, a3, a4, a5, a6⟩)
    have hk0 := h28 hk
    refine ok_bind (next_ok c _ a5) fun x31 h31 => ?_
    refine ok_bind (door_ok x31.1 _ h31.1) fun x33 h33 => ?_
    rw [appI_ok (by simp; omega), bind_some]
    refine ok_bind (next_ok x33.1 _ h33.1) fun x37 h37 => ?_
    rw [appI_ok (by simp; omega), bind_some, w64 (n := k - 1) (by omega) (by omega)]
    refine ok_some ⟨⟨by dsimp only; omega, by simp; omega, by simp [a3], a4, h37.1, fun d hd => ?_⟩, by dsimp only; omega⟩
    rcases mem_app1 hd with h | h
    · exact a6 d h
    · subst h; exact h33.2
  exact ok_some ⟨h27.2.2.2.1, rfl, ⟨b1, by dsimp only; rw [h27.2.2.1]; exact b2, b4, h27.1, h27.2.1, h27.2.2.2.2⟩⟩

theorem rest_ok (d : T_Door) (k : Int) (hd : DrOk d) : Ok (F_ref08_Rest d k) fun _ => True := by
  obtain ⟨h1, h2⟩ := hd
  unfold F_ref08_Rest
  rw [or_bif (or_bif rfl), bind_some]
  refine ok_dec (fun _ => ok_some trivial) (fun hn => ?_)
  refine ok_dec (fun hk => ?_) (fun hk => ?_)
  · refine ok_bind (ok_getI (by omega) (by omega)) fun _ _ => ?_
    exact ok_bind (ok_getI (by omega) (by omega)) fun _ _ => ok_some trivial
  · refine ok_bind (ok_getI (by omega) (by omega)) fun x _ => ?_
    refine ok_bind (ok_getI (by omega) (by omega)) fun y _ => ?_
    refine ok_bind (ok_loop (fun s : Int × T_Span => 0 ≤ s.1 ∧ s.1 ≤ d.Rests.length) (fun s => (d.Rests.length - s.1).toNat) (fun _ => True) (fun s hs => ?_) _ ⟨Int.le_refl _, by dsimp only; omega⟩) fun _ _ => ok_some trivial
    unfold F_ref08_Rest_L1
    refine ok_dec (fun hi => ?_) (fun hi => ok_some trivial)
    refine ok_bind (ok_getI hs.1 hi) fun x _ => ?_
    refine ok_bind (ok_getI hs.1 hi) fun y _ => ?_
    rw [w64 (by omega) (by omega)]
    exact ok_some ⟨⟨by dsimp only; omega, by dsimp only; omega⟩, by dsimp only; omega⟩
theorem floor_ok (a b : Int) (h : b ≠ 0) : Ok (F_ref05_Floor a b) fun _ => True := by
  unfold F_ref05_Floor
  rw [quoI_ok h, bind_some, remI_ok h, bind_some]
  exact ok_bind (Q := fun _ => True) (ok_dec (fun _ => ok_some trivial) (fun _ => ok_some trivial)) fun _ _ => ok_some trivial
theorem ceil_ok (a b : Int) (h : b ≠ 0) : Ok (F_ref05_Ceil a b) fun _ => True := by
  unfold F_ref05_Ceil
  exact ok_bind (floor_ok _ b h) fun _ _ => ok_some trivial
theorem inner_ok (f : T_Fan) (q : Int) (hf : CvOk f.Curve) : Ok (F_ref07_Inner f q) fun _ => True := by
  obtain ⟨h1, h2, h3⟩ := hf
  unfold F_ref07_Inner
  have e0 : getI f.Curve 0 = some f.Curve[0] := by rw [show (0 : Int) = ((0 : Nat) : Int) from rfl, getI_nat]; exact List.getElem?_eq_getElem h1
  rw [e0, bind_some]
  refine ok_dec (fun _ => ok_some trivial) (fun hq0 => ?_)
  rw [w64 (n := (f.Curve.length : Int) - 1) (by omega) (by omega)]
  refine ok_bind (ok_getI (by omega) (by omega)) fun xl hl => ?_
  refine ok_dec (fun _ => ?_) (fun hq1 => ?_)
  · refine ok_bind (ok_getI (by omega) (by omega)) fun _ _ => ?_
    exact ok_bind (ok_getI (by omega) (by omega)) fun _ _ => ok_some trivial
  refine ok_bind (Q := fun o : Int => 0 ≤ o ∧ o + 1 < f.Curve.length ∧ (∀ x, f.Curve[o.toNat]? = some x → x.Flow ≤ q) ∧ ∀ x, f.Curve[(o + 1).toNat]? = some x → q < x.Flow) (ok_loop (fun s : Int => 0 ≤ s ∧ s + 1 < f.Curve.length ∧ ∀ x, f.Curve[s.toNat]? = some x → x.Flow ≤ q) (fun s => (f.Curve.length - s).toNat) _ (fun s hs => ?_) _ ⟨Int.le_refl _, ?_, fun x hx => ?_⟩) fun o16 ho => ?_
  · obtain ⟨a1, a2, a3⟩ := hs
    unfold F_ref07_Inner_L1
    rw [w64 (n := s + 1) (by omega) (by omega)]
    refine ok_bind (ok_getI (by omega) (by omega)) fun x hx => ?_
    refine ok_dec (fun hle => ok_some ⟨⟨by omega, ?_, fun y hy => ?_⟩, by omega⟩) (fun hgt => ok_some ⟨a1, a2, a3, fun y hy => ?_⟩)
    · by_cases e : s + 1 + 1 < (f.Curve.length : Int)
      · exact e
      · have : s + 1 = (f.Curve.length : Int) - 1 := by omega
        rw [this, hl] at hx
        injection hx with hx
        subst hx
        omega
    · rw [hx] at hy
      injection hy with hy
      subst hy
      exact hle
    · rw [hx] at hy
      injection hy with hy
      subst hy
      omega
  · by_cases e : (0 : Int) + 1 < (f.Curve.length : Int)
    · exact e
    · have : (f.Curve.length : Int) - 1 = 0 := by omega
      rw [this] at hl
      have : f.Curve[0] = xl := by
        have h' : f.Curve[(0 : Int).toNat]? = some f.Curve[0] := List.getElem?_eq_getElem h1
        rw [hl] at h'
        injection h' with h'
        exact h'.symm
      rw [this] at hq0
      omega
  · have h' : f.Curve[(0 : Int).toNat]? = some f.Curve[0] := List.getElem?_eq_getElem h1
    rw [h'] at hx
    injection hx with hx
    subst hx
    omega
  · obtain ⟨a1, a2, a3, a4⟩ := ho
    refine ok_bind (ok_getI (by omega) (by omega)) fun x20 h20 => ?_
    rw [w64 (n := o16 + 1) (by omega) (by omega)]
    refine ok_bind (ok_getI (by omega) (by omega)) fun x22 h22 => ?_
    have c1 := a3 x20 h20
    have c2 := a4 x22 h22
    have c3 := h3 x20 (mem_get h20)
    have c4 := h3 x22 (mem_get h22)
    rw [w64 (n := x22.Flow - x20.Flow) (by omega) (by omega)]
    refine ok_bind (floor_ok _ _ (by omega)) fun _ _ => ?_
    exact ok_bind (ceil_ok _ _ (by omega)) fun _ _ => ok_some trivial
theorem along_ok (f : T_Fan) (b : Bool) (q : Int) (hf : CvOk f.Curve) : Ok (F_ref07_Along f b q) fun _ => True := by
  unfold F_ref07_Along
  exact ok_bif (fun _ => ok_bind (inner_ok f _ hf) fun _ _ => ok_some trivial) (fun _ => ok_bind (inner_ok f _ hf) fun _ _ => ok_some trivial)
theorem state_ok (f : T_Fan) (k q : Int) (hf : CvOk f.Curve) : Ok (F_ref07_State f k q) fun _ => True := by
  unfold F_ref07_State
  refine ok_dec (fun _ => ok_some trivial) (fun _ => ok_dec (fun _ => ok_bind (along_ok f _ q hf) fun _ _ => ok_some trivial) (fun _ => ok_dec (fun _ => ok_bind (along_ok f _ q hf) fun _ _ => ok_some trivial) (fun _ => ?_)))
  exact ok_bind (along_ok f _ q hf) fun _ _ => ok_bind (along_ok f _ q hf) fun _ _ => ok_some trivial

theorem fit_ok (c : T_draw_Codes) (a : T_Air) (s : T_Setting) (x : T_State) (hc : CodesOk c) (he : EqOk a s) (hm : MnOk a.Mine) (hf : x.Flows.length = a.Mine.Roads.length) (hp : x.Pressures.length = a.Mine.Places.length) :
    Ok (F_draw_Codes_fit c a s x) fun r => CodesOk r.1 ∧ MnOk r.2.Mine ∧ r.2.Mine.Roads.length = a.Mine.Roads.length := by
  obtain ⟨e1, e2, e3, e4, e5, e6⟩ := he
  obtain ⟨m1, m2, m3, m4⟩ := hm
  unfold F_draw_Codes_fit
  refine ok_bind (Q := fun o => CodesOk o.1 ∧ o.2.length = a.Mine.Roads.length ∧ ∀ r ∈ o.2, RdOk a.Mine.Places.length r) (ok_loop (fun t : Int × T_draw_Codes × List T_Road => 0 ≤ t.1 ∧ t.1 ≤ a.Mine.Roads.length ∧ t.2.2.length = a.Mine.Roads.length ∧ CodesOk t.2.1 ∧ ∀ r ∈ t.2.2, RdOk a.Mine.Places.length r) (fun t => (a.Mine.Roads.length - t.1).toNat) _ (fun t ht => ?_) _ ⟨Int.le_refl _, by dsimp only; omega, rfl, hc, m4⟩) fun o ho => ok_some ⟨ho.1, ⟨m1, m2, by dsimp only; omega, ho.2.2⟩, ho.2.1⟩
  obtain ⟨i, c, l⟩ := t
  obtain ⟨a1, a2, a3, a4, a5⟩ := ht
  dsimp only at a1 a2 a3 a4 a5
  unfold F_draw_Codes_fit_L1
  dsimp only
  refine ok_dec (fun hi => ?_) (fun hi => ok_some ⟨a4, a3, a5⟩)
  refine ok_bind (ok_getI a1 hi) fun x7 h7 => ?_
  refine ok_bind (ok_getI a1 (by omega)) fun x9 h9 => ?_
  refine ok_bind (next_ok c _ a4) fun x11 h11 => ?_
  have hr := a5 x7 (mem_get h7)
  obtain ⟨r1, r2, r3, r4⟩ := hr
  refine ok_bind (Q := fun _ => True) (ok_loop (fun t : Int × Int => 0 ≤ t.2 ∧ t.2 ≤ a.Doors.length) (fun t => (a.Doors.length - t.2).toNat) _ (fun t ht => ?_) _ ⟨Int.le_refl _, by dsimp only; omega⟩) fun o14 _ => ?_
  · unfold F_draw_Codes_fit_L2
    obtain ⟨v, k⟩ := t
    dsimp only at ht ⊢
    refine ok_dec (fun hk => ?_) (fun _ => ok_some trivial)
    refine ok_bind (Q := fun _ => True) (ok_bind (ok_getI ht.1 hk) fun x17 h17 => ok_dec (fun _ => ?_) (fun _ => ok_some trivial)) fun _ _ => ?_
    · refine ok_bind (ok_getI ht.1 hk) fun x20 h20 => ?_
      refine ok_bind (ok_getI ht.1 (by omega)) fun x22 h22 => ?_
      exact ok_bind (rest_ok x20 x22 (e6 x20 (mem_get h20))) fun _ _ => ok_some trivial
    · rw [w64 (by omega) (by omega)]
      exact ok_some ⟨⟨by dsimp only; omega, by dsimp only; omega⟩, by dsimp only; omega⟩
  · rw [h7, bind_some]
    refine ok_bind (ok_getI r1 (by omega)) fun x28 h28 => ?_
    refine ok_bind (ok_getI r3 (by omega)) fun x30 h30 => ?_
    refine ok_bind (Q := fun _ => True) (ok_loop (fun t : Int × Int => 0 ≤ t.2 ∧ t.2 ≤ a.Fans.length) (fun t => (a.Fans.length - t.2).toNat) _ (fun t ht => ?_) _ ⟨Int.le_refl _, by dsimp only; omega⟩) fun o33 _ => ?_
    · unfold F_draw_Codes_fit_L3
      obtain ⟨v, k⟩ := t
      dsimp only at ht ⊢
      refine ok_dec (fun hk => ?_) (fun _ => ok_some trivial)
      refine ok_bind (Q := fun _ => True) (ok_bind (ok_getI ht.1 hk) fun x17 h17 => ok_dec (fun _ => ?_) (fun _ => ok_some trivial)) fun _ _ => ?_
      · refine ok_bind (ok_getI ht.1 hk) fun x20 h20 => ?_
        refine ok_bind (ok_getI ht.1 (by omega)) fun x22 h22 => ?_
        exact ok_bind (state_ok x20 x22 _ (e3 x20 (mem_get h20))) fun _ _ => ok_some trivial
      · rw [w64 (by omega) (by omega)]
        exact ok_some ⟨⟨by dsimp only; omega, by dsimp only; omega⟩, by dsimp only; omega⟩
    · refine ok_bind (next_ok x11.1 30 h11.1) fun x45 h45 => ?_
      refine ok_bind (next_ok x45.1 30 h45.1) fun x47 h47 => ?_
      rw [bind_some, w64 (n := i + 1) (by omega) (by omega)]
      refine ok_some ⟨⟨by dsimp only; omega, by dsimp only; omega, by rw [List.length_set]; exact a3, h47.1, fun r hr => ?_⟩, by dsimp only; omega⟩
      rcases List.mem_or_eq_of_mem_set hr with h | h
      · exact a5 r h
      · subst h; exact ⟨r1, r2, r3, r4⟩
theorem doubts_ok (c : T_draw_Codes) (a : T_Air) (s : T_Setting) (hc : CodesOk c) (h1 : s.Fans.length ≤ 100) (h2 : s.Doors.length ≤ 100) : Ok (F_draw_Codes_doubts c a s) fun r => CodesOk r.1 := by
  unfold F_draw_Codes_doubts
  refine ok_bind (Q := fun o => CodesOk o.2) (ok_loop (fun t : Int × List Int × T_draw_Codes => 0 ≤ t.1 ∧ t.1 ≤ s.Fans.length ∧ (t.2.1.length : Int) = t.1 ∧ CodesOk t.2.2) (fun t => (s.Fans.length - t.1).toNat) _ (fun t ht => ?_) _ ⟨Int.le_refl _, by dsimp only; omega, rfl, hc⟩) fun o2 ho2 => ?_
  · obtain ⟨i, l, c⟩ := t
    obtain ⟨a1, a2, a3, a4⟩ := ht
    dsimp only at a1 a2 a3 a4
    unfold F_draw_Codes_doubts_L1
    dsimp only
    refine ok_dec (fun hi => ?_) (fun _ => ok_some a4)
    refine ok_bind (ok_getI a1 hi) fun x4 _ => ?_
    refine ok_bind (one_ok c 5 a4 (by decide)) fun x6 h6 => ?_
    refine ok_bind (Q := fun _ => True) (ok_bif (fun _ => ok_some trivial) (fun _ => ok_some trivial)) fun o8 _ => ?_
    rw [appI_ok (by simp; omega), bind_some, w64 (by omega) (by omega)]
    exact ok_some ⟨⟨by dsimp only; omega, by dsimp only; omega, by simp; omega, h6⟩, by dsimp only; omega⟩
  refine ok_bind (Q := fun o => CodesOk o.2) (ok_loop (fun t : Int × T_Setting × T_draw_Codes => 0 ≤ t.1 ∧ t.1 ≤ s.Doors.length ∧ (t.2.1.Doors.length : Int) = t.1 ∧ CodesOk t.2.2) (fun t => (s.Doors.length - t.1).toNat) _ (fun t ht => ?_) _ ⟨Int.le_refl _, by dsimp only; omega, rfl, ho2⟩) fun o13 ho13 => ok_some ho13
  obtain ⟨i, l, c⟩ := t
  obtain ⟨a1, a2, a3, a4⟩ := ht
  dsimp only at a1 a2 a3 a4
  unfold F_draw_Codes_doubts_L2
  dsimp only
  refine ok_dec (fun hi => ?_) (fun _ => ok_some a4)
  refine ok_bind (ok_getI a1 hi) fun x4 _ => ?_
  refine ok_bind (one_ok c 5 a4 (by decide)) fun x6 h6 => ?_
  refine ok_bind (Q := fun o => o.2 = l) (ok_bif (fun _ => ok_some rfl) (fun _ => ok_some rfl)) fun o8 h8 => ?_
  rw [h8, appI_ok (by simp; omega), bind_some, w64 (by omega) (by omega)]
  exact ok_some ⟨⟨by dsimp only; omega, by dsimp only; omega, by simp; omega, h6⟩, by dsimp only; omega⟩

theorem rem_lt {v : Int} {n : Nat} (h0 : 0 ≤ v) (hn : 1 ≤ n) : remI v (n : Int) = some (v.tmod n) ∧ 0 ≤ v.tmod n ∧ v.tmod n < (n : Int) := by
  obtain ⟨h1, h2⟩ := tmod_lt (n := (n : Int)) h0 (by omega)
  exact ⟨remI_ok (by omega), h1, h2⟩
structure MdS (n : Nat) (net : List Int) (a : T_Air) (x : T_State) (c : T_draw_Codes) (b k : Nat) : Prop where
  ne : net.length = n
  nb : ∀ q ∈ net, -(120 * (b : Int)) ≤ q ∧ q ≤ 120 * (b : Int)
  pl : a.Mine.Places.length = n
  rl : a.Mine.Roads.length ≤ k
  rd : ∀ r ∈ a.Mine.Roads, RdOk n r
  fl : x.Flows.length = a.Mine.Roads.length
  fb : FlOk x.Flows
  pr : x.Pressures.length = n
  hc : CodesOk c
theorem fl_app {l : List Int} {q : Int} (h : FlOk l) (hq : -1000 ≤ q ∧ q ≤ 1000) : FlOk (l ++ [q]) := fun x hx => by
  rcases mem_app1 hx with h' | h'
  · exact h x h'
  · subst h'; exact hq
theorem rd_app {n : Nat} {l : List T_Road} {q : T_Road} (h : ∀ r ∈ l, RdOk n r) (hq : RdOk n q) : ∀ r ∈ l ++ [q], RdOk n r := fun x hx => by
  rcases mem_app1 hx with h' | h'
  · exact h x h'
  · subst h'; exact hq
theorem made_L3 (o10 : List T_Place × T_draw_Codes) (hn : 2 ≤ o10.1.length) (hn2 : o10.1.length ≤ 12) (s : Int × List Int × T_Air × T_State × T_draw_Codes) (k0 : Nat) (hk : s.1 = (k0 : Int)) (hk5 : k0 ≤ 5) (hs : MdS o10.1.length s.2.1 s.2.2.1 s.2.2.2.1 s.2.2.2.2 (5 - k0) (5 - k0)) :
    Ok (loopC (F_draw_Codes_Made_L3 o10) s) fun r => MdS o10.1.length r.1 r.2.1 r.2.2.1 r.2.2.2 5 5 := by
  refine ok_loop (fun s : Int × List Int × T_Air × T_State × T_draw_Codes => ∃ k : Nat, s.1 = (k : Int) ∧ k ≤ 5 ∧ MdS o10.1.length s.2.1 s.2.2.1 s.2.2.2.1 s.2.2.2.2 (5 - k) (5 - k)) (fun s => s.1.toNat) _ (fun s hs => ?_) _ ⟨k0, hk, hk5, hs⟩
  obtain ⟨k', net, a, x, c⟩ := s
  obtain ⟨k, hkk, hk5, hs⟩ := hs
  dsimp only at hkk hs
  subst hkk
  obtain ⟨m1, m2, m3, m4, m5, m6, m7, m8, m9⟩ := hs
  unfold F_draw_Codes_Made_L3
  dsimp only
  refine ok_dec (fun hk => ?_) (fun hk => ok_some ⟨m1, fun q hq => by have := m2 q hq; omega, m3, by dsimp only; omega, m5, m6, m7, m8, m9⟩)
  refine ok_bind (next_lt c _ m9 (by omega)) fun x34 h34 => ?_
  rw [w64 (n := (o10.1.length : Int) - 1) (by omega) (by omega)]
  refine ok_bind (next_lt x34.1 _ h34.1 (by omega)) fun x36 h36 => ?_
  rw [w64 (n := x34.2 + 1) (by omega) (by omega), w64 (n := x34.2 + 1 + x36.2) (by omega) (by omega)]
  obtain ⟨q1, q2, q3⟩ := rem_lt (v := x34.2 + 1 + x36.2) (n := o10.1.length) (by omega) (by omega)
  rw [q1, bind_some]
  refine ok_bind (road_ok x36.1 _ _ h36.1) fun x40 h40 => ?_
  refine ok_bind (one_ok x40.1 7 h40.1 (by decide)) fun x42 h42 => ?_
  refine ok_bind (range_ok x42.1 (-60) 60 h42 (by decide) (by decide) (by decide)) fun x44 h44 => ?_
  refine ok_bind (Q := fun o : Int × T_Air × T_State => -60 ≤ o.1 ∧ o.1 ≤ 60 ∧ o.2.1.Mine = a.Mine ∧ o.2.2 = x) (ok_bif (fun _ => ok_some ⟨by show (-60 : Int) ≤ 0; decide, by show (0 : Int) ≤ 60; decide, rfl, rfl⟩) (fun _ => ok_some ⟨h44.2.1, h44.2.2, rfl, rfl⟩)) fun o46 h46 => ?_
  obtain ⟨b1, b2, b3, b4⟩ := h46
  have hRd : RdOk o10.1.length (T_Road.mk x40.2.From x40.2.To x40.2.Length x40.2.Area x40.2.Walk x42.2 x40.2.Rest x40.2.Lift) := ⟨by show 0 ≤ x40.2.From; rw [h40.2.1]; omega, by show x40.2.From < _; rw [h40.2.1]; omega, by show 0 ≤ x40.2.To; rw [h40.2.2]; omega, by show x40.2.To < _; rw [h40.2.2]; omega⟩
  obtain ⟨r1, r2, r3, r4⟩ := hRd
  dsimp only at r1 r2 r3 r4
  rw [b3, appI_ok (by simp; omega), bind_some, b4, appI_ok (by simp; omega), bind_some]
  refine ok_bind (ok_getI r1 (by omega)) fun x52 h52 => ?_
  refine ok_bind (ok_getI r1 (by omega)) fun x54 h54 => ?_
  have n52 := m2 x52 (mem_get h52)
  rw [w64 (n := x52 + o46.1) (by omega) (by omega)]
  refine ok_bind (ok_getI r3 (by rw [List.length_set]; omega)) fun x56 h56 => ?_
  refine ok_bind (ok_getI r3 (by rw [List.length_set]; omega)) fun x58 h58 => ?_
  have n1 : ∀ q ∈ net.set x40.2.From.toNat (x52 + o46.1), -(120 * ((5 - k : Nat) : Int) + 60) ≤ q ∧ q ≤ 120 * ((5 - k : Nat) : Int) + 60 := fun q hq => by
    rcases List.mem_or_eq_of_mem_set hq with h | h
    · have := m2 q h; omega
    · subst h; omega
  have n56 := n1 x56 (mem_get h56)
  rw [w64 (n := x56 - o46.1) (by omega) (by omega), w64 (n := (k : Int) - 1) (by omega) (by omega)]
  refine ok_some ⟨⟨k - 1, by dsimp only; omega, by omega, ⟨by rw [List.length_set, List.length_set]; exact m1, fun q hq => ?_, m3, by simp; omega, rd_app m5 ⟨r1, r2, r3, r4⟩, by simp [m6], fl_app m7 (by omega), m8, h44.1⟩⟩, by dsimp only; omega⟩
  rcases List.mem_or_eq_of_mem_set hq with h | h
  · have := n1 q h; omega
  · subst h; omega
theorem made_L4 (o3 : List T_Place) (o10 : List T_Place × T_draw_Codes) (o27 : List Int × T_Air × T_State × T_draw_Codes) (h3 : 1 ≤ o3.length) (h32 : o3.length ≤ o10.1.length) (hn2 : o10.1.length ≤ 12) (hs : MdS o10.1.length o27.1 o27.2.1 o27.2.2.1 o27.2.2.2 5 5) :
    Ok (loopC (F_draw_Codes_Made_L4 o3 o10 o27) ((o3.length : Int), (T_Air.mk o27.2.1.Mine [] []), o27.2.2.1, o27.2.2.2)) fun r => MdS o10.1.length o27.1 r.1 r.2.1 r.2.2 5 17 ∧ r.1.Fans = [] ∧ r.1.Doors = [] := by
  obtain ⟨m1, m2, m3, m4, m5, m6, m7, m8, m9⟩ := hs
  refine ok_loop (fun s : Int × T_Air × T_State × T_draw_Codes => ∃ i : Nat, s.1 = (i : Int) ∧ i ≤ o10.1.length ∧ MdS o10.1.length o27.1 s.2.1 s.2.2.1 s.2.2.2 5 (5 + i)) (fun s => (o10.1.length - s.1).toNat) _ (fun s hs => ?_) _ ⟨o3.length, rfl, h32, ⟨m1, m2, m3, by dsimp only; omega, m5, m6, m7, m8, m9⟩⟩
  obtain ⟨i', a, x, c⟩ := s
  obtain ⟨i, hii, hil, hs⟩ := hs
  dsimp only at hii hs
  subst hii
  obtain ⟨m1, m2, m3, m4, m5, m6, m7, m8, m9⟩ := hs
  unfold F_draw_Codes_Made_L4
  dsimp only
  refine ok_dec (fun hk => ?_) (fun hk => ok_some ⟨⟨m1, m2, m3, by dsimp only; omega, m5, m6, m7, m8, m9⟩, rfl, rfl⟩)
  refine ok_bind (next_lt c _ m9 (by omega)) fun x63 h63 => ?_
  refine ok_bind (road_ok x63.1 _ _ h63.1) fun x65 h65 => ?_
  refine ok_bind (ok_getI (by omega) (by omega)) fun x67 h67 => ?_
  have n67 := m2 x67 (mem_get h67)
  refine ok_bind (one_ok x65.1 2 h65.1 (by decide)) fun x69 h69 => ?_
  rw [w64 (n := 0 - x67) (by omega) (by omega), w64 (n := 0 - (0 - x67)) (by omega) (by omega)]
  have hR : RdOk o10.1.length x65.2 := ⟨by rw [h65.2.1]; omega, by rw [h65.2.1]; omega, by rw [h65.2.2]; omega, by rw [h65.2.2]; omega⟩
  refine ok_bind (Q := fun o : Int × T_Road × T_Air × T_State => -1000 ≤ o.1 ∧ o.1 ≤ 1000 ∧ RdOk o10.1.length o.2.1 ∧ o.2.2.1.Mine = a.Mine ∧ o.2.2.2 = x) (ok_bif (fun _ => ok_some ⟨by dsimp only; omega, by dsimp only; omega, ⟨hR.2.2.1, hR.2.2.2, hR.1, hR.2.1⟩, rfl, rfl⟩) (fun _ => ok_some ⟨by dsimp only; omega, by dsimp only; omega, hR, rfl, rfl⟩)) fun o71 h71 => ?_
  obtain ⟨b1, b2, b3, b4, b5⟩ := h71
  rw [b4, appI_ok (by simp; omega), bind_some, b5, appI_ok (by simp; omega), bind_some, w64 (by omega) (by omega)]
  exact ok_some ⟨⟨i + 1, by dsimp only; omega, by omega, ⟨m1, m2, m3, by simp; omega, rd_app m5 b3, by simp [m6], fl_app m7 ⟨b1, b2⟩, m8, h69⟩⟩, by dsimp only; omega⟩
theorem made_ok (c : T_draw_Codes) (hc : CodesOk c) : Ok (F_draw_Codes_Made c) fun r => CodesOk r.1 ∧ MnOk r.2.1.Mine ∧ r.2.2.2.Flows.length = r.2.1.Mine.Roads.length ∧ FlOk r.2.2.2.Flows := by
  unfold F_draw_Codes_Made
  refine ok_bind (one_ok c 3 hc (by decide)) fun x1 h1 => ?_
  refine ok_bind (Q := fun o : List T_Place => 1 ≤ o.length ∧ o.length ≤ 2) (ok_bif (fun _ => ?_) (fun _ => ok_some ⟨by simp, by simp⟩)) fun o3 h3 => ?_
  · rw [appI_ok (by simp), bind_some]
    exact ok_some ⟨by simp, by simp⟩
  refine ok_bind (next_lt x1.1 5 h1 (by decide)) fun x7 h7 => ?_
  refine ok_bind (Q := fun o : List T_Place × T_draw_Codes => o3.length ≤ o.1.length ∧ o.1.length ≤ 6 ∧ CodesOk o.2) (ok_loop (fun s : Int × List T_Place × T_draw_Codes => 0 ≤ s.1 ∧ o3.length ≤ s.2.1.length ∧ (s.2.1.length : Int) + s.1 ≤ 6 ∧ CodesOk s.2.2) (fun s => s.1.toNat) _ (fun s hs => ?_) _ ⟨h7.2.1, Nat.le_refl _, by dsimp only; omega, h7.1⟩) fun o10 h10 => ?_
  · obtain ⟨k, l, c⟩ := s
    obtain ⟨a1, a2, a3, a4⟩ := hs
    dsimp only at a1 a2 a3 a4
    unfold F_draw_Codes_Made_L1
    dsimp only
    refine ok_dec (fun hk => ?_) (fun hk => ok_some ⟨a2, by dsimp only; omega, a4⟩)
    refine ok_bind (next_ok c 100 a4) fun x12 h12 => ?_
    rw [appI_ok (by simp; omega), bind_some, w64 (n := k - 1) (by omega) (by omega)]
    exact ok_some ⟨⟨by dsimp only; omega, by simp; omega, by simp; omega, h12.1⟩, by dsimp only; omega⟩
  obtain ⟨p1, p2, p3⟩ := h10
  rw [makI_ok (by omega) (by omega), bind_some, Int.toNat_natCast]
  refine ok_bind (Q := fun o : List Int × T_draw_Codes => o.1.length = o10.1.length ∧ CodesOk o.2) (ok_loop (fun s : Int × List Int × T_draw_Codes => 0 ≤ s.1 ∧ s.2.1.length = o10.1.length ∧ CodesOk s.2.2) (fun s => (o10.1.length - s.1).toNat) _ (fun s hs => ?_) _ ⟨by dsimp only; omega, by simp, p3⟩) fun o19 h19 => ?_
  · obtain ⟨k, l, c⟩ := s
    obtain ⟨a1, a2, a3⟩ := hs
    dsimp only at a1 a2 a3
    unfold F_draw_Codes_Made_L2
    dsimp only
    refine ok_dec (fun hk => ?_) (fun hk => ok_some ⟨a2, a3⟩)
    refine ok_bind (range_ok c (-4000) 4000 a3 (by decide) (by decide) (by decide)) fun x21 h21 => ?_
    refine ok_bind (ok_getI a1 (by omega)) fun x23 h23 => ?_
    rw [w64 (by omega) (by omega)]
    exact ok_some ⟨⟨by dsimp only; omega, by rw [List.length_set]; exact a2, h21.1⟩, by dsimp only; omega⟩
  rw [bind_some]
  have hz : ∀ (b : Nat), ∀ q ∈ List.replicate o10.1.length (0 : Int), -(120 * (b : Int)) ≤ q ∧ q ≤ 120 * (b : Int) := fun b q hq => by
    have := List.eq_of_mem_replicate hq
    omega
  refine ok_bind (Q := fun o : List Int × T_Air × T_State × T_draw_Codes => MdS o10.1.length o.1 o.2.1 o.2.2.1 o.2.2.2 5 5) (ok_dec (fun hn => ?_) (fun hn => ok_some ⟨by simp, hz 5, rfl, by simp, (fun r hr => by cases hr), rfl, (fun q hq => by cases hq), h19.1, h19.2⟩)) fun o27 h27 => ?_
  · refine ok_bind (next_lt o19.2 6 h19.2 (by decide)) fun x29 h29 => ?_
    obtain ⟨k, hk⟩ : ∃ k : Nat, x29.2 = (k : Int) := ⟨x29.2.toNat, by omega⟩
    refine ok_bind (made_L3 o10 (by omega) (by omega) _ k hk (by omega) ⟨by simp, hz _, rfl, by simp, (fun r hr => by cases hr), rfl, (fun q hq => by cases hq), h19.1, h29.1⟩) fun o32 h32 => ok_some ?_
    obtain ⟨m1, m2, m3, m4, m5, m6, m7, m8, m9⟩ := h32
    exact ⟨m1, m2, m3, m4, m5, m6, m7, m8, m9⟩
  refine ok_bind (made_L4 o3 o10 o27 h3.1 p1 (by omega) h27) fun o61 h61 => ?_
  obtain ⟨⟨m1, m2, m3, m4, m5, m6, m7, m8, m9⟩, _, _⟩ := h61
  refine ok_bind (equipped_ok o61.2.2 o61.1.Mine m9 (by omega)) fun x77 h77 => ?_
  have hM : MnOk x77.2.1.Mine := by rw [h77.2.1]; exact ⟨by omega, by omega, by omega, by rw [m3]; exact m5⟩
  refine ok_bind (fit_ok x77.1 x77.2.1 x77.2.2 o61.2.1 h77.1 h77.2.2 hM (by rw [h77.2.1]; exact m6) (by rw [h77.2.1]; omega)) fun x79 h79 => ?_
  have hE := h77.2.2
  refine ok_bind (doubts_ok x79.1 x79.2 x77.2.2 h79.1 (by have := hE.f1; have := hE.f2; omega) (by have := hE.d1; have := hE.d2; omega)) fun x81 h81 => ok_some ⟨h81, h79.2.1, ?_, m7⟩
  dsimp only
  rw [h79.2.2, h77.2.1]
  exact m6
def SpOk (l : List T_Span) (f : List Int) : Prop := l.length = f.length ∧ ∀ (i : Nat) (s : T_Span) (q : Int), l[i]? = some s → f[i]? = some q → s.Low ≤ q ∧ q ≤ s.High ∧ -2000 ≤ s.Low ∧ s.High ≤ 2000
theorem spans_ok (c : T_draw_Codes) (f : List Int) (hc : CodesOk c) (hf : FlOk f) (hl : f.length ≤ 100) : Ok (F_draw_Codes_Spans c f) fun r => SpOk r.2 f := by
  unfold F_draw_Codes_Spans
  refine ok_bind (Q := fun o : List T_Span × T_draw_Codes => SpOk o.1 f) (ok_loop (fun s : Int × List T_Span × T_draw_Codes => ∃ i : Nat, s.1 = (i : Int) ∧ i ≤ f.length ∧ SpOk s.2.1 (f.take i) ∧ CodesOk s.2.2) (fun s => (f.length - s.1).toNat) _ (fun s hs => ?_) _ ⟨0, rfl, Nat.zero_le _, ⟨by simp, fun i s q h => by simp at h⟩, hc⟩) fun o2 h2 => ok_some h2
  obtain ⟨i', l, c⟩ := s
  obtain ⟨i, rfl, hi, hs, a4⟩ := hs
  dsimp only at hs a4
  obtain ⟨s1, s2⟩ := hs
  have hll : l.length = i := by rw [s1, List.length_take]; omega
  unfold F_draw_Codes_Spans_L1
  dsimp only
  refine ok_dec (fun hk => ?_) (fun hk => ok_some ?_)
  · have hk' : i < f.length := by omega
    rw [getI_nat, List.getElem?_eq_getElem hk', bind_some]
    refine ok_bind (next_lt c 12 a4 (by decide)) fun x6 h6 => ?_
    rw [bind_some]
    refine ok_bind (next_lt x6.1 12 h6.1 (by decide)) fun x10 h10 => ?_
    have hq := hf f[i] (List.getElem_mem hk')
    rw [appI_ok (by simp; omega), bind_some, w64 (n := (i : Int) + 1) (by omega) (by omega), w64 (n := f[i] - x6.2) (by omega) (by omega), w64 (n := f[i] + x10.2) (by omega) (by omega)]
    refine ok_some ⟨⟨i + 1, rfl, hk', ⟨by simp [hll]; omega, fun j s q hj hq' => ?_⟩, h10.1⟩, by dsimp only; omega⟩
    dsimp only at hj
    by_cases hji : j < i
    · rw [List.getElem?_append_left (by omega)] at hj
      refine s2 j s q hj ?_
      rw [List.getElem?_take] at hq' ⊢
      rw [if_pos (by omega)] at hq'
      rw [if_pos hji]
      exact hq'
    · have hj1 : j < i + 1 := by
        have := (List.getElem?_eq_some_iff.1 hj).1
        simp at this
        omega
      have : j = i := by omega
      subst this
      rw [List.getElem?_append_right (by omega), hll, Nat.sub_self] at hj
      simp at hj
      subst hj
      rw [List.getElem?_take, if_pos (by omega), List.getElem?_eq_getElem hk'] at hq'
      injection hq' with hq'
      subst hq'
      dsimp only
      omega
  · have : i = f.length := by omega
    subst this
    rw [List.take_length] at s1 s2
    exact ⟨s1, s2⟩
structure AirOk (r : T_Air × List T_Span × List Int) : Prop where
  m : MnOk r.1.Mine
  f : r.2.2.length = r.1.Mine.Roads.length
  s : SpOk r.2.1 r.2.2
  b : FlOk r.2.2

theorem over {α σ S ρ : Type} (l : List α) (st : σ → α → σ) (mk : Int → σ → S) (fin : σ → ρ) {g : S → Option (S ⊕ ρ)} (I : Nat → σ → Prop)
    (h : ∀ (i : Nat) (x : α) (s : σ), l[i]? = some x → I i s → g (mk i s) = some (.inl (mk ((i : Int) + 1) (st s x))) ∧ I (i + 1) (st s x))
    (hend : ∀ s, I l.length s → g (mk (l.length : Int) s) = some (.inr (fin s))) (s : σ) (h0 : I 0 s) : loopC g (mk 0 s) = some (fin (l.foldl st s)) ∧ I l.length (l.foldl st s) := by
  have key : ∀ (m i : Nat) (s : σ), i + m = l.length → I i s → loopC g (mk (i : Int) s) = some (fin ((l.drop i).foldl st s)) ∧ I l.length ((l.drop i).foldl st s) := by
    intro m
    induction m with
    | zero =>
      intro i s hi hI
      have : i = l.length := by omega
      subst this
      rw [loopC_inr (hend s hI), List.drop_length]
      exact ⟨rfl, hI⟩
    | succ m ih =>
      intro i s hi hI
      have hx : i < l.length := by omega
      obtain ⟨h1, h2⟩ := h i _ s (List.getElem?_eq_getElem hx) hI
      rw [loopC_inl h1, show ((i : Int) + 1) = ((i + 1 : Nat) : Int) by omega]
      obtain ⟨h3, h4⟩ := ih (i + 1) _ (by omega) h2
      rw [List.drop_eq_getElem_cons hx, List.foldl_cons]
      exact ⟨h3, h4⟩
  have := key l.length 0 s (by omega) h0
  rwa [List.drop_zero] at this
theorem foldl_app {α β : Type} (f : α → List β) : ∀ (l : List α) (o : List β), l.foldl (fun o x => o ++ f x) o = o ++ l.flatMap f
  | [], o => by simp
  | x :: l, o => by rw [List.foldl_cons, foldl_app f l, List.flatMap_cons, List.append_assoc]
theorem coll {α β : Type} (l : List α) (f : α → List β) {g : Int × List β → Option ((Int × List β) ⊕ List β)} (hf : ∀ x ∈ l, (f x).length ≤ 2)
    (h : ∀ (i : Nat) (x : α) (out : List β), l[i]? = some x → out.length ≤ 2 * i → g ((i : Int), out) = some (.inl ((i : Int) + 1, out ++ f x)))
    (hend : ∀ out, g ((l.length : Int), out) = some (.inr out)) : loopC g (0, []) = some (l.flatMap f) ∧ (l.flatMap f).length ≤ 2 * l.length := by
  have := over l (fun (o : List β) x => o ++ f x) (fun i o => ((i, o) : Int × List β)) id (g := g) (fun i o => o.length ≤ 2 * i) (fun i x o hx hI => ⟨h i x o hx hI, by
    have := hf x (List.mem_of_getElem? hx)
    rw [List.length_append]; omega⟩) (fun o _ => hend o) [] (by simp)
  rw [foldl_app, List.nil_append] at this
  exact this

/-! ### what is right of a mine -/
def plErr (p : T_Place) : Bool := decide (p.Height < -10000 ∨ 10000 < p.Height)
def spIn (s : T_Span) (a b : Int) : Bool := decide (a ≤ s.Low ∧ s.Low ≤ s.High ∧ s.High ≤ b)
def rdErr (n : Int) (r : T_Road) : Int :=
  if r.From < 0 ∨ n ≤ r.From ∨ r.To < 0 ∨ n ≤ r.To ∨ r.From = r.To then 4
  else if r.Length < 1 ∨ 100000 < r.Length ∨ r.Area < 1 ∨ 1000 < r.Area ∨ spIn r.Rest 1 262144 = false ∨ spIn r.Lift (-2199023255552) 2199023255552 = false then 1 else 0
def firstE {α : Type} (e : α → Int) : List α → Int
  | [] => 0
  | x :: l => if e x = 0 then firstE e l else e x
def chkM (m : T_Mine) : Int :=
  if 64 < (m.Places.length : Int) ∨ 128 < (m.Roads.length : Int) then 2 else if m.Places.all (fun p => !plErr p) then firstE (rdErr m.Places.length) m.Roads else 1
theorem all_loop {α : Type} (l : List α) (bad : α → Bool) {g : Int → Option (Int ⊕ (Unit ⊕ Unit))} (h : ∀ (i : Nat) (x : α), l[i]? = some x → g (i : Int) = bif bad x then some (.inr (.inl ())) else some (.inl ((i : Int) + 1)))
    (hend : g (l.length : Int) = some (.inr (.inr ()))) : loopC g 0 = some (if l.all (fun x => !bad x) then .inr () else .inl ()) := by
  have key : ∀ (m i : Nat), i + m = l.length → loopC g (i : Int) = some (if (l.drop i).all (fun x => !bad x) then .inr () else .inl ()) := by
    intro m
    induction m with
    | zero =>
      intro i hi
      have : i = l.length := by omega
      subst this
      rw [loopC_inr hend, List.drop_length]
      rfl
    | succ m ih =>
      intro i hi
      have hx : i < l.length := by omega
      have h1 := h i _ (List.getElem?_eq_getElem hx)
      rw [List.drop_eq_getElem_cons hx, List.all_cons]
      cases hb : bad l[i] with
      | true => rw [hb] at h1; rw [loopC_inr h1]; rfl
      | false =>
        rw [hb] at h1
        rw [loopC_inl h1, show ((i : Int) + 1) = ((i + 1 : Nat) : Int) by omega, ih (i + 1) (by omega), Bool.not_false, Bool.true_and]
  have := key l.length 0 (by omega)
  rwa [List.drop_zero] at this
theorem first_loop {α : Type} (l : List α) (e : α → Int) {g : Int → Option (Int ⊕ (Int ⊕ Unit))} (h : ∀ (i : Nat) (x : α), l[i]? = some x → g (i : Int) = if e x = 0 then some (.inl ((i : Int) + 1)) else some (.inr (.inl (e x))))
    (hend : g (l.length : Int) = some (.inr (.inr ()))) : loopC g 0 = some (if firstE e l = 0 then .inr () else .inl (firstE e l)) := by
  have key : ∀ (m i : Nat), i + m = l.length → loopC g (i : Int) = some (if firstE e (l.drop i) = 0 then .inr () else .inl (firstE e (l.drop i))) := by
    intro m
    induction m with
    | zero =>
      intro i hi
      have : i = l.length := by omega
      subst this
      rw [loopC_inr hend, List.drop_length]
      rfl
    | succ m ih =>
      intro i hi
      have hx : i < l.length := by omega
      have h1 := h i _ (List.getElem?_eq_getElem hx)
      rw [List.drop_eq_getElem_cons hx]
      unfold firstE
      by_cases he : e l[i] = 0
      · rw [if_pos he] at h1 ⊢
        rw [loopC_inl h1, show ((i : Int) + 1) = ((i + 1 : Nat) : Int) by omega, ih (i + 1) (by omega)]
      · rw [if_neg he] at h1 ⊢
        rw [loopC_inr h1, if_neg he]
  have := key l.length 0 (by omega)
  rwa [List.drop_zero] at this
theorem span_eq (s : T_Span) (a b : Int) : F_plan_spanIn s a b = some (spIn s a b) ∧ F_ref01_Span s a b = some (spIn s a b) := by
  have : (bif decide (a ≤ s.Low) then bif decide (s.Low ≤ s.High) then some (decide (s.High ≤ b)) else some false else some false) = some (spIn s a b) := and_bif (and_bif rfl)
  exact ⟨this, this⟩
theorem pick_rd {n : Int} {r : T_Road} {β : Type} {i : β} : (bif decide (r.From < 0 ∨ n ≤ r.From ∨ r.To < 0 ∨ n ≤ r.To ∨ r.From = r.To) then some (Sum.inr (Sum.inl (4 : Int))) else
    bif decide (r.Length < 1 ∨ 100000 < r.Length ∨ r.Area < 1 ∨ 1000 < r.Area ∨ spIn r.Rest 1 262144 = false ∨ spIn r.Lift (-2199023255552) 2199023255552 = false) then some (Sum.inr (Sum.inl (1 : Int))) else some (Sum.inl i) : Option (β ⊕ (Int ⊕ Unit))) =
    if rdErr n r = 0 then some (.inl i) else some (.inr (.inl (rdErr n r))) := by
  unfold rdErr
  by_cases h1 : r.From < 0 ∨ n ≤ r.From ∨ r.To < 0 ∨ n ≤ r.To ∨ r.From = r.To
  · rw [bif_pos h1, if_pos h1, if_neg (by decide)]
  · rw [bif_neg h1, if_neg h1]
    by_cases h2 : r.Length < 1 ∨ 100000 < r.Length ∨ r.Area < 1 ∨ 1000 < r.Area ∨ spIn r.Rest 1 262144 = false ∨ spIn r.Lift (-2199023255552) 2199023255552 = false
    · rw [bif_pos h2, if_pos h2, if_neg (by decide)]
    · rw [bif_neg h2, if_neg h2, if_pos rfl]
theorem not_some {b : Bool} : (some (!b) : Option Bool) = some (decide (b = false)) := by cases b <;> rfl
theorem not_dec' {b : Bool} {x y : Option Bool} : (bif !b then x else y) = bif decide (b = false) then x else y := by cases b <;> rfl
theorem pcheck_eq (m : T_Mine) (hr : m.Roads.length ≤ 1000000000 ∧ m.Places.length ≤ 1000000000) : F_plan_Check m = some (chkM m) ∧ F_ref01_Check m = some (chkM m) := by
  obtain ⟨hr, hp⟩ := hr
  have a1 : loopC (F_plan_Check_L1 m) 0 = some (if m.Places.all (fun p => !plErr p) then .inr () else .inl ()) := by
    refine all_loop m.Places plErr (fun i x hx => ?_) (by unfold F_plan_Check_L1; rw [bif_neg (by omega)])
    have hi := (List.getElem?_eq_some_iff.1 hx).1
    unfold F_plan_Check_L1
    rw [bif_pos (by omega), getI_nat, hx, bind_some, or_bif rfl, bind_some, w64 (by omega) (by omega)]
    rfl
  have a2 : loopC (F_ref01_Check_L1 m) 0 = some (if m.Places.all (fun p => !plErr p) then .inr () else .inl ()) := by
    refine all_loop m.Places plErr (fun i x hx => ?_) (by unfold F_ref01_Check_L1; rw [bif_neg (by omega)])
    have hi := (List.getElem?_eq_some_iff.1 hx).1
    unfold F_ref01_Check_L1
    rw [bif_pos (by omega), getI_nat, hx, bind_some, or_bif rfl, bind_some, w64 (by omega) (by omega)]
    rfl
  have b1 : loopC (F_plan_Check_L2 m) 0 = some (if firstE (rdErr m.Places.length) m.Roads = 0 then .inr () else .inl (firstE (rdErr m.Places.length) m.Roads)) := by
    refine first_loop m.Roads _ (fun i x hx => ?_) (by unfold F_plan_Check_L2; rw [bif_neg (by omega)])
    have hi := (List.getElem?_eq_some_iff.1 hx).1
    unfold F_plan_Check_L2
    rw [bif_pos (by omega), getI_nat, hx, bind_some, or_bif (or_bif (or_bif (or_bif rfl))), bind_some, or_bif (or_bif (or_bif rfl)), bind_some, (span_eq _ _ _).1, bind_some, (span_eq _ _ _).1, bind_some, not_dec', not_some, or_bif rfl, bind_some, w64 (by omega) (by omega), ← pick_rd]
    by_cases h1 : x.From < 0 ∨ (m.Places.length : Int) ≤ x.From ∨ x.To < 0 ∨ (m.Places.length : Int) ≤ x.To ∨ x.From = x.To
    · rw [bif_pos h1, bif_pos h1]
    · rw [bif_neg h1, bif_neg h1]
      by_cases h2 : x.Length < 1 ∨ 100000 < x.Length ∨ x.Area < 1 ∨ 1000 < x.Area
      · rw [bif_pos h2, bif_pos (by rcases h2 with h | h | h | h; exact .inl h; exact .inr (.inl h); exact .inr (.inr (.inl h)); exact .inr (.inr (.inr (.inl h))))]
      · rw [bif_neg h2]
        by_cases h3 : spIn x.Rest 1 262144 = false ∨ spIn x.Lift (-2199023255552) 2199023255552 = false
        · rw [bif_pos h3, bif_pos (.inr (.inr (.inr (.inr h3))))]
        · rw [bif_neg h3, bif_neg (fun h => by rcases h with h | h | h | h | h; exact h2 (.inl h); exact h2 (.inr (.inl h)); exact h2 (.inr (.inr (.inl h))); exact h2 (.inr (.inr (.inr h))); exact h3 h)]
  have b2 : loopC (F_ref01_Check_L2 m) 0 = some (if firstE (rdErr m.Places.length) m.Roads = 0 then .inr () else .inl (firstE (rdErr m.Places.length) m.Roads)) := by
    refine first_loop m.Roads _ (fun i x hx => ?_) (by unfold F_ref01_Check_L2; rw [bif_neg (by omega)])
    have hi := (List.getElem?_eq_some_iff.1 hx).1
    unfold F_ref01_Check_L2
    rw [bif_pos (by omega), getI_nat, hx, bind_some, or_bif (or_bif (or_bif (or_bif rfl))), bind_some, (span_eq _ _ _).2, bind_some, (span_eq _ _ _).2, bind_some, not_dec', not_some, or_bif (or_bif (or_bif (or_bif (or_bif rfl)))), bind_some, w64 (by omega) (by omega), ← pick_rd]
  unfold F_plan_Check F_ref01_Check chkM
  constructor
  all_goals
    rw [or_bif rfl, bind_some]
    first | rw [a1, bind_some, b1] | rw [a2, bind_some, b2]
    by_cases h : 64 < (m.Places.length : Int) ∨ 128 < (m.Roads.length : Int)
    · rw [bif_pos h, if_pos h]
    · rw [bif_neg h, if_neg h]
      by_cases h2 : m.Places.all (fun p => !plErr p) = true
      · rw [if_pos h2, if_pos h2]
        dsimp only [Sum.elim_inr]
        rw [bind_some]
        by_cases h3 : firstE (rdErr m.Places.length) m.Roads = 0
        · rw [if_pos h3]
          dsimp only [Sum.elim_inr]
          rw [h3]
        · rw [if_neg h3]
          rfl
      · rw [if_neg h2, if_neg h2]
        rfl
structure Rt (m : T_Mine) : Prop where
  p2 : m.Places.length ≤ 64
  r1 : m.Roads.length ≤ 128
  rd : ∀ r ∈ m.Roads, RdOk m.Places.length r
theorem first0 {α : Type} {e : α → Int} : ∀ {l : List α}, firstE e l = 0 → ∀ x ∈ l, e x = 0
  | [], _, x, hx => by cases hx
  | y :: l, h, x, hx => by
    unfold firstE at h
    by_cases he : e y = 0
    · rw [if_pos he] at h
      rcases List.mem_cons.1 hx with rfl | hx
      · exact he
      · exact first0 h x hx
    · rw [if_neg he] at h
      exact absurd h he
theorem rt_of {m : T_Mine} (h : chkM m = 0) : Rt m := by
  unfold chkM at h
  split at h
  · cases h
  · split at h
    · rename_i h1 h2
      refine ⟨by omega, by omega, fun r hr => ?_⟩
      have := first0 h r hr
      unfold rdErr at this
      split at this
      · cases this
      · unfold RdOk
        omega
    · cases h

abbrev Arc := T_recirculate_arc
def rd0 (m : T_Mine) (i : Nat) : T_Road := (m.Roads[i]?).getD ⟨0, 0, 0, 0, false, true, ⟨0, 0⟩, ⟨0, 0⟩⟩
def sp0 (f : List T_Span) (i : Nat) : T_Span := (f[i]?).getD ⟨0, 0⟩
def can (m : T_Mine) (f : List T_Span) (i : Nat) (d : Bool) : Bool := bif (rd0 m i).Closed then false else bif d then decide ((sp0 f i).Low < 0) else decide (0 < (sp0 f i).High)
def arcD (m : T_Mine) (i : Nat) (d : Bool) : Arc := bif d then ⟨i, (rd0 m i).To, (rd0 m i).From⟩ else ⟨i, (rd0 m i).From, (rd0 m i).To⟩
def arcsAt (m : T_Mine) (f : List T_Span) (i : Nat) : List Arc := (bif can m f i false then [arcD m i false] else []) ++ (bif can m f i true then [arcD m i true] else [])
def arcsF (m : T_Mine) (f : List T_Span) : List Arc := (List.range m.Roads.length).flatMap (arcsAt m f)
def rtB (m : T_Mine) (f : List T_Span) : Bool := decide (chkM m = 0) && decide (f.length = m.Roads.length)
def Sz (m : T_Mine) : Prop := m.Roads.length ≤ 1000000000 ∧ m.Places.length ≤ 1000000000

theorem arcsAt_len (m : T_Mine) (f : List T_Span) (i : Nat) : (arcsAt m f i).length ≤ 2 := by
  unfold arcsAt
  cases can m f i false <;> cases can m f i true <;> simp
theorem rd0_get {m : T_Mine} {i : Nat} (h : i < m.Roads.length) : m.Roads[i]? = some (rd0 m i) := by
  unfold rd0
  rw [List.getElem?_eq_getElem h]
  rfl
theorem sp0_get {f : List T_Span} {i : Nat} (h : i < f.length) : f[i]? = some (sp0 f i) := by
  unfold sp0
  rw [List.getElem?_eq_getElem h]
  rfl
theorem range_get {n i x : Nat} (h : (List.range n)[i]? = some x) : x = i ∧ i < n := by
  obtain ⟨h1, h2⟩ := List.getElem?_eq_some_iff.1 h
  rw [List.getElem_range] at h2
  rw [List.length_range] at h1
  exact ⟨h2.symm, h1⟩
theorem arcs_eq (m : T_Mine) (f : List T_Span) (hs : Sz m) : F_recirculate_arcs m f = some (if rtB m f then (arcsF m f, true) else ([], false)) := by
  unfold F_recirculate_arcs F_plan_Valid
  rw [(pcheck_eq m hs).1, bind_some, bind_some]
  unfold rtB
  by_cases hc : chkM m = 0
  · rw [decide_eq_true hc, Bool.not_true, cond_false, bind_some, Bool.true_and]
    have hR := rt_of hc
    by_cases hl : f.length = m.Roads.length
    · rw [bif_neg (by omega), decide_eq_true hl, if_pos rfl]
      have := coll (List.range m.Roads.length) (arcsAt m f) (g := F_recirculate_arcs_L1 m f) (fun x _ => arcsAt_len m f x) (fun i x out hx ho => ?_) (fun out => by unfold F_recirculate_arcs_L1; rw [List.length_range, bif_neg (by dsimp only; omega)])
      · rw [this.1, bind_some]
        rfl
      · obtain ⟨rfl, hi⟩ := range_get hx
        have h1 := hR.r1
        unfold F_recirculate_arcs_L1 arcsAt can arcD
        dsimp only
        rw [bif_pos (by omega), getI_nat, rd0_get hi, bind_some, getI_nat, sp0_get (by omega)]
        cases (rd0 m x).Closed with
        | true => rw [cond_true, bind_some, w64 (by omega) (by omega)]; simp
        | false =>
          rw [cond_false, bind_some]
          by_cases q1 : 0 < (sp0 f x).High
          · rw [bif_pos q1, appI_ok (by simp; omega), bind_some, bind_some, bind_some]
            by_cases q2 : (sp0 f x).Low < 0
            · rw [bif_pos q2, appI_ok (by simp; omega), bind_some, bind_some, w64 (by omega) (by omega)]
              simp [q1, q2]
            · rw [bif_neg q2, bind_some, w64 (by omega) (by omega)]
              simp [q1, q2]
          · rw [bif_neg q1, bind_some, bind_some]
            by_cases q2 : (sp0 f x).Low < 0
            · rw [bif_pos q2, appI_ok (by simp; omega), bind_some, bind_some, w64 (by omega) (by omega)]
              simp [q1, q2]
            · rw [bif_neg q2, bind_some, w64 (by omega) (by omega)]
              simp [q1, q2]
    · rw [bif_pos (by omega), decide_eq_false hl]
      rfl
  · rw [decide_eq_false hc]
    rfl
theorem rtB_is {m : T_Mine} {f : List T_Span} (h : rtB m f = true) : Rt m ∧ f.length = m.Roads.length := by
  unfold rtB at h
  simp only [Bool.and_eq_true, decide_eq_true_eq] at h
  exact ⟨rt_of h.1, h.2⟩
def ArcOk (n : Nat) (a : Arc) : Prop := 0 ≤ a.from_ ∧ a.from_ < (n : Int) ∧ 0 ≤ a.to_ ∧ a.to_ < (n : Int)
theorem arcD_ok {m : T_Mine} (h : Rt m) {i : Nat} (hi : i < m.Roads.length) (d : Bool) : ArcOk m.Places.length (arcD m i d) := by
  obtain ⟨r1, r2, r3, r4⟩ := h.rd (rd0 m i) (List.mem_of_getElem? (rd0_get hi))
  cases d
  · exact ⟨r1, r2, r3, r4⟩
  · exact ⟨r3, r4, r1, r2⟩
theorem arcsAt_mem {m : T_Mine} {f : List T_Span} {i : Nat} {a : Arc} : a ∈ arcsAt m f i ↔ ∃ d, can m f i d = true ∧ a = arcD m i d := by
  unfold arcsAt
  rw [List.mem_append]
  constructor
  · rintro (h | h)
    · cases e : can m f i false with
      | true => rw [e] at h; exact ⟨false, e, by simpa using h⟩
      | false => rw [e] at h; simp at h
    · cases e : can m f i true with
      | true => rw [e] at h; exact ⟨true, e, by simpa using h⟩
      | false => rw [e] at h; simp at h
  · rintro ⟨d, h, rfl⟩
    cases d
    · exact .inl (by rw [h]; simp)
    · exact .inr (by rw [h]; simp)
theorem arcsF_mem {m : T_Mine} {f : List T_Span} {a : Arc} : a ∈ arcsF m f ↔ ∃ i d, i < m.Roads.length ∧ can m f i d = true ∧ a = arcD m i d := by
  unfold arcsF
  rw [List.mem_flatMap]
  constructor
  · rintro ⟨i, hi, h⟩
    obtain ⟨d, h1, h2⟩ := arcsAt_mem.1 h
    exact ⟨i, d, List.mem_range.1 hi, h1, h2⟩
  · rintro ⟨i, d, h1, h2, h3⟩
    exact ⟨i, List.mem_range.2 h1, arcsAt_mem.2 ⟨d, h2, h3⟩⟩
theorem arcsF_ok {m : T_Mine} {f : List T_Span} (h : Rt m) : ∀ a ∈ arcsF m f, ArcOk m.Places.length a := fun a ha => by
  obtain ⟨i, d, h1, _, rfl⟩ := arcsF_mem.1 ha
  exact arcD_ok h h1 d
theorem arcsF_len {m : T_Mine} {f : List T_Span} : (arcsF m f).length ≤ 2 * m.Roads.length := by
  unfold arcsF
  have : ∀ l : List Nat, (l.flatMap (arcsAt m f)).length ≤ 2 * l.length := by
    intro l
    induction l with
    | nil => simp
    | cons x l ih =>
      have := arcsAt_len m f x
      rw [List.flatMap_cons, List.length_append, List.length_cons]
      omega
  have := this (List.range m.Roads.length)
  rwa [List.length_range] at this

/-! ### Ways -/
def wayOf (a : Arc) : A2_Int := ⟨a.from_, a.to_⟩
def waysF (m : T_Mine) (f : List T_Span) : List A2_Int := if rtB m f then (arcsF m f).map wayOf else []
theorem flatMap_one {α β : Type} (f : α → β) (l : List α) : l.flatMap (fun x => [f x]) = l.map f := by
  induction l with
  | nil => rfl
  | cons x l ih => rw [List.flatMap_cons, ih]; rfl
theorem ways_eq (m : T_Mine) (f : List T_Span) (hs : Sz m) : F_recirculate_Ways m f = some (waysF m f) := by
  unfold F_recirculate_Ways waysF
  rw [arcs_eq m f hs, bind_some]
  have key : ∀ (l : List Arc) (b : Bool), l.length ≤ 1000000 → loopC (F_recirculate_Ways_L1 (l, b)) (0, ([] : List A2_Int)) = some (l.map wayOf) := fun l b hl => by
    have := coll l (fun a => [wayOf a]) (g := F_recirculate_Ways_L1 (l, b)) (fun _ _ => by simp) (fun i x out hx ho => ?_) (fun out => by unfold F_recirculate_Ways_L1; rw [bif_neg (by dsimp only; omega)])
    · rw [this.1, flatMap_one]
    · have hi := (List.getElem?_eq_some_iff.1 hx).1
      unfold F_recirculate_Ways_L1
      dsimp only
      rw [bif_pos (by omega), getI_nat, hx, bind_some, appI_ok (by simp; omega), bind_some, w64 (by omega) (by omega)]
      rfl
  by_cases h : rtB m f = true
  · have h1 := (rtB_is h).1.r1
    have h2 := arcsF_len (m := m) (f := f)
    rw [if_pos h, if_pos h, key _ _ (by omega), bind_some]
  · rw [if_neg h, if_neg h, key _ _ (by simp), bind_some]
    rfl
def sf (m : T_Mine) (k : Int) : Bool := ((m.Places[k.toNat]?).map (·.Surface)).getD true
def bt (o : List Bool) (k : Int) : Bool := (o[k.toNat]?).getD false
def ok1 (m : T_Mine) (w : Int) (o : List Bool) (a : Arc) : Bool := decide (a.road ≠ w) && (bt o a.from_ && (!bt o a.to_ && !sf m a.to_))
def st1 (m : T_Mine) (w : Int) (o : List Bool) (a : Arc) : List Bool := bif ok1 m w o a then o.set a.to_.toNat true else o
def stp (m : T_Mine) (w : Int) (s : Bool × List Bool) (a : Arc) : Bool × List Bool := (s.1 || ok1 m w s.2 a, st1 m w s.2 a)
def pass (m : T_Mine) (w : Int) (l : List Arc) (o : List Bool) : List Bool := l.foldl (st1 m w) o
def iterP {α : Type} (f : α → α) : Nat → α → α
  | 0, a => a
  | n + 1, a => iterP f n (f a)
def spreadC (m : T_Mine) (w : Int) (l : List Arc) (o : List Bool) : List Bool := iterP (pass m w l) (o.length + 1) o
def cnt (o : List Bool) : Nat := o.count true

theorem bt_get {o : List Bool} {k : Int} (h0 : 0 ≤ k) (h1 : k < (o.length : Int)) : getI o k = some (bt o k) := by
  unfold getI bt
  rw [if_pos h0, List.getElem?_eq_getElem (by omega)]
  rfl
theorem sf_get {m : T_Mine} {k : Int} (h0 : 0 ≤ k) (h1 : k < (m.Places.length : Int)) : ∃ p, getI m.Places k = some p ∧ p.Surface = sf m k := by
  unfold getI sf
  rw [if_pos h0, List.getElem?_eq_getElem (by omega)]
  exact ⟨_, rfl, rfl⟩
theorem st1_len {m : T_Mine} {w : Int} {o : List Bool} {a : Arc} : (st1 m w o a).length = o.length := by
  unfold st1
  cases ok1 m w o a
  · rfl
  · exact List.length_set
theorem cnt_set {o : List Bool} {i : Nat} (h : i < o.length) (hf : o[i] = false) : cnt (o.set i true) = cnt o + 1 := by
  unfold cnt
  rw [List.count_set h, hf]
  rfl
theorem st1_cnt {m : T_Mine} {w : Int} {o : List Bool} {a : Arc} (ha : ArcOk o.length a) : cnt (st1 m w o a) = cnt o + (bif ok1 m w o a then 1 else 0) := by
  obtain ⟨a1, a2, a3, a4⟩ := ha
  unfold st1
  cases h : ok1 m w o a with
  | false => rfl
  | true =>
    unfold ok1 at h
    simp only [Bool.and_eq_true, Bool.not_eq_true'] at h
    have hb := h.2.2.1
    unfold bt at hb
    have hi : a.to_.toNat < o.length := by omega
    rw [List.getElem?_eq_getElem hi] at hb
    exact cnt_set hi hb
theorem pass_is {m : T_Mine} {w : Int} : ∀ (l : List Arc) (b : Bool) (o : List Bool), (∀ a ∈ l, ArcOk o.length a) →
    (l.foldl (stp m w) (b, o)).2 = pass m w l o ∧ (pass m w l o).length = o.length ∧ cnt o ≤ cnt (pass m w l o) ∧ (b = true → (l.foldl (stp m w) (b, o)).1 = true) ∧
    ((l.foldl (stp m w) (b, o)).1 = false → pass m w l o = o ∧ ∀ a ∈ l, ok1 m w o a = false) ∧ (b = false → (l.foldl (stp m w) (b, o)).1 = true → cnt o < cnt (pass m w l o))
  | [], b, o, _ => ⟨rfl, rfl, Nat.le_refl _, fun h => h, fun _ => ⟨rfl, fun a h => by cases h⟩, fun h1 h2 => by rw [h1] at h2; cases h2⟩
  | a :: l, b, o, h => by
    have ha := h a (List.mem_cons_self ..)
    obtain ⟨e1, e2, e3, e4, e5, e6⟩ := pass_is (m := m) (w := w) l (b || ok1 m w o a) (st1 m w o a) (fun x hx => by rw [st1_len]; exact h x (List.mem_cons_of_mem _ hx))
    have ec := st1_cnt (m := m) (w := w) ha
    have el := st1_len (m := m) (w := w) (o := o) (a := a)
    unfold pass at e1 e2 e3 e5 e6 ⊢
    rw [List.foldl_cons, List.foldl_cons]
    show (l.foldl (stp m w) (b || ok1 m w o a, st1 m w o a)).2 = _ ∧ _ ∧ _ ∧ (b = true → (l.foldl (stp m w) (b || ok1 m w o a, st1 m w o a)).1 = true) ∧ ((l.foldl (stp m w) (b || ok1 m w o a, st1 m w o a)).1 = false → _) ∧ (b = false → (l.foldl (stp m w) (b || ok1 m w o a, st1 m w o a)).1 = true → _)
    refine ⟨e1, e2.trans el, by omega, fun hb => e4 (by rw [hb]; rfl), fun hf => ?_, fun hb ht => ?_⟩
    · have hbo : (b || ok1 m w o a) = false := by
        cases hx : (b || ok1 m w o a) with
        | false => rfl
        | true => rw [e4 hx] at hf; cases hf
      have ho : ok1 m w o a = false := by
        cases b
        · simpa using hbo
        · cases hbo
      have hs : st1 m w o a = o := by unfold st1; rw [ho]; rfl
      obtain ⟨q1, q2⟩ := e5 hf
      rw [hs] at q1 q2 ⊢
      refine ⟨q1, fun x hx => ?_⟩
      rcases List.mem_cons.1 hx with rfl | hx
      · exact ho
      · exact q2 x hx
    · cases ho : ok1 m w o a with
      | true => rw [ho] at ec; rw [show (bif true then 1 else 0) = 1 from rfl] at ec; omega
      | false =>
        rw [ho] at ec
        rw [show (bif false then 1 else 0) = 0 from rfl] at ec
        have := e6 (by rw [hb, ho]; rfl) ht
        omega
theorem iter_fix {α : Type} {f : α → α} {a : α} (h : f a = a) : ∀ n, iterP f n a = a
  | 0 => rfl
  | n + 1 => by show iterP f n (f a) = a; rw [h]; exact iter_fix h n
theorem fix_loop {m : T_Mine} {w : Int} {l : List Arc} {g : Bool × List Bool → Option ((Bool × List Bool) ⊕ List Bool)} (I : List Bool → Prop) (P : Nat) (hP : ∀ o, I o → o.length = P) (hl : ∀ a ∈ l, ArcOk P a)
    (hI : ∀ o, I o → I (pass m w l o)) (h1 : ∀ o, I o → g (true, o) = some (.inl (l.foldl (stp m w) (false, o)))) (h0 : ∀ o, I o → g (false, o) = some (.inr o)) :
    ∀ (n : Nat) (o : List Bool), I o → P - cnt o < n → loopC g (true, o) = some (iterP (pass m w l) n o)
  | 0, o, _, h => by omega
  | n + 1, o, ho, h => by
    have hlen := hP o ho
    obtain ⟨e1, e2, e3, e4, e5, e6⟩ := pass_is (m := m) (w := w) l false o (by rw [hlen]; exact hl)
    rw [loopC_inl (h1 o ho)]
    generalize hs : l.foldl (stp m w) (false, o) = s at e1 e4 e5 e6
    obtain ⟨b, o'⟩ := s
    dsimp only at e1 e4 e5 e6
    subst e1
    cases b with
    | false =>
      obtain ⟨q, _⟩ := e5 rfl
      rw [loopC_inr (h0 _ (hI o ho))]
      show some (pass m w l o) = some (iterP (pass m w l) n (pass m w l o))
      rw [iter_fix (by rw [q]; exact q)]
    | true =>
      have := e6 rfl rfl
      have hc : cnt (pass m w l o) ≤ P := by rw [← hlen, ← e2]; exact List.count_le_length ..
      exact fix_loop I P hP hl hI h1 h0 n _ (hI o ho) (by omega)
theorem spread_eq {m : T_Mine} {l : List Arc} {o : List Bool} {w : Int} (hP : m.Places.length ≤ 64) (ho : o.length = m.Places.length) (hl : ∀ a ∈ l, ArcOk m.Places.length a) (hn : l.length ≤ 1000000) : F_recirculate_spread m l o w = some (spreadC m w l o) := by
  unfold F_recirculate_spread spreadC
  rw [appI_ok (by simp; omega), bind_some, List.nil_append, fix_loop (m := m) (w := w) (l := l) (fun o => o.length = m.Places.length) m.Places.length (fun _ h => h) hl (fun o h => by
    have := (pass_is (m := m) (w := w) l false o (by rw [h]; exact hl)).2.1
    omega) (fun o ho => ?_) (fun o ho => by unfold F_recirculate_spread_L1; rfl) (o.length + 1) o ho (by omega), bind_some]
  unfold F_recirculate_spread_L1
  dsimp only
  rw [cond_true]
  have := over l (stp m w) (fun i s => ((s.1, i, s.2) : Bool × Int × List Bool)) id (g := F_recirculate_spread_L2 m l w) (fun _ s => s.2.length = m.Places.length) (fun i a s hx hI => ?_) (fun s _ => by unfold F_recirculate_spread_L2; rw [bif_neg (by dsimp only; omega)]; rfl) (false, o) ho
  · rw [this.1, bind_some]
    rfl
  · obtain ⟨b, o⟩ := s
    dsimp only at hI
    have hi := (List.getElem?_eq_some_iff.1 hx).1
    obtain ⟨a1, a2, a3, a4⟩ := hl a (List.mem_of_getElem? hx)
    obtain ⟨p, hp1, hp2⟩ := sf_get (m := m) a3 a4
    refine ⟨?_, by show (st1 m w o a).length = _; rw [st1_len]; exact hI⟩
    unfold F_recirculate_spread_L2 stp st1 ok1
    dsimp only
    rw [bif_pos (by omega), getI_nat, hx, bind_some, bt_get a1 (by omega), bind_some, bt_get a3 (by omega), bind_some, bind_some, hp1, bind_some, hp2, w64 (by omega) (by omega)]
    by_cases hw : a.road ≠ w
    · rw [bif_pos hw, decide_eq_true hw]
      cases bt o a.from_ <;> cases bt o a.to_ <;> cases sf m a.to_ <;> simp
    · rw [bif_neg hw, decide_eq_false hw]
      simp
def NS (m : T_Mine) (o : List Bool) : Prop := ∀ k : Int, 0 ≤ k → bt o k = true → sf m k = false
theorem bt_set {o : List Bool} {i : Nat} {k : Int} (hk : 0 ≤ k) (hi : i < o.length) : bt (o.set i true) k = if k = i then true else bt o k := by
  unfold bt
  rw [List.getElem?_set]
  by_cases h : i = k.toNat
  · rw [if_pos h, if_pos (by omega), if_pos (by omega)]; rfl
  · rw [if_neg h, if_neg (by omega)]
def seed (n : Nat) (k : Int) : List Bool := (List.replicate n false).set k.toNat true
def onArc (m : T_Mine) (l : List Arc) (a : Arc) : Bool := !sf m a.from_ && (!sf m a.to_ && bt (spreadC m a.road l (seed m.Places.length a.to_)) a.from_)
def circ (m : T_Mine) (l : List Arc) : List Arc := l.flatMap (fun a => bif onArc m l a then [a] else [])
def ddp (out : List Int) (r : Int) : List Int := if out.getLast? = some r then out else out ++ [r]
def onRd (m : T_Mine) (f : List T_Span) (i : Nat) : Bool := (arcsAt m f i).any (onArc m (arcsF m f))
def circlesF (m : T_Mine) (f : List T_Span) : List Int := if rtB m f then ((List.range m.Roads.length).filter (onRd m f)).map (fun i : Nat => (i : Int)) else []

theorem spreadC_len {m : T_Mine} {w : Int} {l : List Arc} {o : List Bool} : (spreadC m w l o).length = o.length := by
  unfold spreadC
  have h1 : ∀ (l : List Arc) (o : List Bool), (pass m w l o).length = o.length := by
    intro l
    induction l with
    | nil => intro o; rfl
    | cons a l ih => intro o; exact (ih _).trans st1_len
  generalize o.length + 1 = n
  induction n generalizing o with
  | zero => rfl
  | succ n ih => exact (ih (o := pass m w l o)).trans (h1 l o)
theorem surf2 {m : T_Mine} {a : Arc} (ha : ArcOk m.Places.length a) {x y : Option Bool} : ((getI m.Places a.from_).bind fun x8 => bif x8.Surface then some true else (getI m.Places a.to_).bind fun x11 => some x11.Surface) = some (sf m a.from_ || sf m a.to_) := by
  obtain ⟨a1, a2, a3, a4⟩ := ha
  obtain ⟨p, hp1, hp2⟩ := sf_get (m := m) a1 a2
  obtain ⟨q, hq1, hq2⟩ := sf_get (m := m) a3 a4
  rw [hp1, bind_some, hp2, hq1, bind_some, hq2]
  cases sf m a.from_ <;> rfl
theorem circ_eq {m : T_Mine} {l : List Arc} (hP : m.Places.length ≤ 64) (hl : ∀ a ∈ l, ArcOk m.Places.length a) (hn : l.length ≤ 1000000) : F_recirculate_circles m l = some (circ m l) := by
  unfold F_recirculate_circles circ
  have := coll l (fun a => bif onArc m l a then [a] else []) (g := F_recirculate_circles_L1 m l) (fun a _ => by cases onArc m l a <;> simp) (fun i a out hx ho => ?_) (fun out => by unfold F_recirculate_circles_L1; rw [bif_neg (by dsimp only; omega)])
  · rw [this.1, bind_some]
  · have hi := (List.getElem?_eq_some_iff.1 hx).1
    have ha := hl a (List.mem_of_getElem? hx)
    have hb := ha
    obtain ⟨a1, a2, a3, a4⟩ := hb
    unfold F_recirculate_circles_L1 onArc
    dsimp only
    rw [bif_pos (by omega), getI_nat, hx, bind_some, surf2 ha (x := none) (y := none), bind_some, w64 (by omega) (by omega), makI_ok (by omega) (by omega), bind_some, Int.toNat_natCast]
    obtain ⟨v, hv⟩ : ∃ v, getI (List.replicate m.Places.length false) a.to_ = some v := ⟨_, bt_get a3 (by simpa using a4)⟩
    rw [hv, bind_some, spread_eq hP (by simp) hl hn, bind_some]
    have hg : getI (spreadC m a.road l ((List.replicate m.Places.length false).set a.to_.toNat true)) a.from_ = some (bt (spreadC m a.road l (seed m.Places.length a.to_)) a.from_) := bt_get a1 (by rw [spreadC_len]; simpa using a2)
    rw [hg, bind_some, appI_ok (by simp; omega), bind_some]
    cases sf m a.from_ <;> cases sf m a.to_ <;> cases bt (spreadC m a.road l (seed m.Places.length a.to_)) a.from_ <;> simp [bind_some]
theorem circ_sub {m : T_Mine} {l : List Arc} : ∀ a ∈ circ m l, a ∈ l ∧ onArc m l a = true := fun a ha => by
  unfold circ at ha
  obtain ⟨b, hb, h⟩ := List.mem_flatMap.1 ha
  cases e : onArc m l b with
  | true =>
    rw [e] at h
    have : a = b := by simpa using h
    subst this
    exact ⟨hb, e⟩
  | false => rw [e] at h; simp at h
theorem circ_len {m : T_Mine} {l : List Arc} : (circ m l).length ≤ l.length := by
  unfold circ
  generalize hq : onArc m l = q
  clear hq
  induction l with
  | nil => simp
  | cons a l ih =>
    rw [List.flatMap_cons, List.length_append, List.length_cons]
    cases q a
    · rw [cond_false, List.length_nil]; omega
    · rw [cond_true, List.length_singleton]; omega
/-! ### places to which such air comes -/
def marks (l : List Arc) (o : List Bool) : List Bool := l.foldl (fun o a => (o.set a.from_.toNat true).set a.to_.toNat true) o
def idx (o : List Bool) : List Int := ((List.range o.length).filter (fun i : Nat => bt o i)).map (fun i : Nat => (i : Int))
def mixO (m : T_Mine) (f : List T_Span) : List Bool := spreadC m (-1) (arcsF m f) (marks (circ m (arcsF m f)) (List.replicate m.Places.length false))
def mixedF (m : T_Mine) (f : List T_Span) : List Int := if rtB m f then idx (mixO m f) else []
theorem idx_loop (o : List Bool) (ho : o.length ≤ 64) : loopC (F_recirculate_Mixed_L2 o) (0, ([] : List Int)) = some (idx o) := by
  have := coll (List.range o.length) (fun i : Nat => bif bt o i then [(i : Int)] else []) (g := F_recirculate_Mixed_L2 o) (fun i _ => by cases bt o i <;> simp) (fun i x out hx hl => ?_) (fun out => by unfold F_recirculate_Mixed_L2; rw [List.length_range, bif_neg (by dsimp only; omega)])
  · rw [this.1]
    congr 1
    unfold idx
    generalize List.range o.length = r
    induction r with
    | nil => rfl
    | cons x r ih =>
      rw [List.flatMap_cons, ih, List.filter_cons]
      cases bt o x <;> simp
  · obtain ⟨rfl, hi⟩ := range_get hx
    unfold F_recirculate_Mixed_L2
    dsimp only
    rw [bif_pos (by omega), bt_get (by omega) (by omega), bind_some, appI_ok (by simp; omega), bind_some, w64 (by omega) (by omega)]
    cases bt o x <;> simp [bind_some]
theorem mixed_eq (m : T_Mine) (f : List T_Span) (hs : Sz m) : F_recirculate_Mixed m f = some (mixedF m f) := by
  unfold F_recirculate_Mixed mixedF
  rw [arcs_eq m f hs, bind_some]
  by_cases h : rtB m f = true
  · obtain ⟨hR, hl⟩ := rtB_is h
    have h1 := hR.r1
    have hP := hR.p2
    have h2 := arcsF_len (m := m) (f := f)
    have h3 := circ_len (m := m) (l := arcsF m f)
    have hA := arcsF_ok (f := f) hR
    rw [if_pos h, if_pos h]
    dsimp only
    rw [Bool.not_true, cond_false, makI_ok (by omega) (by omega), bind_some, Int.toNat_natCast, circ_eq hP hA (by omega), bind_some]
    have := over (circ m (arcsF m f)) (fun (o : List Bool) a => (o.set a.from_.toNat true).set a.to_.toNat true) (fun i o => ((i, o) : Int × List Bool)) id (g := F_recirculate_Mixed_L1 (circ m (arcsF m f))) (fun _ o => o.length = m.Places.length) (fun i a o hx hI => ?_) (fun o _ => by unfold F_recirculate_Mixed_L1; rw [bif_neg (by dsimp only; omega)]; rfl) (List.replicate m.Places.length false) (by simp)
    · obtain ⟨t1, t2⟩ := this
      rw [t1, bind_some]
      have e := spread_eq (m := m) (l := arcsF m f) (o := marks (circ m (arcsF m f)) (List.replicate m.Places.length false)) (w := -1) hP t2 hA (by omega)
      show (F_recirculate_spread m (arcsF m f) (marks (circ m (arcsF m f)) (List.replicate m.Places.length false)) (-1)).bind _ = _
      rw [e, bind_some, idx_loop _ (by rw [spreadC_len, show (marks (circ m (arcsF m f)) (List.replicate m.Places.length false)).length = _ from t2]; exact hP), bind_some]
      rfl
    · have hi := (List.getElem?_eq_some_iff.1 hx).1
      obtain ⟨a1, a2, a3, a4⟩ := hA a (circ_sub a (List.mem_of_getElem? hx)).1
      refine ⟨?_, by rw [List.length_set, List.length_set]; exact hI⟩
      unfold F_recirculate_Mixed_L1
      dsimp only
      rw [bif_pos (by omega), getI_nat, hx, bind_some, bt_get a1 (by omega), bind_some, bt_get a3 (by rw [List.length_set]; omega), bind_some, w64 (by omega) (by omega)]
  · rw [if_neg h, if_neg h]
    rfl

theorem ints_same (l : List Int) (hl : l.length ≤ 1000000) : F_ref01_Ints l l = some true := by
  unfold F_ref01_Ints
  rw [bif_neg (fun h => h rfl), all_loop l (fun _ => false) (fun i x hx => by
    have hi := (List.getElem?_eq_some_iff.1 hx).1
    unfold F_ref01_Ints_L1
    rw [bif_pos (by omega), getI_nat, hx, bind_some, bind_some, bif_neg (fun h => h rfl), w64 (by omega) (by omega)]
    rfl) (by unfold F_ref01_Ints_L1; rw [bif_neg (by omega)])]
  simp
theorem waysF_len {m : T_Mine} {f : List T_Span} : (waysF m f).length ≤ 2 * m.Roads.length := by
  unfold waysF
  split
  · rw [List.length_map]
    exact arcsF_len
  · simp
theorem sz_of {m : T_Mine} (h : MnOk m) : Sz m := ⟨by have := h.r1; omega, by have := h.p2; omega⟩

theorem bytesOf {l : List Int} (h : InL (In .u8) l) : Bytes l := fun x hx => In.u8 (h.2 x hx)

inductive Rch (m : T_Mine) (w : Int) (l : List Arc) (S : Int → Prop) : Int → Prop
  | base (k : Int) (h : S k) : Rch m w l S k
  | step (a : Arc) (ha : a ∈ l) (hw : a.road ≠ w) (hf : Rch m w l S a.from_) (ht : sf m a.to_ = false) : Rch m w l S a.to_
theorem Rch.mono {m : T_Mine} {w : Int} {l l' : List Arc} {S S' : Int → Prop} (hl : ∀ a ∈ l, a ∈ l') (hS : ∀ k, S k → Rch m w l' S' k) {k : Int} (h : Rch m w l S k) : Rch m w l' S' k := by
  induction h with
  | base k h => exact hS k h
  | step a ha hw _ ht ih => exact .step a (hl a ha) hw ih ht
theorem bt_st1 {m : T_Mine} {w : Int} {o : List Bool} {a : Arc} {k : Int} (hk : 0 ≤ k) (h : bt o k = true) : bt (st1 m w o a) k = true := by
  unfold st1
  cases ok1 m w o a with
  | false => exact h
  | true =>
    rw [cond_true]
    unfold bt at h ⊢
    rw [List.getElem?_set]
    split
    · split
      · rfl
      · rename_i h1 h2
        rw [← h1, List.getElem?_eq_none (by omega)] at h
        cases h
    · exact h
theorem bt_pass {m : T_Mine} {w : Int} {k : Int} (hk : 0 ≤ k) : ∀ (l : List Arc) (o : List Bool), bt o k = true → bt (pass m w l o) k = true
  | [], _, h => h
  | a :: l, o, h => bt_pass hk l (st1 m w o a) (bt_st1 hk h)
theorem bt_iter {m : T_Mine} {w : Int} {l : List Arc} {k : Int} (hk : 0 ≤ k) : ∀ (n : Nat) (o : List Bool), bt o k = true → bt (iterP (pass m w l) n o) k = true
  | 0, _, h => h
  | n + 1, o, h => bt_iter hk n _ (bt_pass hk l o h)
theorem iter_done {m : T_Mine} {w : Int} {l : List Arc} : ∀ (n : Nat) (o : List Bool), (∀ a ∈ l, ArcOk o.length a) → o.length - cnt o < n → ∀ a ∈ l, ok1 m w (iterP (pass m w l) n o) a = false
  | 0, o, _, h => by omega
  | n + 1, o, hl, h => by
    obtain ⟨e1, e2, e3, e4, e5, e6⟩ := pass_is (m := m) (w := w) l false o hl
    cases hb : (l.foldl (stp m w) (false, o)).1 with
    | false =>
      obtain ⟨q1, q2⟩ := e5 hb
      intro a ha
      show ok1 m w (iterP (pass m w l) n (pass m w l o)) a = false
      rw [q1, iter_fix q1]
      exact q2 a ha
    | true =>
      have := e6 rfl hb
      have hc : cnt (pass m w l o) ≤ (pass m w l o).length := List.count_le_length ..
      exact iter_done n (pass m w l o) (by rw [e2]; exact hl) (by rw [e2] at hc ⊢; omega)
theorem st1_snd {m : T_Mine} {w : Int} {l : List Arc} {S : Int → Prop} {o : List Bool} {a : Arc} (ha : a ∈ l) (hA : ArcOk o.length a) (h : ∀ k : Int, 0 ≤ k → bt o k = true → Rch m w l S k) : ∀ k : Int, 0 ≤ k → bt (st1 m w o a) k = true → Rch m w l S k := by
  intro k hk hb
  obtain ⟨a1, a2, a3, a4⟩ := hA
  unfold st1 at hb
  cases ho : ok1 m w o a with
  | false => rw [ho] at hb; exact h k hk hb
  | true =>
    rw [ho, cond_true, bt_set hk (by omega)] at hb
    by_cases e : k = a.to_.toNat
    · have : k = a.to_ := by omega
      subst this
      unfold ok1 at ho
      simp only [Bool.and_eq_true, Bool.not_eq_true', decide_eq_true_eq] at ho
      exact .step a ha ho.1 (h _ a1 ho.2.1) ho.2.2.2
    · rw [if_neg e] at hb
      exact h k hk hb
theorem pass_snd {m : T_Mine} {w : Int} {l : List Arc} {S : Int → Prop} : ∀ (l' : List Arc) (o : List Bool), (∀ a ∈ l', a ∈ l) → (∀ a ∈ l', ArcOk o.length a) → (∀ k : Int, 0 ≤ k → bt o k = true → Rch m w l S k) → ∀ k : Int, 0 ≤ k → bt (pass m w l' o) k = true → Rch m w l S k
  | [], _, _, _, h => h
  | a :: l', o, hl, hA, h => pass_snd l' (st1 m w o a) (fun x hx => hl x (List.mem_cons_of_mem _ hx)) (fun x hx => by rw [st1_len]; exact hA x (List.mem_cons_of_mem _ hx)) (st1_snd (hl a (List.mem_cons_self ..)) (hA a (List.mem_cons_self ..)) h)
theorem iter_snd {m : T_Mine} {w : Int} {l : List Arc} {S : Int → Prop} : ∀ (n : Nat) (o : List Bool), (∀ a ∈ l, ArcOk o.length a) → (∀ k : Int, 0 ≤ k → bt o k = true → Rch m w l S k) → ∀ k : Int, 0 ≤ k → bt (iterP (pass m w l) n o) k = true → Rch m w l S k
  | 0, _, _, h => h
  | n + 1, o, hA, h => iter_snd n (pass m w l o) (by rw [(pass_is (m := m) (w := w) l false o hA).2.1]; exact hA) (pass_snd l o (fun _ h => h) hA h)
theorem spread_iff {m : T_Mine} {w : Int} {l : List Arc} {o : List Bool} {S : Int → Prop} (hA : ∀ a ∈ l, ArcOk o.length a) (hS : ∀ k : Int, 0 ≤ k → (bt o k = true ↔ S k)) (hS0 : ∀ k, S k → 0 ≤ k) {k : Int} (hk : 0 ≤ k) : bt (spreadC m w l o) k = true ↔ Rch m w l S k := by
  unfold spreadC
  constructor
  · exact iter_snd _ o hA (fun k hk h => .base k ((hS k hk).1 h)) k hk
  · intro h
    have hd := iter_done (m := m) (w := w) (l := l) (o.length + 1) o hA (by omega)
    clear hk
    induction h with
    | base k h => exact bt_iter (hS0 k h) _ o ((hS k (hS0 k h)).2 h)
    | step a ha hw _ ht ih =>
      have h0 := hd a ha
      unfold ok1 at h0
      rw [decide_eq_true hw, ih, ht, Bool.true_and, Bool.true_and, Bool.not_false, Bool.and_true] at h0
      simpa using h0
theorem marks_bt : ∀ (l : List Arc) (o : List Bool), (∀ a ∈ l, ArcOk o.length a) → ∀ k : Int, 0 ≤ k → (bt (marks l o) k = true ↔ bt o k = true ∨ ∃ a ∈ l, k = a.from_ ∨ k = a.to_)
  | [], o, _, k, _ => by
    show bt o k = true ↔ _
    constructor
    · exact .inl
    · rintro (h | ⟨a, ha, _⟩)
      · exact h
      · cases ha
  | a :: l, o, hA, k, hk => by
    obtain ⟨a1, a2, a3, a4⟩ := hA a (List.mem_cons_self ..)
    show bt (marks l _) k = true ↔ _
    rw [marks_bt l _ (fun x hx => by rw [List.length_set, List.length_set]; exact hA x (List.mem_cons_of_mem _ hx)) k hk, bt_set hk (by rw [List.length_set]; omega), bt_set hk (by omega)]
    constructor
    · rintro (h | ⟨b, hb, h⟩)
      · by_cases e1 : k = (a.to_.toNat : Int)
        · exact .inr ⟨a, List.mem_cons_self .., .inr (by omega)⟩
        · rw [if_neg e1] at h
          by_cases e2 : k = (a.from_.toNat : Int)
          · exact .inr ⟨a, List.mem_cons_self .., .inl (by omega)⟩
          · rw [if_neg e2] at h
            exact .inl h
      · exact .inr ⟨b, List.mem_cons_of_mem _ hb, h⟩
    · rintro (h | ⟨b, hb, h⟩)
      · left
        split
        · rfl
        · split
          · rfl
          · exact h
      · rcases List.mem_cons.1 hb with rfl | hb
        · left
          rcases h with h | h
          · split
            · rfl
            · rw [if_pos (by omega)]
          · rw [if_pos (by omega)]
        · exact .inr ⟨b, hb, h⟩
def mixS (m : T_Mine) (l : List Arc) (k : Int) : Prop := ∃ a ∈ circ m l, k = a.from_ ∨ k = a.to_
theorem idx_mem {o : List Bool} {v : Int} : v ∈ idx o ↔ 0 ≤ v ∧ v < (o.length : Int) ∧ bt o v = true := by
  unfold idx
  rw [List.mem_map]
  constructor
  · rintro ⟨i, hi, rfl⟩
    obtain ⟨h1, h2⟩ := List.mem_filter.1 hi
    have := List.mem_range.1 h1
    exact ⟨by omega, by omega, h2⟩
  · rintro ⟨h1, h2, h3⟩
    refine ⟨v.toNat, List.mem_filter.2 ⟨List.mem_range.2 (by omega), ?_⟩, by omega⟩
    rw [Int.toNat_of_nonneg h1]
    exact h3
theorem mixed_mem {m : T_Mine} {f : List T_Span} {v : Int} : v ∈ mixedF m f ↔ rtB m f = true ∧ 0 ≤ v ∧ v < (m.Places.length : Int) ∧ Rch m (-1) (arcsF m f) (mixS m (arcsF m f)) v := by
  unfold mixedF
  by_cases h : rtB m f = true
  · obtain ⟨hR, hl⟩ := rtB_is h
    have hA := arcsF_ok (f := f) hR
    have hml : (marks (circ m (arcsF m f)) (List.replicate m.Places.length false)).length = m.Places.length := by
      have : ∀ (l : List Arc) (o : List Bool), (marks l o).length = o.length := by
        intro l
        induction l with
        | nil => intro o; rfl
        | cons a l ih => intro o; exact (ih _).trans (by rw [List.length_set, List.length_set])
      rw [this, List.length_replicate]
    rw [if_pos h, idx_mem]
    unfold mixO
    rw [spreadC_len, hml]
    constructor
    · rintro ⟨h1, h2, h3⟩
      refine ⟨h, h1, h2, (spread_iff (by rw [hml]; exact hA) (fun k hk => ?_) (fun k hk => ?_) h1).1 h3⟩
      · rw [marks_bt _ _ (fun a ha => by rw [List.length_replicate]; exact hA a (circ_sub a ha).1) k hk]
        constructor
        · rintro (h | h)
          · unfold bt at h
            by_cases hh : k.toNat < m.Places.length
            · rw [List.getElem?_replicate_of_lt hh] at h; cases h
            · rw [List.getElem?_eq_none (by simpa using hh)] at h; cases h
          · exact h
        · exact .inr
      · obtain ⟨a, ha, hk⟩ := hk
        have := hA a (circ_sub a ha).1
        unfold ArcOk at this
        omega
    · rintro ⟨_, h1, h2, h3⟩
      refine ⟨h1, h2, (spread_iff (S := mixS m (arcsF m f)) (by rw [hml]; exact hA) (fun k hk => ?_) (fun k hk => ?_) h1).2 h3⟩
      · rw [marks_bt _ _ (fun a ha => by rw [List.length_replicate]; exact hA a (circ_sub a ha).1) k hk]
        constructor
        · rintro (h | h)
          · unfold bt at h
            by_cases hh : k.toNat < m.Places.length
            · rw [List.getElem?_replicate_of_lt hh] at h; cases h
            · rw [List.getElem?_eq_none (by simpa using hh)] at h; cases h
          · exact h
        · exact .inr
      · obtain ⟨a, ha, hk⟩ := hk
        have := hA a (circ_sub a ha).1
        unfold ArcOk at this
        omega
  · rw [if_neg h]
    constructor
    · intro h; cases h
    · rintro ⟨h', _⟩; exact absurd h' h
def shutM (m : T_Mine) (k : Nat) : T_Mine := ⟨m.Places, m.Roads.set k ⟨(rd0 m k).From, (rd0 m k).To, (rd0 m k).Length, (rd0 m k).Area, (rd0 m k).Walk, true, (rd0 m k).Rest, (rd0 m k).Lift⟩⟩
theorem mixedF_len {m : T_Mine} {f : List T_Span} : (mixedF m f).length ≤ m.Places.length := by
  have hb : ∀ v ∈ mixedF m f, 0 ≤ v ∧ v < (m.Places.length : Int) := fun v hv => by
    obtain ⟨_, h1, h2, _⟩ := mixed_mem.1 hv
    exact ⟨h1, h2⟩
  unfold mixedF idx
  split
  · rw [List.length_map]
    refine Nat.le_trans (List.length_filter_le ..) ?_
    rw [List.length_range]
    unfold mixO
    rw [spreadC_len]
    have : ∀ (l : List Arc) (o : List Bool), (marks l o).length = o.length := by
      intro l
      induction l with
      | nil => intro o; rfl
      | cons a l ih => intro o; exact (ih _).trans (by rw [List.length_set, List.length_set])
    rw [this, List.length_replicate]
    exact Nat.le_refl _
  · simp


theorem mul_bd {a b A B : Int} (h0 : 0 ≤ a) (h1 : a ≤ A) (h2 : -B ≤ b) (h3 : b ≤ B) (hB : 0 ≤ B) : -(A * B) ≤ a * b ∧ a * b ≤ A * B := by
  have e1 : a * b ≤ a * B := Int.mul_le_mul_of_nonneg_left h3 h0
  have e2 : a * B ≤ A * B := Int.mul_le_mul_of_nonneg_right h1 hB
  have e3 : a * -B ≤ a * b := Int.mul_le_mul_of_nonneg_left h2 h0
  rw [Int.mul_neg] at e3
  omega
theorem mul_bd2 {a b A B : Int} (h0 : -A ≤ a) (h1 : a ≤ A) (h2 : -B ≤ b) (h3 : b ≤ B) (hB : 0 ≤ B) : -(A * B) ≤ a * b ∧ a * b ≤ A * B := by
  by_cases h : 0 ≤ a
  · exact mul_bd h h1 h2 h3 hB
  · have := mul_bd (a := -a) (A := A) (by omega) (by omega) h2 h3 hB
    rw [Int.neg_mul] at this
    omega
def CvV (l : List T_Point) : Prop := CvOk l ∧ ∀ p ∈ l, 0 ≤ p.Pressure ∧ p.Pressure ≤ 3000
def DrV (d : T_Door) : Prop := DrOk d ∧ ∀ x ∈ d.Rests, 0 ≤ x ∧ x ≤ 900
def RvOk (r : T_Road) : Prop := 1 ≤ r.Length ∧ r.Length ≤ 400 ∧ 4 ≤ r.Area ∧ r.Area ≤ 30 ∧ 1 ≤ r.Rest.Low ∧ r.Rest.Low ≤ 20 ∧ r.Rest.Low ≤ r.Rest.High ∧ r.Rest.High ≤ r.Rest.Low + 2
def LvOk (r : T_Road) : Prop := -10000000000 ≤ r.Lift.Low ∧ r.Lift.Low ≤ r.Lift.High ∧ r.Lift.High ≤ 10000000000

theorem vroad_ok (c : T_draw_Codes) (f t : Int) (hc : CodesOk c) : Ok (F_draw_Codes_Road c f t) fun r => CodesOk r.1 ∧ r.2.From = f ∧ r.2.To = t ∧ RvOk r.2 ∧ LvOk r.2 := by
  unfold F_draw_Codes_Road
  refine ok_bind (range_ok c 1 400 hc (by decide) (by decide) (by decide)) fun x1 h1 => ?_
  refine ok_bind (range_ok x1.1 4 30 h1.1 (by decide) (by decide) (by decide)) fun x3 h3 => ?_
  refine ok_bind (next_ok x3.1 4 h3.1) fun x5 h5 => ?_
  refine ok_bind (range_ok x5.1 1 20 h5.1 (by decide) (by decide) (by decide)) fun x7 h7 => ?_
  refine ok_bind (next_lt x7.1 3 h7.1 (by decide)) fun x9 h9 => ?_
  refine ok_bind (range_ok x9.1 (-300) 300 h9.1 (by decide) (by decide) (by decide)) fun x11 h11 => ?_
  refine ok_bind (next_lt x11.1 20 h11.1 (by decide)) fun x13 h13 => ?_
  rw [w64 (n := x7.2 + x9.2) (by omega) (by omega), w64 (n := x11.2 + x13.2) (by omega) (by omega)]
  refine ok_some ⟨h13.1, rfl, rfl, ⟨h1.2.1, h1.2.2, h3.2.1, h3.2.2, h7.2.1, h7.2.2, ?_, ?_⟩, ?_, ?_, ?_⟩ <;> dsimp only <;> omega
theorem vcurve_ok (c : T_draw_Codes) (hc : CodesOk c) : Ok (F_draw_Codes_Curve c) fun r => CodesOk r.1 ∧ CvV r.2 := by
  obtain ⟨r, hr, q1, q2⟩ := curve_ok c hc
  refine ⟨r, hr, q1, q2, ?_⟩
  have : Ok (F_draw_Codes_Curve c) fun r => ∀ p ∈ r.2, 0 ≤ p.Pressure ∧ p.Pressure ≤ 3000 := by
    unfold F_draw_Codes_Curve
    refine ok_bind (range_ok c (-20) 10 hc (by decide) (by decide) (by decide)) fun x1 h1 => ?_
    refine ok_bind (range_ok x1.1 500 3000 h1.1 (by decide) (by decide) (by decide)) fun x3 h3 => ?_
    refine ok_bind (next_lt x3.1 4 h3.1 (by decide)) fun x5 h5 => ?_
    refine ok_bind (ok_loop (fun s : Int × List T_Point × T_draw_Codes => 0 ≤ s.1 ∧ 1 ≤ s.2.1.length ∧ (s.2.1.length : Int) + s.1 ≤ 4 ∧ CodesOk s.2.2 ∧ ∀ p ∈ s.2.1, 0 ≤ p.Pressure ∧ p.Pressure ≤ 3000) (fun s => s.1.toNat) (fun r => ∀ p ∈ r.1, 0 ≤ p.Pressure ∧ p.Pressure ≤ 3000) (fun s hs => ?_) _ ⟨h5.2.1, by simp, by simp; omega, h5.1, fun p hp => ?_⟩) fun o8 h8 => ok_some h8
    · obtain ⟨k, l, c⟩ := s
      obtain ⟨a1, a2, a3, a4, a5⟩ := hs
      dsimp only at a1 a2 a3 a4 a5
      unfold F_draw_Codes_Curve_L1
      dsimp only
      refine ok_dec (fun hk => ?_) (fun hk => ok_some a5)
      rw [w64 (n := (l.length : Int) - 1) (by omega) (by omega)]
      refine ok_bind (ok_getI (by omega) (by omega)) fun x10 h10 => ?_
      have hx := a5 x10 (mem_get h10)
      refine ok_bind (range_ok c 1 40 a4 (by decide) (by decide) (by decide)) fun x12 h12 => ?_
      refine ok_bind (next_lt x12.1 900 h12.1 (by decide)) fun x14 h14 => ?_
      rw [appI_ok (by simp; omega), bind_some, w64 (n := k - 1) (by omega) (by omega), w64 (n := x10.Pressure - x14.2) (by omega) (by omega)]
      refine ok_some ⟨⟨by dsimp only; omega, by simp, by simp; omega, h14.1, fun p hp => ?_⟩, by dsimp only; omega⟩
      rcases mem_app1 hp with h | h
      · exact a5 p h
      · subst h
        dsimp only
        omega
    · simp at hp
      subst hp
      dsimp only
      omega
  obtain ⟨r', hr', q⟩ := this
  rw [hr] at hr'
  injection hr' with hr'
  subst hr'
  exact q
theorem vdoor_ok (c : T_draw_Codes) (rd : Int) (hc : CodesOk c) : Ok (F_draw_Codes_Door c rd) fun r => CodesOk r.1 ∧ DrV r.2 := by
  unfold F_draw_Codes_Door
  refine ok_bind (range_ok c 200 900 hc (by decide) (by decide) (by decide)) fun x1 h1 => ?_
  refine ok_bind (range_ok x1.1 1 3 h1.1 (by decide) (by decide) (by decide)) fun x3 h3 => ?_
  refine ok_bind (ok_loop (fun s : Int × List Int × T_draw_Codes => 0 ≤ s.1 ∧ 1 ≤ s.2.1.length ∧ (s.2.1.length : Int) + s.1 ≤ 4 ∧ CodesOk s.2.2 ∧ ∀ x ∈ s.2.1, 0 ≤ x ∧ x ≤ 900) (fun s => s.1.toNat) (fun r => CodesOk r.2 ∧ 1 ≤ r.1.length ∧ r.1.length ≤ 4 ∧ ∀ x ∈ r.1, 0 ≤ x ∧ x ≤ 900) (fun s hs => ?_) _ ⟨by dsimp only; omega, by simp, by simp; omega, h3.1, fun x hx => ?_⟩) fun o8 h8 => ok_some ⟨h8.1, ⟨h8.2.1, h8.2.2.1⟩, h8.2.2.2⟩
  · obtain ⟨k, l, c⟩ := s
    obtain ⟨a1, a2, a3, a4, a5⟩ := hs
    dsimp only at a1 a2 a3 a4 a5
    unfold F_draw_Codes_Door_L1
    dsimp only
    refine ok_dec (fun hk => ?_) (fun hk => ok_some ⟨a4, a2, by dsimp only; omega, a5⟩)
    rw [w64 (n := (l.length : Int) - 1) (by omega) (by omega)]
    refine ok_bind (ok_getI (by omega) (by omega)) fun x10 h10 => ?_
    have hx := a5 x10 (mem_get h10)
    refine ok_bind (range_ok c 1 60 a4 (by decide) (by decide) (by decide)) fun x12 h12 => ?_
    rw [appI_ok (by simp; omega), bind_some, w64 (n := k - 1) (by omega) (by omega), w64 (n := x10 - x12.2) (by omega) (by omega)]
    refine ok_some ⟨⟨by dsimp only; omega, by simp, by simp; omega, h12.1, fun x hx => ?_⟩, by dsimp only; omega⟩
    rcases mem_app1 hx with h | h
    · exact a5 x h
    · omega
  · have : x = x1.2 := by simpa using hx
    omega
structure EqV (a : T_Air) (s : T_Setting) : Prop where
  f1 : a.Fans.length ≤ 2
  f2 : s.Fans.length = a.Fans.length
  f3 : ∀ f ∈ a.Fans, CvV f.Curve
  d1 : a.Doors.length ≤ 2
  d2 : s.Doors.length = a.Doors.length
  d3 : ∀ d ∈ a.Doors, DrV d
theorem vequipped_ok (c : T_draw_Codes) (m : T_Mine) (hc : CodesOk c) (hm : m.Roads.length ≤ 20) : Ok (F_draw_Codes_equipped c ⟨m, [], []⟩) fun r => CodesOk r.1 ∧ r.2.1.Mine = m ∧ EqV r.2.1 r.2.2 := by
  unfold F_draw_Codes_equipped
  refine ok_bind (next_lt c 3 hc (by decide)) fun x2 h2 => ?_
  refine ok_bind (ok_loop (fun s : Int × List Int × T_draw_Codes × List T_Fan => 0 ≤ s.1 ∧ (s.2.2.2.length : Int) + s.1 ≤ 2 ∧ s.2.1.length = s.2.2.2.length ∧ CodesOk s.2.2.1 ∧ ∀ f ∈ s.2.2.2, CvV f.Curve) (fun s => s.1.toNat)
    (fun r => r.2.2.length ≤ 2 ∧ r.1.length = r.2.2.length ∧ CodesOk r.2.1 ∧ ∀ f ∈ r.2.2, CvV f.Curve) (fun s hs => ?_) _ ⟨h2.2.1, by simp; omega, rfl, h2.1, fun f hf => by cases hf⟩) fun o5 h5 => ?_
  · obtain ⟨k, l, c, fs⟩ := s
    obtain ⟨a1, a2, a3, a4, a5⟩ := hs
    dsimp only at a1 a2 a3 a4 a5
    unfold F_draw_Codes_equipped_L1
    dsimp only
    rw [and_bif rfl, bind_some]
    refine ok_dec (fun hk => ?_) (fun hk => ok_some ⟨by dsimp only; omega, a3, a4, a5⟩)
    refine ok_bind (next_ok c _ a4) fun x9 h9 => ?_
    refine ok_bind (one_ok x9.1 3 h9.1 (by decide)) fun x11 h11 => ?_
    refine ok_bind (one_ok x11.1 3 h11 (by decide)) fun x13 h13 => ?_
    refine ok_bind (vcurve_ok x13.1 h13) fun x15 h15 => ?_
    rw [appI_ok (by simp; omega), bind_some]
    refine ok_bind (next_ok x15.1 3 h15.1) fun x19 h19 => ?_
    rw [appI_ok (by simp; omega), bind_some, w64 (n := k - 1) (by omega) (by omega)]
    refine ok_some ⟨⟨by dsimp only; omega, by simp; omega, by simp [a3], h19.1, fun f hf => ?_⟩, by dsimp only; omega⟩
    rcases mem_app1 hf with h | h
    · exact a5 f h
    · subst h; exact h15.2
  obtain ⟨b1, b2, b3, b4⟩ := h5
  refine ok_bind (next_lt o5.2.1 3 b3 (by decide)) fun x24 h24 => ?_
  refine ok_bind (ok_loop (fun s : Int × T_Setting × T_draw_Codes × List T_Door => 0 ≤ s.1 ∧ (s.2.2.2.length : Int) + s.1 ≤ 2 ∧ s.2.1.Doors.length = s.2.2.2.length ∧ s.2.1.Fans = o5.1 ∧ CodesOk s.2.2.1 ∧ ∀ d ∈ s.2.2.2, DrV d) (fun s => s.1.toNat)
    (fun r => r.2.2.length ≤ 2 ∧ r.1.Doors.length = r.2.2.length ∧ r.1.Fans = o5.1 ∧ CodesOk r.2.1 ∧ ∀ d ∈ r.2.2, DrV d) (fun s hs => ?_) _ ⟨h24.2.1, by simp; omega, rfl, rfl, h24.1, fun f hf => by cases hf⟩) fun o27 h27 => ?_
  · obtain ⟨k, s, c, ds⟩ := s
    obtain ⟨a1, a2, a3, a4, a5, a6⟩ := hs
    dsimp only at a1 a2 a3 a4 a5 a6
    unfold F_draw_Codes_equipped_L2
    dsimp only
    refine ok_bind (Q := fun o => o.2 = s ∧ (o.1 = true → 0 < k)) (ok_dec (fun h => ok_some ⟨rfl, fun _ => h⟩) (fun _ => ok_some ⟨rfl, fun h => by cases h⟩)) fun o28 h28 => ?_
    obtain ⟨rfl, h28⟩ := h28
    refine ok_bif (fun hk => ?_) (fun hk => ok_some ⟨by dsimp only; omega, a3, a4, a5, a6⟩)
    have hk0 := h28 hk
    refine ok_bind (next_ok c _ a5) fun x31 h31 => ?_
    refine ok_bind (vdoor_ok x31.1 _ h31.1) fun x33 h33 => ?_
    rw [appI_ok (by simp; omega), bind_some]
    refine ok_bind (next_ok x33.1 _ h33.1) fun x37 h37 => ?_
    rw [appI_ok (by simp; omega), bind_some, w64 (n := k - 1) (by omega) (by omega)]
    refine ok_some ⟨⟨by dsimp only; omega, by simp; omega, by simp [a3], a4, h37.1, fun d hd => ?_⟩, by dsimp only; omega⟩
    rcases mem_app1 hd with h | h
    · exact a6 d h
    · subst h; exact h33.2
  exact ok_some ⟨h27.2.2.2.1, rfl, ⟨b1, by dsimp only; rw [h27.2.2.1]; exact b2, b4, h27.1, h27.2.1, h27.2.2.2.2⟩⟩
theorem vrest_ok (d : T_Door) (k : Int) (hd : DrV d) : Ok (F_ref08_Rest d k) fun r => 0 ≤ r.Low ∧ r.Low ≤ 900 := by
  obtain ⟨⟨h1, h2⟩, h3⟩ := hd
  unfold F_ref08_Rest
  rw [or_bif (or_bif rfl), bind_some]
  refine ok_dec (fun _ => ok_some ⟨Int.le_refl _, by show (0 : Int) ≤ 900; decide⟩) (fun hn => ?_)
  refine ok_dec (fun hk => ?_) (fun hk => ?_)
  · refine ok_bind (ok_getI (by omega) (by omega)) fun x hx => ?_
    exact ok_bind (ok_getI (by omega) (by omega)) fun _ _ => ok_some (h3 x (mem_get hx))
  · refine ok_bind (ok_getI (by omega) (by omega)) fun x hx => ?_
    refine ok_bind (ok_getI (by omega) (by omega)) fun y _ => ?_
    refine ok_bind (ok_loop (fun s : Int × T_Span => 0 ≤ s.1 ∧ s.1 ≤ d.Rests.length ∧ 0 ≤ s.2.Low ∧ s.2.Low ≤ 900) (fun s => (d.Rests.length - s.1).toNat) (fun r => 0 ≤ r.Low ∧ r.Low ≤ 900) (fun s hs => ?_) _ ⟨Int.le_refl _, by dsimp only; omega, h3 x (mem_get hx)⟩) fun _ h => ok_some h
    obtain ⟨b1, b2, b3, b4⟩ := hs
    unfold F_ref08_Rest_L1
    refine ok_dec (fun hi => ?_) (fun hi => ok_some ⟨b3, b4⟩)
    refine ok_bind (ok_getI b1 hi) fun x hx => ?_
    refine ok_bind (ok_getI b1 hi) fun y _ => ?_
    have := h3 x (mem_get hx)
    rw [w64 (by omega) (by omega)]
    refine ok_some ⟨⟨?_, ?_, ?_, ?_⟩, ?_⟩ <;> dsimp only <;> omega
theorem tdiv_bd {a b A : Int} (h0 : -A ≤ a) (h1 : a ≤ A) (hb : 1 ≤ b) : -A ≤ a.tdiv b ∧ a.tdiv b ≤ A := by
  by_cases h : 0 ≤ a
  · have e1 : 0 ≤ a.tdiv b := Int.tdiv_nonneg h (by omega)
    have e2 : a.tdiv b ≤ a := Int.tdiv_le_self _ h
    omega
  · have e1 : 0 ≤ (-a).tdiv b := Int.tdiv_nonneg (by omega) (by omega)
    have e2 : (-a).tdiv b ≤ -a := Int.tdiv_le_self _ (by omega)
    rw [Int.neg_tdiv] at e1 e2
    omega
theorem vfloor_ok (a b : Int) (hb : 1 ≤ b) (h0 : -6000000 ≤ a) (h1 : a ≤ 6000000) : Ok (F_ref05_Floor a b) fun r => -6000001 ≤ r ∧ r ≤ 6000001 := by
  obtain ⟨e1, e2⟩ := tdiv_bd h0 h1 hb
  unfold F_ref05_Floor
  rw [quoI_ok (by omega), bind_some, remI_ok (by omega), bind_some, w64 (n := a.tdiv b) (by omega) (by omega), w64 (n := a.tdiv b - 1) (by omega) (by omega)]
  exact ok_bind (Q := fun r => -6000001 ≤ r ∧ r ≤ 6000001) (ok_dec (fun _ => ok_some ⟨by omega, by omega⟩) (fun _ => ok_some ⟨by omega, by omega⟩)) fun _ h => ok_some h
theorem vceil_ok (a b : Int) (hb : 1 ≤ b) (h0 : -6000000 ≤ a) (h1 : a ≤ 6000000) : Ok (F_ref05_Ceil a b) fun r => -6000001 ≤ r ∧ r ≤ 6000001 := by
  unfold F_ref05_Ceil
  rw [w64 (n := 0 - a) (by omega) (by omega)]
  refine ok_bind (vfloor_ok _ b hb (by omega) (by omega)) fun r hr => ?_
  rw [w64 (by omega) (by omega)]
  exact ok_some ⟨by omega, by omega⟩
def SpB (s : T_Span) : Prop := -6010000 ≤ s.Low ∧ s.Low ≤ 6010000 ∧ -6010000 ≤ s.High ∧ s.High ≤ 6010000
theorem vinner_ok (f : T_Fan) (q : Int) (hf : CvV f.Curve) (hq0 : -1000 ≤ q) (hq1 : q ≤ 1000) : Ok (F_ref07_Inner f q) SpB := by
  obtain ⟨⟨h1, h2, h3⟩, h4⟩ := hf
  unfold F_ref07_Inner
  have e0 : getI f.Curve 0 = some f.Curve[0] := by rw [show (0 : Int) = ((0 : Nat) : Int) from rfl, getI_nat]; exact List.getElem?_eq_getElem h1
  have p0 := h4 f.Curve[0] (List.getElem_mem h1)
  rw [e0, bind_some]
  refine ok_dec (fun _ => ok_some ⟨by dsimp only; omega, by dsimp only; omega, by dsimp only; omega, by dsimp only; omega⟩) (fun hq0 => ?_)
  rw [w64 (n := (f.Curve.length : Int) - 1) (by omega) (by omega)]
  refine ok_bind (ok_getI (by omega) (by omega)) fun xl hl => ?_
  refine ok_dec (fun _ => ?_) (fun hq1 => ?_)
  · refine ok_bind (ok_getI (by omega) (by omega)) fun u hu => ?_
    refine ok_bind (ok_getI (by omega) (by omega)) fun v hv => ok_some ?_
    have := h4 u (mem_get hu)
    have := h4 v (mem_get hv)
    exact ⟨by dsimp only; omega, by dsimp only; omega, by dsimp only; omega, by dsimp only; omega⟩
  refine ok_bind (Q := fun o : Int => 0 ≤ o ∧ o + 1 < f.Curve.length ∧ (∀ x, f.Curve[o.toNat]? = some x → x.Flow ≤ q) ∧ ∀ x, f.Curve[(o + 1).toNat]? = some x → q < x.Flow) (ok_loop (fun s : Int => 0 ≤ s ∧ s + 1 < f.Curve.length ∧ ∀ x, f.Curve[s.toNat]? = some x → x.Flow ≤ q) (fun s => (f.Curve.length - s).toNat) _ (fun s hs => ?_) _ ⟨Int.le_refl _, ?_, fun x hx => ?_⟩) fun o16 ho => ?_
  · obtain ⟨a1, a2, a3⟩ := hs
    unfold F_ref07_Inner_L1
    rw [w64 (n := s + 1) (by omega) (by omega)]
    refine ok_bind (ok_getI (by omega) (by omega)) fun x hx => ?_
    refine ok_dec (fun hle => ok_some ⟨⟨by omega, ?_, fun y hy => ?_⟩, by omega⟩) (fun hgt => ok_some ⟨a1, a2, a3, fun y hy => ?_⟩)
    · by_cases e : s + 1 + 1 < (f.Curve.length : Int)
      · exact e
      · have : s + 1 = (f.Curve.length : Int) - 1 := by omega
        rw [this, hl] at hx
        injection hx with hx
        subst hx
        omega
    · rw [hx] at hy
      injection hy with hy
      subst hy
      exact hle
    · rw [hx] at hy
      injection hy with hy
      subst hy
      omega
  · by_cases e : (0 : Int) + 1 < (f.Curve.length : Int)
    · exact e
    · have : (f.Curve.length : Int) - 1 = 0 := by omega
      rw [this] at hl
      have : f.Curve[0] = xl := by
        have h' : f.Curve[(0 : Int).toNat]? = some f.Curve[0] := List.getElem?_eq_getElem h1
        rw [hl] at h'
        injection h' with h'
        exact h'.symm
      rw [this] at hq0
      omega
  · have h' : f.Curve[(0 : Int).toNat]? = some f.Curve[0] := List.getElem?_eq_getElem h1
    rw [h'] at hx
    injection hx with hx
    subst hx
    omega
  · obtain ⟨a1, a2, a3, a4⟩ := ho
    refine ok_bind (ok_getI (by omega) (by omega)) fun x20 h20 => ?_
    rw [w64 (n := o16 + 1) (by omega) (by omega)]
    refine ok_bind (ok_getI (by omega) (by omega)) fun x22 h22 => ?_
    have c1 := a3 x20 h20
    have c2 := a4 x22 h22
    have c3 := h3 x20 (mem_get h20)
    have c4 := h3 x22 (mem_get h22)
    have c5 := h4 x20 (mem_get h20)
    have c6 := h4 x22 (mem_get h22)
    have hm := mul_bd2 (a := x22.Pressure - x20.Pressure) (b := q - x20.Flow) (A := 3000) (B := 2000) (by omega) (by omega) (by omega) (by omega) (by decide)
    rw [w64 (n := x22.Flow - x20.Flow) (by omega) (by omega), w64 (n := x22.Pressure - x20.Pressure) (by omega) (by omega), w64 (n := q - x20.Flow) (by omega) (by omega), w64 (n := (x22.Pressure - x20.Pressure) * (q - x20.Flow)) (by omega) (by omega)]
    refine ok_bind (vfloor_ok _ _ (by omega) (by omega) (by omega)) fun u hu => ?_
    refine ok_bind (vceil_ok _ _ (by omega) (by omega) (by omega)) fun v hv => ?_
    rw [w64 (n := x20.Pressure + u) (by omega) (by omega), w64 (n := x20.Pressure + v) (by omega) (by omega)]
    exact ok_some ⟨by dsimp only; omega, by dsimp only; omega, by dsimp only; omega, by dsimp only; omega⟩
theorem valong_ok (f : T_Fan) (b : Bool) (q : Int) (hf : CvV f.Curve) (hq0 : -1000 ≤ q) (hq1 : q ≤ 1000) : Ok (F_ref07_Along f b q) SpB := by
  unfold F_ref07_Along
  rw [w64 (n := 0 - q) (by omega) (by omega)]
  refine ok_bif (fun _ => ok_bind (vinner_ok f _ hf (by omega) (by omega)) fun r hr => ?_) (fun _ => ok_bind (vinner_ok f _ hf hq0 hq1) fun _ h => ok_some h)
  obtain ⟨r1, r2, r3, r4⟩ := hr
  rw [w64 (n := 0 - r.High) (by omega) (by omega), w64 (n := 0 - r.Low) (by omega) (by omega)]
  exact ok_some ⟨by dsimp only; omega, by dsimp only; omega, by dsimp only; omega, by dsimp only; omega⟩
theorem vstate_ok (f : T_Fan) (k q : Int) (hf : CvV f.Curve) (hq0 : -1000 ≤ q) (hq1 : q ≤ 1000) : Ok (F_ref07_State f k q) fun r => -6010000 ≤ r.Low ∧ r.Low ≤ 6010000 := by
  unfold F_ref07_State
  refine ok_dec (fun _ => ok_some ⟨by show (-6010000 : Int) ≤ 0; decide, by show (0 : Int) ≤ 6010000; decide⟩) (fun _ => ok_dec (fun _ => ok_bind (valong_ok f _ q hf hq0 hq1) fun _ h => ok_some ⟨h.1, h.2.1⟩) (fun _ => ok_dec (fun _ => ok_bind (valong_ok f _ q hf hq0 hq1) fun _ h => ok_some ⟨h.1, h.2.1⟩) (fun _ => ?_)))
  refine ok_bind (valong_ok f _ q hf hq0 hq1) fun x hx => ok_bind (valong_ok f _ q hf hq0 hq1) fun y hy => ok_some ?_
  obtain ⟨x1, x2, _⟩ := hx
  obtain ⟨y1, y2, _⟩ := hy
  dsimp only
  omega

def RV (r : T_Road) : Prop := r.From ≠ r.To ∧ RvOk r ∧ LvOk r
def PlV (l : List T_Place) : Prop := ∀ p ∈ l, plErr p = false
theorem plErr_of {p : T_Place} (h0 : -10000 ≤ p.Height) (h1 : p.Height ≤ 10000) : plErr p = false := by
  unfold plErr
  exact decide_eq_false (by omega)
theorem tmod_ne {a x : Int} {n : Nat} (ha : 0 ≤ a) (hx0 : 0 ≤ x) (hx1 : x < (n : Int) - 1) : (a + 1 + x).tmod n ≠ a := by
  intro h
  have e := Int.mul_tdiv_add_tmod (a + 1 + x) n
  rw [h] at e
  by_cases hq : (a + 1 + x).tdiv n ≤ 0
  · have := Int.mul_le_mul_of_nonneg_left hq (show (0 : Int) ≤ n by omega)
    rw [Int.mul_zero] at this
    omega
  · have := Int.mul_le_mul_of_nonneg_left (show (1 : Int) ≤ (a + 1 + x).tdiv n by omega) (show (0 : Int) ≤ n by omega)
    rw [Int.mul_one] at this
    omega
theorem rd_app' {P : T_Road → Prop} {l : List T_Road} {q : T_Road} (h : ∀ r ∈ l, P r) (hq : P q) : ∀ r ∈ l ++ [q], P r := fun x hx => by
  rcases mem_app1 hx with h' | h'
  · exact h x h'
  · subst h'; exact hq
structure MdV (pls : List T_Place) (net : List Int) (a : T_Air) (x : T_State) (c : T_draw_Codes) (b k : Nat) : Prop where
  s : MdS pls.length net a x c b k
  pe : a.Mine.Places = pls
  rv : ∀ r ∈ a.Mine.Roads, RV r
  pb : ∀ p ∈ x.Pressures, -4000 ≤ p ∧ p ≤ 4000
theorem vmade_L3 (o10 : List T_Place × T_draw_Codes) (hn : 2 ≤ o10.1.length) (hn2 : o10.1.length ≤ 12) (s : Int × List Int × T_Air × T_State × T_draw_Codes) (k0 : Nat) (hk : s.1 = (k0 : Int)) (hk5 : k0 ≤ 5) (hs : MdV o10.1 s.2.1 s.2.2.1 s.2.2.2.1 s.2.2.2.2 (5 - k0) (5 - k0)) :
    Ok (loopC (F_draw_Codes_Made_L3 o10) s) fun r => MdV o10.1 r.1 r.2.1 r.2.2.1 r.2.2.2 5 5 := by
  refine ok_loop (fun s : Int × List Int × T_Air × T_State × T_draw_Codes => ∃ k : Nat, s.1 = (k : Int) ∧ k ≤ 5 ∧ MdV o10.1 s.2.1 s.2.2.1 s.2.2.2.1 s.2.2.2.2 (5 - k) (5 - k)) (fun s => s.1.toNat) _ (fun s hs => ?_) _ ⟨k0, hk, hk5, hs⟩
  obtain ⟨k', net, a, x, c⟩ := s
  obtain ⟨k, hkk, hk5, ⟨hs, pe, rv, pb⟩⟩ := hs
  dsimp only at hkk hs pe rv pb
  subst hkk
  obtain ⟨m1, m2, m3, m4, m5, m6, m7, m8, m9⟩ := hs
  unfold F_draw_Codes_Made_L3
  dsimp only
  refine ok_dec (fun hk => ?_) (fun hk => ok_some ⟨⟨m1, fun q hq => by have := m2 q hq; omega, m3, by dsimp only; omega, m5, m6, m7, m8, m9⟩, pe, rv, pb⟩)
  refine ok_bind (next_lt c _ m9 (by omega)) fun x34 h34 => ?_
  rw [w64 (n := (o10.1.length : Int) - 1) (by omega) (by omega)]
  refine ok_bind (next_lt x34.1 _ h34.1 (by omega)) fun x36 h36 => ?_
  rw [w64 (n := x34.2 + 1) (by omega) (by omega), w64 (n := x34.2 + 1 + x36.2) (by omega) (by omega)]
  obtain ⟨q1, q2, q3⟩ := rem_lt (v := x34.2 + 1 + x36.2) (n := o10.1.length) (by omega) (by omega)
  have hne := tmod_ne (a := x34.2) (x := x36.2) (n := o10.1.length) h34.2.1 h36.2.1 h36.2.2
  rw [q1, bind_some]
  refine ok_bind (vroad_ok x36.1 _ _ h36.1) fun x40 h40 => ?_
  refine ok_bind (one_ok x40.1 7 h40.1 (by decide)) fun x42 h42 => ?_
  refine ok_bind (range_ok x42.1 (-60) 60 h42 (by decide) (by decide) (by decide)) fun x44 h44 => ?_
  refine ok_bind (Q := fun o : Int × T_Air × T_State => -60 ≤ o.1 ∧ o.1 ≤ 60 ∧ o.2.1.Mine = a.Mine ∧ o.2.2 = x) (ok_bif (fun _ => ok_some ⟨by show (-60 : Int) ≤ 0; decide, by show (0 : Int) ≤ 60; decide, rfl, rfl⟩) (fun _ => ok_some ⟨h44.2.1, h44.2.2, rfl, rfl⟩)) fun o46 h46 => ?_
  obtain ⟨b1, b2, b3, b4⟩ := h46
  have hRd : RdOk o10.1.length (T_Road.mk x40.2.From x40.2.To x40.2.Length x40.2.Area x40.2.Walk x42.2 x40.2.Rest x40.2.Lift) := ⟨by show 0 ≤ x40.2.From; rw [h40.2.1]; omega, by show x40.2.From < _; rw [h40.2.1]; omega, by show 0 ≤ x40.2.To; rw [h40.2.2.1]; omega, by show x40.2.To < _; rw [h40.2.2.1]; omega⟩
  have hRV : RV (T_Road.mk x40.2.From x40.2.To x40.2.Length x40.2.Area x40.2.Walk x42.2 x40.2.Rest x40.2.Lift) := ⟨by show x40.2.From ≠ x40.2.To; rw [h40.2.1, h40.2.2.1]; exact Ne.symm hne, h40.2.2.2.1, h40.2.2.2.2⟩
  obtain ⟨r1, r2, r3, r4⟩ := hRd
  dsimp only at r1 r2 r3 r4
  rw [b3, appI_ok (by simp; omega), bind_some, b4, appI_ok (by simp; omega), bind_some]
  refine ok_bind (ok_getI r1 (by omega)) fun x52 h52 => ?_
  refine ok_bind (ok_getI r1 (by omega)) fun x54 h54 => ?_
  have n52 := m2 x52 (mem_get h52)
  rw [w64 (n := x52 + o46.1) (by omega) (by omega)]
  refine ok_bind (ok_getI r3 (by rw [List.length_set]; omega)) fun x56 h56 => ?_
  refine ok_bind (ok_getI r3 (by rw [List.length_set]; omega)) fun x58 h58 => ?_
  have n1 : ∀ q ∈ net.set x40.2.From.toNat (x52 + o46.1), -(120 * ((5 - k : Nat) : Int) + 60) ≤ q ∧ q ≤ 120 * ((5 - k : Nat) : Int) + 60 := fun q hq => by
    rcases List.mem_or_eq_of_mem_set hq with h | h
    · have := m2 q h; omega
    · subst h; omega
  have n56 := n1 x56 (mem_get h56)
  rw [w64 (n := x56 - o46.1) (by omega) (by omega), w64 (n := (k : Int) - 1) (by omega) (by omega)]
  refine ok_some ⟨⟨k - 1, by dsimp only; omega, by omega, ⟨⟨by rw [List.length_set, List.length_set]; exact m1, fun q hq => ?_, m3, by simp; omega, rd_app m5 ⟨r1, r2, r3, r4⟩, by simp [m6], fl_app m7 (by omega), m8, h44.1⟩, pe, rd_app' rv hRV, pb⟩⟩, by dsimp only; omega⟩
  rcases List.mem_or_eq_of_mem_set hq with h | h
  · have := n1 q h; omega
  · subst h; omega
theorem vmade_L4 (o3 : List T_Place) (o10 : List T_Place × T_draw_Codes) (o27 : List Int × T_Air × T_State × T_draw_Codes) (h3 : 1 ≤ o3.length) (h32 : o3.length ≤ o10.1.length) (hn2 : o10.1.length ≤ 12) (hs : MdV o10.1 o27.1 o27.2.1 o27.2.2.1 o27.2.2.2 5 5) :
    Ok (loopC (F_draw_Codes_Made_L4 o3 o10 o27) ((o3.length : Int), (T_Air.mk o27.2.1.Mine [] []), o27.2.2.1, o27.2.2.2)) fun r => MdV o10.1 o27.1 r.1 r.2.1 r.2.2 5 17 := by
  obtain ⟨⟨m1, m2, m3, m4, m5, m6, m7, m8, m9⟩, pe, rv, pb⟩ := hs
  refine ok_loop (fun s : Int × T_Air × T_State × T_draw_Codes => ∃ i : Nat, s.1 = (i : Int) ∧ o3.length ≤ i ∧ i ≤ o10.1.length ∧ MdV o10.1 o27.1 s.2.1 s.2.2.1 s.2.2.2 5 (5 + i)) (fun s => (o10.1.length - s.1).toNat) _ (fun s hs => ?_) _ ⟨o3.length, rfl, Nat.le_refl _, h32, ⟨⟨m1, m2, m3, by dsimp only; omega, m5, m6, m7, m8, m9⟩, pe, rv, pb⟩⟩
  obtain ⟨i', a, x, c⟩ := s
  obtain ⟨i, hii, hi3, hil, ⟨hs, pe, rv, pb⟩⟩ := hs
  dsimp only at hii hs pe rv pb
  subst hii
  obtain ⟨m1, m2, m3, m4, m5, m6, m7, m8, m9⟩ := hs
  unfold F_draw_Codes_Made_L4
  dsimp only
  refine ok_dec (fun hk => ?_) (fun hk => ok_some ⟨⟨m1, m2, m3, by dsimp only; omega, m5, m6, m7, m8, m9⟩, pe, rv, pb⟩)
  refine ok_bind (next_lt c _ m9 (by omega)) fun x63 h63 => ?_
  refine ok_bind (vroad_ok x63.1 _ _ h63.1) fun x65 h65 => ?_
  refine ok_bind (ok_getI (by omega) (by omega)) fun x67 h67 => ?_
  have n67 := m2 x67 (mem_get h67)
  refine ok_bind (one_ok x65.1 2 h65.1 (by decide)) fun x69 h69 => ?_
  rw [w64 (n := 0 - x67) (by omega) (by omega), w64 (n := 0 - (0 - x67)) (by omega) (by omega)]
  have hR : RdOk o10.1.length x65.2 := ⟨by rw [h65.2.1]; omega, by rw [h65.2.1]; omega, by rw [h65.2.2.1]; omega, by rw [h65.2.2.1]; omega⟩
  have hV : RV x65.2 := ⟨by rw [h65.2.1, h65.2.2.1]; omega, h65.2.2.2.1, h65.2.2.2.2⟩
  refine ok_bind (Q := fun o : Int × T_Road × T_Air × T_State => -1000 ≤ o.1 ∧ o.1 ≤ 1000 ∧ RdOk o10.1.length o.2.1 ∧ RV o.2.1 ∧ o.2.2.1.Mine = a.Mine ∧ o.2.2.2 = x) (ok_bif (fun _ => ok_some ⟨by dsimp only; omega, by dsimp only; omega, ⟨hR.2.2.1, hR.2.2.2, hR.1, hR.2.1⟩, ⟨fun h => hV.1 h.symm, hV.2.1, hV.2.2⟩, rfl, rfl⟩) (fun _ => ok_some ⟨by dsimp only; omega, by dsimp only; omega, hR, hV, rfl, rfl⟩)) fun o71 h71 => ?_
  obtain ⟨b1, b2, b3, b3', b4, b5⟩ := h71
  rw [b4, appI_ok (by simp; omega), bind_some, b5, appI_ok (by simp; omega), bind_some, w64 (by omega) (by omega)]
  exact ok_some ⟨⟨i + 1, by dsimp only; omega, by omega, by omega, ⟨⟨m1, m2, m3, by simp; omega, rd_app m5 b3, by simp [m6], fl_app m7 ⟨b1, b2⟩, m8, h69⟩, pe, rd_app' rv b3', pb⟩⟩, by dsimp only; omega⟩
theorem vfit_ok (c : T_draw_Codes) (a : T_Air) (s : T_Setting) (x : T_State) (hc : CodesOk c) (he : EqV a s) (hm : MnOk a.Mine) (hf : x.Flows.length = a.Mine.Roads.length) (hp : x.Pressures.length = a.Mine.Places.length) (hfb : FlOk x.Flows) (hpb : ∀ p ∈ x.Pressures, -4000 ≤ p ∧ p ≤ 4000) (hrv : ∀ r ∈ a.Mine.Roads, RV r) :
    Ok (F_draw_Codes_fit c a s x) fun r => CodesOk r.1 ∧ MnOk r.2.Mine ∧ r.2.Mine.Roads.length = a.Mine.Roads.length ∧ r.2.Mine.Places = a.Mine.Places ∧ ∀ r' ∈ r.2.Mine.Roads, RV r' := by
  obtain ⟨e1, e2, e3, e4, e5, e6⟩ := he
  obtain ⟨m1, m2, m3, m4⟩ := hm
  unfold F_draw_Codes_fit
  refine ok_bind (Q := fun o => CodesOk o.1 ∧ o.2.length = a.Mine.Roads.length ∧ (∀ r ∈ o.2, RdOk a.Mine.Places.length r) ∧ ∀ r ∈ o.2, RV r) (ok_loop (fun t : Int × T_draw_Codes × List T_Road => 0 ≤ t.1 ∧ t.1 ≤ a.Mine.Roads.length ∧ t.2.2.length = a.Mine.Roads.length ∧ CodesOk t.2.1 ∧ (∀ r ∈ t.2.2, RdOk a.Mine.Places.length r) ∧ ∀ r ∈ t.2.2, RV r) (fun t => (a.Mine.Roads.length - t.1).toNat) _ (fun t ht => ?_) _ ⟨Int.le_refl _, by dsimp only; omega, rfl, hc, m4, hrv⟩) fun o ho => ok_some ⟨ho.1, ⟨m1, m2, by dsimp only; omega, ho.2.2.1⟩, ho.2.1, rfl, ho.2.2.2⟩
  obtain ⟨i, c, l⟩ := t
  obtain ⟨a1, a2, a3, a4, a5, a6⟩ := ht
  dsimp only at a1 a2 a3 a4 a5 a6
  unfold F_draw_Codes_fit_L1
  dsimp only
  refine ok_dec (fun hi => ?_) (fun hi => ok_some ⟨a4, a3, a5, a6⟩)
  refine ok_bind (ok_getI a1 hi) fun x7 h7 => ?_
  refine ok_bind (ok_getI a1 (by omega)) fun x9 h9 => ?_
  have hq := hfb x9 (mem_get h9)
  have hr := a5 x7 (mem_get h7)
  obtain ⟨v1, v2, v3⟩ := a6 x7 (mem_get h7)
  have v2' := v2
  obtain ⟨u1, u2, u3, u4, u5, u6, u7, u8⟩ := v2'
  rw [w64 (n := x7.Rest.High - x7.Rest.Low) (by omega) (by omega), w64 (n := x7.Rest.High - x7.Rest.Low + 1) (by omega) (by omega)]
  refine ok_bind (next_lt c _ a4 (by omega)) fun x11 h11 => ?_
  obtain ⟨r1, r2, r3, r4⟩ := hr
  rw [w64 (n := x7.Rest.Low + x11.2) (by omega) (by omega)]
  refine ok_bind (Q := fun o => 0 ≤ o ∧ o ≤ 1900) (ok_loop (fun t : Int × Int => 0 ≤ t.2 ∧ t.2 ≤ a.Doors.length ∧ 0 ≤ t.1 ∧ t.1 ≤ 23 + 900 * t.2) (fun t => (a.Doors.length - t.2).toNat) _ (fun t ht => ?_) _ ⟨Int.le_refl _, by dsimp only; omega, by dsimp only; omega, by dsimp only; omega⟩) fun o14 ho14 => ?_
  · unfold F_draw_Codes_fit_L2
    obtain ⟨v, k⟩ := t
    obtain ⟨t1, t2, t3, t4⟩ := ht
    dsimp only at t1 t2 t3 t4 ⊢
    refine ok_dec (fun hk => ?_) (fun _ => ok_some ⟨t3, by omega⟩)
    refine ok_bind (Q := fun o => 0 ≤ o ∧ o ≤ 23 + 900 * k + 900) (ok_bind (ok_getI t1 hk) fun x17 h17 => ok_dec (fun _ => ?_) (fun _ => ok_some ⟨t3, by omega⟩)) fun o ho => ?_
    · refine ok_bind (ok_getI t1 hk) fun x20 h20 => ?_
      refine ok_bind (ok_getI t1 (by omega)) fun x22 h22 => ?_
      refine ok_bind (vrest_ok x20 x22 (e6 x20 (mem_get h20))) fun z hz => ?_
      rw [w64 (by omega) (by omega)]
      exact ok_some ⟨by omega, by omega⟩
    · rw [w64 (n := k + 1) (by omega) (by omega)]
      exact ok_some ⟨⟨by dsimp only; omega, by dsimp only; omega, ho.1, by dsimp only; omega⟩, by dsimp only; omega⟩
  · rw [h7, bind_some]
    refine ok_bind (ok_getI r1 (by omega)) fun x28 h28 => ?_
    refine ok_bind (ok_getI r3 (by omega)) fun x30 h30 => ?_
    have p28 := hpb x28 (mem_get h28)
    have p30 := hpb x30 (mem_get h30)
    have hm1 := mul_bd (a := o14) (b := max x9 (0 - x9)) (A := 1900) (B := 1000) ho14.1 ho14.2 (by omega) (by omega) (by decide)
    have hm2 := mul_bd2 (a := o14 * max x9 (0 - x9)) (b := x9) (A := 1900000) (B := 1000) (by omega) (by omega) (by omega) (by omega) (by decide)
    rw [w64 (n := 0 - x9) (by omega) (by omega), w64 (n := o14 * max x9 (0 - x9)) (by omega) (by omega), w64 (n := o14 * max x9 (0 - x9) * x9) (by omega) (by omega), w64 (n := x28 - x30) (by omega) (by omega), w64 (n := o14 * max x9 (0 - x9) * x9 - (x28 - x30)) (by omega) (by omega)]
    refine ok_bind (Q := fun o => -2000000000 ≤ o ∧ o ≤ 2000000000) (ok_loop (fun t : Int × Int => 0 ≤ t.2 ∧ t.2 ≤ a.Fans.length ∧ -(1900008000 + 6010000 * t.2) ≤ t.1 ∧ t.1 ≤ 1900008000 + 6010000 * t.2) (fun t => (a.Fans.length - t.2).toNat) _ (fun t ht => ?_) _ ⟨Int.le_refl _, by dsimp only; omega, by dsimp only; omega, by dsimp only; omega⟩) fun o33 ho33 => ?_
    · unfold F_draw_Codes_fit_L3
      obtain ⟨v, k⟩ := t
      obtain ⟨t1, t2, t3, t4⟩ := ht
      dsimp only at t1 t2 t3 t4 ⊢
      refine ok_dec (fun hk => ?_) (fun _ => ok_some ⟨by omega, by omega⟩)
      refine ok_bind (Q := fun o => -(1900008000 + 6010000 * k + 6010000) ≤ o ∧ o ≤ 1900008000 + 6010000 * k + 6010000) (ok_bind (ok_getI t1 hk) fun x17 h17 => ok_dec (fun _ => ?_) (fun _ => ok_some ⟨by omega, by omega⟩)) fun o ho => ?_
      · refine ok_bind (ok_getI t1 hk) fun x20 h20 => ?_
        refine ok_bind (ok_getI t1 (by omega)) fun x22 h22 => ?_
        refine ok_bind (vstate_ok x20 x22 _ (e3 x20 (mem_get h20)) hq.1 hq.2) fun z hz => ?_
        rw [w64 (by omega) (by omega)]
        exact ok_some ⟨by omega, by omega⟩
      · rw [w64 (n := k + 1) (by omega) (by omega)]
        exact ok_some ⟨⟨by dsimp only; omega, by dsimp only; omega, by dsimp only; omega, by dsimp only; omega⟩, by dsimp only; omega⟩
    · refine ok_bind (next_lt x11.1 30 h11.1 (by decide)) fun x45 h45 => ?_
      refine ok_bind (next_lt x45.1 30 h45.1 (by decide)) fun x47 h47 => ?_
      rw [bind_some, w64 (n := i + 1) (by omega) (by omega), w64 (n := o33 - x45.2) (by omega) (by omega), w64 (n := o33 + x47.2) (by omega) (by omega)]
      refine ok_some ⟨⟨by dsimp only; omega, by dsimp only; omega, by rw [List.length_set]; exact a3, h47.1, fun r hr => ?_, fun r hr => ?_⟩, by dsimp only; omega⟩
      · rcases List.mem_or_eq_of_mem_set hr with h | h
        · exact a5 r h
        · subst h; exact ⟨r1, r2, r3, r4⟩
      · rcases List.mem_or_eq_of_mem_set hr with h | h
        · exact a6 r h
        · subst h; exact ⟨v1, v2, by dsimp only; omega, by dsimp only; omega, by dsimp only; omega⟩
def MnV (m : T_Mine) : Prop := (PlV m.Places ∧ ∀ r ∈ m.Roads, RV r) ∧ m.Places.length ≤ 7
theorem vmade_ok (c : T_draw_Codes) (hc : CodesOk c) : Ok (F_draw_Codes_Made c) fun r => MnV r.2.1.Mine := by
  unfold F_draw_Codes_Made
  refine ok_bind (one_ok c 3 hc (by decide)) fun x1 h1 => ?_
  refine ok_bind (Q := fun o : List T_Place => 1 ≤ o.length ∧ o.length ≤ 2 ∧ PlV o) (ok_bif (fun _ => ?_) (fun _ => ok_some ⟨by simp, by simp, fun p hp => by simp at hp; subst hp; rfl⟩)) fun o3 h3 => ?_
  · rw [appI_ok (by simp), bind_some]
    refine ok_some ⟨by simp, by simp, fun p hp => ?_⟩
    simp at hp
    rcases hp with rfl | rfl <;> rfl
  refine ok_bind (next_lt x1.1 5 h1 (by decide)) fun x7 h7 => ?_
  refine ok_bind (Q := fun o : List T_Place × T_draw_Codes => o3.length ≤ o.1.length ∧ o.1.length ≤ 6 ∧ CodesOk o.2 ∧ PlV o.1) (ok_loop (fun s : Int × List T_Place × T_draw_Codes => 0 ≤ s.1 ∧ o3.length ≤ s.2.1.length ∧ (s.2.1.length : Int) + s.1 ≤ 6 ∧ CodesOk s.2.2 ∧ PlV s.2.1) (fun s => s.1.toNat) _ (fun s hs => ?_) _ ⟨h7.2.1, Nat.le_refl _, by dsimp only; omega, h7.1, h3.2.2⟩) fun o10 h10 => ?_
  · obtain ⟨k, l, c⟩ := s
    obtain ⟨a1, a2, a3, a4, a5⟩ := hs
    dsimp only at a1 a2 a3 a4 a5
    unfold F_draw_Codes_Made_L1
    dsimp only
    refine ok_dec (fun hk => ?_) (fun hk => ok_some ⟨a2, by dsimp only; omega, a4, a5⟩)
    refine ok_bind (next_lt c 100 a4 (by decide)) fun x12 h12 => ?_
    rw [appI_ok (by simp; omega), bind_some, w64 (n := k - 1) (by omega) (by omega), w64 (n := 0 - x12.2) (by omega) (by omega)]
    refine ok_some ⟨⟨by dsimp only; omega, by simp; omega, by simp; omega, h12.1, fun p hp => ?_⟩, by dsimp only; omega⟩
    rcases mem_app1 hp with h | h
    · exact a5 p h
    · subst h; exact plErr_of (by dsimp only; omega) (by dsimp only; omega)
  obtain ⟨p1, p2, p3, p4⟩ := h10
  rw [makI_ok (by omega) (by omega), bind_some, Int.toNat_natCast]
  refine ok_bind (Q := fun o : List Int × T_draw_Codes => o.1.length = o10.1.length ∧ CodesOk o.2 ∧ ∀ p ∈ o.1, -4000 ≤ p ∧ p ≤ 4000) (ok_loop (fun s : Int × List Int × T_draw_Codes => 0 ≤ s.1 ∧ s.2.1.length = o10.1.length ∧ CodesOk s.2.2 ∧ ∀ p ∈ s.2.1, -4000 ≤ p ∧ p ≤ 4000) (fun s => (o10.1.length - s.1).toNat) _ (fun s hs => ?_) _ ⟨by dsimp only; omega, by simp, p3, fun p hp => by have := List.eq_of_mem_replicate hp; omega⟩) fun o19 h19 => ?_
  · obtain ⟨k, l, c⟩ := s
    obtain ⟨a1, a2, a3, a4⟩ := hs
    dsimp only at a1 a2 a3 a4
    unfold F_draw_Codes_Made_L2
    dsimp only
    refine ok_dec (fun hk => ?_) (fun hk => ok_some ⟨a2, a3, a4⟩)
    refine ok_bind (range_ok c (-4000) 4000 a3 (by decide) (by decide) (by decide)) fun x21 h21 => ?_
    refine ok_bind (ok_getI a1 (by omega)) fun x23 h23 => ?_
    rw [w64 (by omega) (by omega)]
    refine ok_some ⟨⟨by dsimp only; omega, by rw [List.length_set]; exact a2, h21.1, fun p hp => ?_⟩, by dsimp only; omega⟩
    rcases List.mem_or_eq_of_mem_set hp with h | h
    · exact a4 p h
    · subst h; exact h21.2
  rw [bind_some]
  have hz : ∀ (b : Nat), ∀ q ∈ List.replicate o10.1.length (0 : Int), -(120 * (b : Int)) ≤ q ∧ q ≤ 120 * (b : Int) := fun b q hq => by
    have := List.eq_of_mem_replicate hq
    omega
  refine ok_bind (Q := fun o : List Int × T_Air × T_State × T_draw_Codes => MdV o10.1 o.1 o.2.1 o.2.2.1 o.2.2.2 5 5) (ok_dec (fun hn => ?_) (fun hn => ok_some ⟨⟨by simp, hz 5, rfl, by simp, (fun r hr => by cases hr), rfl, (fun q hq => by cases hq), h19.1, h19.2.1⟩, rfl, (fun r hr => by cases hr), h19.2.2⟩)) fun o27 h27 => ?_
  · refine ok_bind (next_lt o19.2 6 h19.2.1 (by decide)) fun x29 h29 => ?_
    obtain ⟨k, hk⟩ : ∃ k : Nat, x29.2 = (k : Int) := ⟨x29.2.toNat, by omega⟩
    refine ok_bind (vmade_L3 o10 (by omega) (by omega) _ k hk (by omega) ⟨⟨by simp, hz _, rfl, by simp, (fun r hr => by cases hr), rfl, (fun q hq => by cases hq), h19.1, h29.1⟩, rfl, (fun r hr => by cases hr), h19.2.2⟩) fun o32 h32 => ok_some ?_
    obtain ⟨⟨m1, m2, m3, m4, m5, m6, m7, m8, m9⟩, pe, rv, pb⟩ := h32
    exact ⟨⟨m1, m2, m3, m4, m5, m6, m7, m8, m9⟩, pe, rv, pb⟩
  refine ok_bind (vmade_L4 o3 o10 o27 h3.1 p1 (by omega) h27) fun o61 h61 => ?_
  obtain ⟨⟨m1, m2, m3, m4, m5, m6, m7, m8, m9⟩, pe, rv, pb⟩ := h61
  refine ok_bind (vequipped_ok o61.2.2 o61.1.Mine m9 (by omega)) fun x77 h77 => ?_
  have hM : MnOk x77.2.1.Mine := by rw [h77.2.1]; exact ⟨by omega, by omega, by omega, by rw [m3]; exact m5⟩
  refine ok_bind (vfit_ok x77.1 x77.2.1 x77.2.2 o61.2.1 h77.1 h77.2.2 hM (by rw [h77.2.1]; exact m6) (by rw [h77.2.1]; omega) m7 pb (by rw [h77.2.1]; exact rv)) fun x79 h79 => ?_
  have hE := h77.2.2
  refine ok_bind (doubts_ok x79.1 x79.2 x77.2.2 h79.1 (by have := hE.f1; have := hE.f2; omega) (by have := hE.d1; have := hE.d2; omega)) fun x81 h81 => ok_some ?_
  have e : x79.2.Mine.Places = o10.1 := by rw [h79.2.2.2.1, h77.2.1, pe]
  exact ⟨⟨by dsimp only; rw [e]; exact p4, h79.2.2.2.2⟩, by dsimp only; rw [e]; omega⟩

theorem rep_bt {n : Nat} {k : Int} : bt (List.replicate n false) k = false := by
  unfold bt
  by_cases hh : k.toNat < n
  · rw [List.getElem?_replicate_of_lt hh]; rfl
  · rw [List.getElem?_eq_none (by simpa using hh)]; rfl
def rmarks (m : T_Mine) (l : List Int) (o : List Bool) : List Bool := l.foldl (fun o i => (o.set (rd0 m i.toNat).From.toNat true).set (rd0 m i.toNat).To.toNat true) o
def dirF (f : T_Span) : Int := if f.High < f.Low then 0 else if 0 < f.Low then 1 else if f.High < 0 then -1 else 0
theorem dir_eq (f : T_Span) : F_airflow_Direction f = some (dirF f) ∧ F_ref13_Direction f = some (dirF f) := by
  unfold F_airflow_Direction F_ref13_Direction dirF
  constructor <;> (simp only [bif_ite]; split; rfl; split; rfl; split <;> rfl)
def upF (n b : Int) : Int := n.tdiv b + min (n.tmod b) 1
def addF (f : T_Span) (n : Int) : Int := if n = 0 then 0 else if dirF f = 1 then min 1000000 (upF n f.Low) else if dirF f = -1 then min 1000000 (upF n (0 - f.High)) else 1000000
theorem up_bd {n b : Int} (hn : 0 ≤ n) (hb : 1 ≤ b) : 0 ≤ n.tdiv b ∧ n.tdiv b ≤ n ∧ 0 ≤ n.tmod b ∧ n.tmod b < b :=
  ⟨Int.tdiv_nonneg hn (by omega), Int.tdiv_le_self _ hn, Int.tmod_nonneg b hn, Int.tmod_lt_of_pos n (by omega)⟩
theorem gadd_eq (f : T_Span) (n : Int) (hn : 0 ≤ n) (hn1 : n ≤ 70368744177664) (hf : -4611686018427387904 ≤ f.High) : F_gas_added f n = some (addF f n) := by
  unfold F_gas_added addF
  rw [(dir_eq f).1, bind_some]
  by_cases h1 : dirF f = 1
  · have hl : 0 < f.Low := by unfold dirF at h1; split at h1; cases h1; split at h1; assumption; split at h1 <;> cases h1
    obtain ⟨u1, u2, u3, u4⟩ := up_bd (n := n) (b := f.Low) hn (by omega)
    rw [bif_pos h1, bind_some]
    dsimp only [Sum.elim_inl]
    rw [quoI_ok (by omega), bind_some, remI_ok (by omega), bind_some, w64 (n := n.tdiv f.Low) (by omega) (by omega), w64 (by omega) (by omega), if_pos h1]
    by_cases h0 : n = 0
    · subst h0
      rw [if_pos rfl, Int.zero_tdiv, Int.zero_tmod]
      rfl
    · rw [if_neg h0, Int.min_comm]
      rfl
  · rw [bif_neg h1, if_neg h1]
    by_cases h2 : dirF f = -1
    · have hl : f.High < 0 := by unfold dirF at h2; split at h2; cases h2; split at h2; cases h2; split at h2; assumption; cases h2
      obtain ⟨u1, u2, u3, u4⟩ := up_bd (n := n) (b := 0 - f.High) hn (by omega)
      rw [bif_pos h2, bind_some, w64 (n := 0 - f.High) (by omega) (by omega), show max (0 - f.High) 1 = 0 - f.High by omega]
      dsimp only [Sum.elim_inl]
      rw [quoI_ok (by omega), bind_some, remI_ok (by omega), bind_some, w64 (n := n.tdiv (0 - f.High)) (by omega) (by omega), w64 (by omega) (by omega), if_pos h2]
      by_cases h0 : n = 0
      · subst h0
        rw [if_pos rfl, Int.zero_tdiv, Int.zero_tmod]
        rfl
      · rw [if_neg h0, Int.min_comm]
        rfl
    · rw [bif_neg h2, if_neg h2]
      by_cases h0 : n = 0
      · rw [bif_neg (by omega), if_pos h0]; rfl
      · rw [bif_pos (by omega), if_neg h0]; rfl
theorem addF_bd {f : T_Span} {n : Int} (hn : 0 ≤ n) : 0 ≤ addF f n ∧ addF f n ≤ 1000000 := by
  unfold addF
  split
  · omega
  · split
    · rename_i h1
      have hl : 0 < f.Low := by unfold dirF at h1; split at h1; cases h1; split at h1; assumption; split at h1 <;> cases h1
      obtain ⟨u1, u2, u3, u4⟩ := up_bd (n := n) (b := f.Low) hn (by omega)
      unfold upF
      omega
    · split
      · rename_i h2
        have hl : f.High < 0 := by unfold dirF at h2; split at h2; cases h2; split at h2; cases h2; split at h2; assumption; cases h2
        obtain ⟨u1, u2, u3, u4⟩ := up_bd (n := n) (b := 0 - f.High) hn (by omega)
        unfold upF
        omega
      · omega

def srcErr (n : Int) (s : T_Source) : Int := if s.Road < 0 ∨ n ≤ s.Road then 4 else if spIn s.Inflow 0 1099511627776 = false then 1 else 0
def chkS (m : T_Mine) (l : List T_Source) : Int := if chkM m ≠ 0 then chkM m else if 32 < (l.length : Int) then 2 else firstE (srcErr m.Roads.length) l
theorem pick_src {n : Int} {s : T_Source} {β : Type} {i : β} : (bif decide (s.Road < 0 ∨ n ≤ s.Road) then some (Sum.inr (Sum.inl (4 : Int))) else bif decide (spIn s.Inflow 0 1099511627776 = false) then some (Sum.inr (Sum.inl (1 : Int))) else some (Sum.inl i) : Option (β ⊕ (Int ⊕ Unit))) =
    if srcErr n s = 0 then some (.inl i) else some (.inr (.inl (srcErr n s))) := by
  unfold srcErr
  by_cases h1 : s.Road < 0 ∨ n ≤ s.Road
  · rw [bif_pos h1, if_pos h1, if_neg (by decide)]
  · rw [bif_neg h1, if_neg h1]
    by_cases h2 : spIn s.Inflow 0 1099511627776 = false
    · rw [bif_pos h2, if_pos h2, if_neg (by decide)]
    · rw [bif_neg h2, if_neg h2, if_pos rfl]
theorem scheck_eq (m : T_Mine) (l : List T_Source) (hs : Sz m) : F_gas_Check m l = some (chkS m l) ∧ F_ref16_Check m l = some (chkS m l) := by
  have a1 : l.length ≤ 32 → loopC (F_gas_Check_L1 m l) 0 = some (if firstE (srcErr m.Roads.length) l = 0 then .inr () else .inl (firstE (srcErr m.Roads.length) l)) := fun hl => by
    refine first_loop l _ (fun i x hx => ?_) (by unfold F_gas_Check_L1; rw [bif_neg (by omega)])
    have hi := (List.getElem?_eq_some_iff.1 hx).1
    unfold F_gas_Check_L1
    rw [bif_pos (by omega), getI_nat, hx, bind_some, or_bif rfl, bind_some, or_bif (or_bif rfl), bind_some, w64 (by omega) (by omega), ← pick_src]
    by_cases h1 : x.Road < 0 ∨ (m.Roads.length : Int) ≤ x.Road
    · rw [bif_pos h1, bif_pos h1]
    · rw [bif_neg h1, bif_neg h1]
      by_cases h2 : x.Inflow.Low < 0 ∨ x.Inflow.High < x.Inflow.Low ∨ 1099511627776 < x.Inflow.High
      · rw [bif_pos h2, bif_pos (by unfold spIn; exact decide_eq_false (by omega))]
      · rw [bif_neg h2, bif_neg (by unfold spIn; rw [decide_eq_true (by omega)]; simp)]
  have a2 : l.length ≤ 32 → loopC (F_ref16_Check_L1 m l) 0 = some (if firstE (srcErr m.Roads.length) l = 0 then .inr () else .inl (firstE (srcErr m.Roads.length) l)) := fun hl => by
    refine first_loop l _ (fun i x hx => ?_) (by unfold F_ref16_Check_L1; rw [bif_neg (by omega)])
    have hi := (List.getElem?_eq_some_iff.1 hx).1
    unfold F_ref16_Check_L1
    rw [bif_pos (by omega), getI_nat, hx, bind_some, bind_some, or_bif rfl, bind_some, bind_some, (span_eq _ _ _).2, bind_some, w64 (by omega) (by omega), ← pick_src]
    cases spIn x.Inflow 0 1099511627776 <;> rfl
  unfold F_gas_Check F_ref16_Check chkS
  rw [(pcheck_eq m hs).1, (pcheck_eq m hs).2, bind_some, bind_some]
  by_cases hc : chkM m ≠ 0
  · rw [bif_pos hc, if_pos hc]
    exact ⟨rfl, by rw [bif_pos hc]⟩
  · rw [bif_neg hc, if_neg hc, bif_neg hc]
    by_cases hl : 32 < (l.length : Int)
    · rw [bif_pos hl, if_pos hl]
      exact ⟨rfl, by rw [bif_pos hl]⟩
    · rw [bif_neg hl, if_neg hl, bif_neg hl, a1 (by omega), a2 (by omega), bind_some]
      by_cases h3 : firstE (srcErr m.Roads.length) l = 0
      · rw [if_pos h3, h3]
        exact ⟨rfl, rfl⟩
      · rw [if_neg h3]
        exact ⟨rfl, rfl⟩

def nt (o : List Int) (k : Nat) : Int := (o[k]?).getD 0
theorem nt_get {o : List Int} {k : Nat} (h : k < o.length) : o[k]? = some (nt o k) := by
  unfold nt
  rw [List.getElem?_eq_getElem h]
  rfl
theorem nt_set {o : List Int} {i k : Nat} {v : Int} (hi : i < o.length) : nt (o.set i v) k = if k = i then v else nt o k := by
  unfold nt
  rw [List.getElem?_set]
  by_cases h : i = k
  · rw [if_pos h, if_pos hi, if_pos h.symm]; rfl
  · rw [if_neg h, if_neg (fun e => h e.symm)]
def inS (i : Int) (s : Int) (x : T_Source) : Int := if x.Road = i then s + x.Inflow.High else s
def inF (l : List T_Source) (i : Int) : Int := l.foldl (inS i) 0
def SrOk (n : Nat) (x : T_Source) : Prop := 0 ≤ x.Road ∧ x.Road < (n : Int) ∧ 0 ≤ x.Inflow.High ∧ x.Inflow.High ≤ 1099511627776
theorem src_ok {m : T_Mine} {l : List T_Source} (h : chkS m l = 0) : chkM m = 0 ∧ l.length ≤ 32 ∧ ∀ x ∈ l, SrOk m.Roads.length x := by
  unfold chkS at h
  split at h
  · rename_i h1; exact absurd h h1
  · split at h
    · cases h
    · rename_i h1 h2
      refine ⟨by omega, by omega, fun x hx => ?_⟩
      have := first0 h x hx
      unfold srcErr at this
      split at this
      · cases this
      · split at this
        · cases this
        · rename_i h3 h4
          have h5 : spIn x.Inflow 0 1099511627776 = true := by simpa using h4
          have := of_decide_eq_true h5
          unfold SrOk
          omega
theorem inflow_eq {n : Nat} {l : List T_Source} (hl : l.length ≤ 32) (ho : ∀ x ∈ l, SrOk n x) : ∃ o, loopC (F_gas_Most_L1 l) (0, List.replicate n (0 : Int)) = some o ∧ o.length = n ∧ ∀ k, k < n → nt o k = inF l (k : Int) ∧ 0 ≤ nt o k ∧ nt o k ≤ 35184372088832 := by
  have key := over l (fun (o : List Int) x => o.set x.Road.toNat (nt o x.Road.toNat + x.Inflow.High)) (fun i o => ((i, o) : Int × List Int)) id (g := F_gas_Most_L1 l) (fun i o => o.length = n ∧ ∀ k, k < n → nt o k = (l.take i).foldl (inS (k : Int)) 0 ∧ 0 ≤ nt o k ∧ nt o k ≤ 1099511627776 * (i : Int)) (fun i x o hx hI => ?_) (fun o _ => by unfold F_gas_Most_L1; rw [bif_neg (by dsimp only; omega)]; rfl) (List.replicate n 0) ⟨by simp, fun k hk => ?_⟩
  · obtain ⟨k1, k2, k3⟩ := key
    refine ⟨_, k1, k2, fun k hk => ?_⟩
    obtain ⟨q1, q2, q3⟩ := k3 k hk
    rw [List.take_length] at q1
    exact ⟨q1, q2, by dsimp only [id] at q3 ⊢; omega⟩
  · obtain ⟨h1, h2⟩ := hI
    have hi := (List.getElem?_eq_some_iff.1 hx).1
    obtain ⟨s1, s2, s3, s4⟩ := ho x (List.mem_of_getElem? hx)
    obtain ⟨r, hr⟩ : ∃ r : Nat, x.Road = (r : Int) := ⟨x.Road.toNat, by omega⟩
    have hrn : r < n := by omega
    obtain ⟨q1, q2, q3⟩ := h2 r hrn
    refine ⟨?_, by rw [List.length_set]; exact h1, fun k hk => ?_⟩
    · unfold F_gas_Most_L1
      dsimp only
      rw [bif_pos (by omega), getI_nat, hx, bind_some, hr, getI_nat, nt_get (by omega), bind_some, bind_some, Int.toNat_natCast, w64 (n := (i : Int) + 1) (by omega) (by omega), w64 (by omega) (by omega)]
    · have ht : l.take (i + 1) = l.take i ++ [x] := by rw [List.take_add_one, hx]; rfl
      rw [ht, List.foldl_append, hr, Int.toNat_natCast, nt_set (by omega)]
      obtain ⟨p1, p2, p3⟩ := h2 k hk
      have e0 : ∀ v, inS (k : Int) v x = if (r : Int) = (k : Int) then v + x.Inflow.High else v := fun v => by unfold inS; rw [hr]
      show _ = inS (k : Int) _ x ∧ _
      rw [e0, ← p1]
      by_cases e : k = r
      · subst e
        rw [if_pos rfl, if_pos rfl]
        exact ⟨rfl, by omega, by push_cast; omega⟩
      · rw [if_neg e, if_neg (by omega)]
        exact ⟨rfl, p2, by push_cast; omega⟩
  · have e : nt (List.replicate n (0 : Int)) k = 0 := by unfold nt; rw [List.getElem?_replicate_of_lt hk]; rfl
    rw [e]
    exact ⟨rfl, by omega, by omega⟩

structure Sol (m : T_Mine) (f : List T_Span) (mo p0 p r : Nat → Int) : Prop where
  st : ∀ k, k < m.Places.length → p0 k ≤ p k
  wy : ∀ i d, i < m.Roads.length → can m f i d = true → min 1000000 (p (arcD m i d).from_.toNat + mo i) ≤ r i
  up : ∀ i d, i < m.Roads.length → can m f i d = true → sf m (arcD m i d).to_ = false → r i ≤ p (arcD m i d).to_.toNat
  no : ∀ i, i < m.Roads.length → can m f i false = false → can m f i true = false → 1000000 ≤ r i
structure Inv (m : T_Mine) (f : List T_Span) (mo p0 : Nat → Int) (P R : List Int) : Prop where
  lp : P.length = m.Places.length
  lr : R.length = m.Roads.length
  bp : ∀ k, 0 ≤ nt P k ∧ nt P k ≤ 1000000
  br : ∀ k, 0 ≤ nt R k ∧ nt R k ≤ 1000000
  s0 : ∀ k, k < m.Places.length → p0 k ≤ nt P k
  le : ∀ p' r', Sol m f mo p0 p' r' → (∀ k, k < m.Places.length → nt P k ≤ p' k) ∧ (∀ i, i < m.Roads.length → nt R i ≤ r' i)
structure Lst (m : T_Mine) (f : List T_Span) (mo p0 : Nat → Int) (P R : List Int) : Prop where
  iv : Inv m f mo p0 P R
  sol : Sol m f mo p0 (nt P) (nt R)
theorem nt_ext {a b : List Int} (hl : a.length = b.length) (h : ∀ k, k < a.length → nt a k = nt b k) : a = b := by
  refine List.ext_getElem? fun k => ?_
  by_cases hk : k < a.length
  · rw [nt_get hk, nt_get (by omega), h k hk]
  · rw [List.getElem?_eq_none (by omega), List.getElem?_eq_none (by omega)]
theorem Lst.uniq {m : T_Mine} {f : List T_Span} {mo p0 : Nat → Int} {P R P' R' : List Int} (h : Lst m f mo p0 P R) (h' : Lst m f mo p0 P' R') : P = P' ∧ R = R' := by
  obtain ⟨a1, a2⟩ := h.iv.le _ _ h'.sol
  obtain ⟨b1, b2⟩ := h'.iv.le _ _ h.sol
  have l1 := h.iv.lp
  have l2 := h.iv.lr
  constructor
  · refine nt_ext (l1.trans h'.iv.lp.symm) fun k hk => ?_
    have := a1 k (by omega)
    have := b1 k (by omega)
    omega
  · refine nt_ext (l2.trans h'.iv.lr.symm) fun k hk => ?_
    have := a2 k (by omega)
    have := b2 k (by omega)
    omega

/-! ### how far there still is to go -/
def sumG (o : List Int) : Nat := (o.map fun x => (1000000 - x).toNat).sum
theorem sumG_set : ∀ (o : List Int) (k : Nat) (n : Int), k < o.length → nt o k < n → n ≤ 1000000 → sumG (o.set k n) < sumG o
  | [], k, n, h, _, _ => by simp at h
  | x :: o, 0, n, _, h1, h2 => by
    unfold nt at h1
    simp at h1
    unfold sumG
    simp
    omega
  | x :: o, k + 1, n, h, h1, h2 => by
    have := sumG_set o k n (by simpa using h) (by unfold nt at h1 ⊢; simpa using h1) h2
    unfold sumG at this ⊢
    simp only [List.set_cons_succ, List.map_cons, List.sum_cons]
    omega
def muG (P R : List Int) : Nat := sumG P + sumG R
def updc (c : Bool) (o : List Int) (k : Nat) (n : Int) : List Int := bif c && decide (nt o k < n) then o.set k n else o
theorem updc_len {c : Bool} {o : List Int} {k : Nat} {n : Int} : (updc c o k n).length = o.length := by
  unfold updc
  cases c && decide (nt o k < n) <;> simp
theorem updc_nt {c : Bool} {o : List Int} {k : Nat} {n : Int} (hk : k < o.length) (j : Nat) : nt (updc c o k n) j = if j = k ∧ c = true then max (nt o k) n else nt o j := by
  unfold updc
  cases c with
  | false => simp
  | true =>
    by_cases h : nt o k < n
    · rw [decide_eq_true h]
      show nt (o.set k n) j = _
      rw [nt_set hk]
      by_cases e : j = k
      · rw [if_pos e, if_pos ⟨e, rfl⟩]; omega
      · rw [if_neg e, if_neg (fun h => e h.1)]
    · rw [decide_eq_false h]
      show nt o j = _
      by_cases e : j = k
      · subst e; rw [if_pos ⟨rfl, rfl⟩]; omega
      · rw [if_neg (fun h => e h.1)]
theorem updc_ge {c : Bool} {o : List Int} {k : Nat} {n : Int} (hk : k < o.length) (j : Nat) : nt o j ≤ nt (updc c o k n) j := by
  rw [updc_nt hk]
  split
  · rename_i h; rw [h.1]; omega
  · omega
structure Kp (m : T_Mine) (f : List T_Span) (mo p0 : Nat → Int) (P0 R0 : List Int) (ag : Bool) (P R : List Int) : Prop where
  iv : Inv m f mo p0 P R
  mu : muG P R ≤ muG P0 R0
  t : ag = true → muG P R < muG P0 R0
  un : ag = false → P = P0 ∧ R = R0
theorem Kp.road {m : T_Mine} {f : List T_Span} {mo p0 : Nat → Int} {P0 R0 P R : List Int} {ag : Bool} (h : Kp m f mo p0 P0 R0 ag P R) {i : Nat} {n : Int} (hi : i < m.Roads.length) (hb : 0 ≤ n ∧ n ≤ 1000000) (hn : ∀ p' r', Sol m f mo p0 p' r' → n ≤ r' i) :
    Kp m f mo p0 P0 R0 (ag || decide (nt R i < n)) P (updc true R i n) := by
  have hl : i < R.length := by rw [h.iv.lr]; exact hi
  have hiv : Inv m f mo p0 P (updc true R i n) := by
    refine ⟨h.iv.lp, updc_len.trans h.iv.lr, h.iv.bp, fun k => ?_, h.iv.s0, fun p' r' hs => ⟨(h.iv.le p' r' hs).1, fun j hj => ?_⟩⟩
    · rw [updc_nt hl]
      have := h.iv.br k
      split
      · have := h.iv.br i; omega
      · exact this
    · rw [updc_nt hl]
      have h1 := (h.iv.le p' r' hs).2 j hj
      split
      · rename_i e; rw [e.1] at h1 ⊢; have := hn p' r' hs; omega
      · exact h1
  by_cases hlt : nt R i < n
  · have hs := sumG_set R i n hl hlt hb.2
    have e : updc true R i n = R.set i n := by unfold updc; rw [decide_eq_true hlt]; rfl
    rw [e] at hiv ⊢
    have := h.mu
    unfold muG at this
    rw [decide_eq_true hlt, Bool.or_true]
    exact ⟨hiv, by unfold muG; omega, fun _ => by unfold muG; omega, fun h => by cases h⟩
  · have e : updc true R i n = R := by unfold updc; rw [decide_eq_false hlt]; rfl
    rw [e, decide_eq_false hlt, Bool.or_false]
    exact h
theorem Kp.place {m : T_Mine} {f : List T_Span} {mo p0 : Nat → Int} {P0 R0 P R : List Int} {ag : Bool} (h : Kp m f mo p0 P0 R0 ag P R) {k : Nat} {n : Int} {c : Bool} (hk : k < m.Places.length) (hb : 0 ≤ n ∧ n ≤ 1000000) (hn : c = true → ∀ p' r', Sol m f mo p0 p' r' → n ≤ p' k) :
    Kp m f mo p0 P0 R0 (ag || (c && decide (nt P k < n))) (updc c P k n) R := by
  cases c with
  | false =>
    rw [Bool.false_and, Bool.or_false]
    exact h
  | true =>
  have hn := hn rfl
  rw [Bool.true_and]
  have hl : k < P.length := by rw [h.iv.lp]; exact hk
  have hiv : Inv m f mo p0 (updc true P k n) R := by
    refine ⟨updc_len.trans h.iv.lp, h.iv.lr, fun j => ?_, h.iv.br, fun j hj => ?_, fun p' r' hs => ⟨fun j hj => ?_, (h.iv.le p' r' hs).2⟩⟩
    · rw [updc_nt hl]
      have := h.iv.bp j
      split
      · have := h.iv.bp k; omega
      · exact this
    · have := updc_ge (c := true) (n := n) hl j
      have := h.iv.s0 j hj
      omega
    · rw [updc_nt hl]
      have h1 := (h.iv.le p' r' hs).1 j hj
      split
      · rename_i e; rw [e.1] at h1 ⊢; have := hn p' r' hs; omega
      · exact h1
  by_cases hlt : nt P k < n
  · have hs := sumG_set P k n hl hlt hb.2
    have e : updc true P k n = P.set k n := by unfold updc; rw [decide_eq_true hlt]; rfl
    rw [e] at hiv ⊢
    have := h.mu
    unfold muG at this
    rw [decide_eq_true hlt, Bool.or_true]
    exact ⟨hiv, by unfold muG; omega, fun _ => by unfold muG; omega, fun h => by cases h⟩
  · have e : updc true P k n = P := by unfold updc; rw [decide_eq_false hlt]; rfl
    rw [e, decide_eq_false hlt, Bool.or_false]
    exact h

/-! ### the program's search -/
def nF (m : T_Mine) (f : List T_Span) (mo : Nat → Int) (P : List Int) (i : Nat) : Int :=
  if can m f i false = false ∧ can m f i true = false then 1000000 else
    min ((if can m f i true = true then max (if can m f i false = true then nt P (rd0 m i).From.toNat else 0) (nt P (rd0 m i).To.toNat) else (if can m f i false = true then nt P (rd0 m i).From.toNat else 0)) + mo i) 1000000
theorem nF_mono {m : T_Mine} {f : List T_Span} {mo : Nat → Int} {P P' : List Int} (h : ∀ k, nt P k ≤ nt P' k) (i : Nat) : nF m f mo P i ≤ nF m f mo P' i := by
  have a := h (rd0 m i).From.toNat
  have b := h (rd0 m i).To.toNat
  unfold nF
  split
  · omega
  · split <;> split <;> omega
theorem nF_bd {m : T_Mine} {f : List T_Span} {mo : Nat → Int} {P : List Int} {i : Nat} (hm : 0 ≤ mo i ∧ mo i ≤ 1000000) (hb : ∀ k, 0 ≤ nt P k ∧ nt P k ≤ 1000000) : 0 ≤ nF m f mo P i ∧ nF m f mo P i ≤ 1000000 := by
  have a := hb (rd0 m i).From.toNat
  have b := hb (rd0 m i).To.toNat
  unfold nF
  split
  · omega
  · split <;> split <;> omega
theorem nF_le {m : T_Mine} {f : List T_Span} {mo p0 : Nat → Int} {P R : List Int} (hR : Rt m) (hv : Inv m f mo p0 P R) {i : Nat} (hi : i < m.Roads.length) {p' r' : Nat → Int} (hs : Sol m f mo p0 p' r') : nF m f mo P i ≤ r' i := by
  obtain ⟨r1, r2, r3, r4⟩ := hR.rd (rd0 m i) (List.mem_of_getElem? (rd0_get hi))
  have hp := (hv.le p' r' hs).1
  have a := hp (rd0 m i).From.toNat (by omega)
  have b := hp (rd0 m i).To.toNat (by omega)
  have w1 := hs.wy i false hi
  have w2 := hs.wy i true hi
  have w3 := hs.no i hi
  rw [show (arcD m i false).from_ = (rd0 m i).From from rfl] at w1
  rw [show (arcD m i true).from_ = (rd0 m i).To from rfl] at w2
  have := hv.bp (rd0 m i).To.toNat
  unfold nF
  cases c1 : can m f i false <;> cases c2 : can m f i true <;> rw [c1] at w1 w3 <;> rw [c2] at w2 w3 <;> simp <;> simp at w1 w2 w3 <;> omega
def Fx (m : T_Mine) (f : List T_Span) (mo : Nat → Int) (P R : List Int) (i : Nat) : Prop :=
  nF m f mo P i ≤ nt R i ∧ (can m f i false = true → sf m (rd0 m i).To = false → nF m f mo P i ≤ nt P (rd0 m i).To.toNat) ∧ (can m f i true = true → sf m (rd0 m i).From = false → nF m f mo P i ≤ nt P (rd0 m i).From.toNat)
def Rn (m : T_Mine) (f : List T_Span) (mo : Nat → Int) (P R : List Int) : Prop := ∀ i, i < m.Roads.length → nt R i ≤ nF m f mo P i
theorem lst_of {m : T_Mine} {f : List T_Span} {mo p0 : Nat → Int} {P R : List Int} (hv : Inv m f mo p0 P R) (hn : Rn m f mo P R) (hf : ∀ i, i < m.Roads.length → Fx m f mo P R i) : Lst m f mo p0 P R := by
  refine ⟨hv, hv.s0, fun i d hi hc => ?_, fun i d hi hc ht => ?_, fun i hi h1 h2 => ?_⟩
  · have h := (hf i hi).1
    refine Int.le_trans ?_ h
    unfold nF
    cases d with
    | false =>
      rw [show (arcD m i false).from_ = (rd0 m i).From from rfl, if_neg (by rw [hc]; simp)]
      simp only [hc, if_true]
      split <;> omega
    | true =>
      rw [show (arcD m i true).from_ = (rd0 m i).To from rfl, if_neg (by rw [hc]; simp)]
      simp only [hc, if_true]
      omega
  · have h := hn i hi
    obtain ⟨_, h2, h3⟩ := hf i hi
    cases d with
    | false => exact Int.le_trans h (h2 hc ht)
    | true => exact Int.le_trans h (h3 hc ht)
  · have h := (hf i hi).1
    unfold nF at h
    rwa [if_pos ⟨h1, h2⟩] at h
theorem nt_getI {o : List Int} {k : Int} (h0 : 0 ≤ k) (h1 : k < (o.length : Int)) : getI o k = some (nt o k.toNat) := by
  obtain ⟨n, rfl⟩ : ∃ n : Nat, k = (n : Int) := ⟨k.toNat, by omega⟩
  rw [getI_nat, Int.toNat_natCast]
  exact nt_get (by omega)
theorem upd_code {β : Type} {c ag : Bool} {o : List Int} {k : Int} {n : Int} (h0 : 0 ≤ k) (h1 : k < (o.length : Int)) (mk : Bool → List Int → β) :
    (bif c && decide (nt o k.toNat < n) then (getI o k).bind fun _ => some (mk true (o.set k.toNat n)) else some (mk ag o)) = some (mk (ag || (c && decide (nt o k.toNat < n))) (updc c o k.toNat n)) := by
  unfold updc
  cases c && decide (nt o k.toNat < n) with
  | false => rw [cond_false, cond_false, Bool.or_false]
  | true => rw [cond_true, cond_true, Bool.or_true, nt_getI h0 h1, bind_some]
theorem sf_code {m : T_Mine} {k : Int} (h0 : 0 ≤ k) (h1 : k < (m.Places.length : Int)) {c : Bool} {x : Bool} : (bif c then (getI m.Places k).bind fun p => bif !p.Surface then some x else some false else some false) = some (c && (!sf m k && x)) := by
  obtain ⟨p, hp, hs⟩ := sf_get h0 h1
  rw [hp, bind_some, ← hs]
  cases c <;> cases p.Surface <;> cases x <;> rfl
theorem gpass {m : T_Mine} {f : List T_Span} {mo p0 : Nat → Int} {o8 : List Int} (hR : Rt m) (hf : f.length = m.Roads.length) (h8 : o8.length = m.Roads.length) (hm : ∀ i, i < m.Roads.length → F_gas_added (sp0 f i) (nt o8 i) = some (mo i) ∧ 0 ≤ mo i ∧ mo i ≤ 1000000)
    {P0 R0 : List Int} (hv : Inv m f mo p0 P0 R0) (hn : Rn m f mo P0 R0) :
    Ok (loopC (F_gas_Most_L6 m f o8) (0, false, P0, R0)) fun o => Kp m f mo p0 P0 R0 o.1 o.2.1 o.2.2 ∧ Rn m f mo o.2.1 o.2.2 ∧ (o.1 = false → ∀ i, i < m.Roads.length → Fx m f mo P0 R0 i) := by
  refine ok_loop (fun s : Int × Bool × List Int × List Int => 0 ≤ s.1 ∧ s.1 ≤ m.Roads.length ∧ Kp m f mo p0 P0 R0 s.2.1 s.2.2.1 s.2.2.2 ∧ Rn m f mo s.2.2.1 s.2.2.2 ∧ (s.2.1 = false → ∀ i : Nat, (i : Int) < s.1 → Fx m f mo P0 R0 i)) (fun s => (m.Roads.length - s.1).toNat) _ (fun s hs => ?_) _ ⟨Int.le_refl 0, by dsimp only; omega, ⟨hv, Nat.le_refl _, (fun h => by cases h), fun _ => ⟨rfl, rfl⟩⟩, hn, fun _ i hi => by dsimp only at hi; omega⟩
  obtain ⟨i', ag, P, R⟩ := s
  obtain ⟨a1, a2, a3, a4, a5⟩ := hs
  dsimp only at a1 a2 a3 a4 a5
  unfold F_gas_Most_L6
  dsimp only
  refine ok_dec (fun hlt => ?_) (fun hge => ok_some ⟨a3, a4, fun h j hj => a5 h j (by omega)⟩)
  obtain ⟨i, rfl⟩ : ∃ i : Nat, i' = (i : Int) := ⟨i'.toNat, by omega⟩
  have hi : i < m.Roads.length := by omega
  have e1 : IntKind.i64.wrap ((i : Int) + 1) = (i : Int) + 1 := w64 (by have := hR.r1; omega) (by have := hR.r1; omega)
  obtain ⟨r1, r2, r3, r4⟩ := hR.rd (rd0 m i) (List.mem_of_getElem? (rd0_get hi))
  have hPl := a3.iv.lp
  have hRl := a3.iv.lr
  rw [e1, getI_nat (l := m.Roads), rd0_get hi, bind_some]
  have eon : ((bif (!(rd0 m i).Closed) then
      (getI f (i : Int)).bind fun x68 =>
      (getI f (i : Int)).bind fun x70 =>
      some ((decide (0 < x68.High)), (decide (x70.Low < 0)))
    else
      some (false, false)) : Option (Bool × Bool)) = some (can m f i false, can m f i true) := by
    rw [getI_nat, sp0_get (by omega), bind_some, bind_some]
    unfold can
    cases (rd0 m i).Closed <;> rfl
  rw [eon, bind_some]
  dsimp only
  have hmi := hm i hi
  have hbF := a3.iv.bp (rd0 m i).From.toNat
  have hbT := a3.iv.bp (rd0 m i).To.toNat
  have en : ((bif (!can m f i false) then
      some (!can m f i true)
    else
      some false).bind fun o73 =>
    bif o73 then
      some 1000000
    else
      (bif can m f i false then
        (getI P (rd0 m i).From).bind fun x78 =>
        some x78
      else
        some 0).bind fun o76 =>
      (bif can m f i true then
        (getI P (rd0 m i).To).bind fun x82 =>
        some (max o76 x82)
      else
        some o76).bind fun o80 =>
      (getI f (i : Int)).bind fun x84 =>
      (getI o8 (i : Int)).bind fun x86 =>
      (F_gas_added x84 x86).bind fun x88 =>
      some (min (IntKind.i64.wrap (o80 + x88)) 1000000)) = some (nF m f mo P i) := by
    rw [nt_getI r1 (by omega), nt_getI r3 (by omega), getI_nat (l := f), sp0_get (by omega), getI_nat (l := o8), nt_get (by omega)]
    unfold nF
    cases can m f i false <;> cases can m f i true
    · rfl
    · show ((F_gas_added _ _).bind _) = _
      rw [hmi.1, bind_some]
      rw [w64 (by omega) (by omega)]
      simp
    · show ((F_gas_added _ _).bind _) = _
      rw [hmi.1, bind_some]
      rw [w64 (by omega) (by omega)]
      simp
    · show ((F_gas_added _ _).bind _) = _
      rw [hmi.1, bind_some]
      rw [w64 (by omega) (by omega)]
      simp
  rw [en, bind_some]
  have nb := nF_bd (m := m) (f := f) (P := P) (i := i) ⟨hmi.2.1, hmi.2.2⟩ a3.iv.bp
  have nle : ∀ p' r', Sol m f mo p0 p' r' → nF m f mo P i ≤ r' i := fun p' r' hs => nF_le hR a3.iv hi hs
  generalize hnn : nF m f mo P i = n at *
  have u1 := upd_code (c := true) (ag := ag) (o := R) (k := (i : Int)) (n := n) (by omega) (by omega) (fun b o => ((b, o) : Bool × List Int))
  rw [Int.toNat_natCast, Bool.true_and] at u1
  rw [nt_getI (o := R) (by omega) (by omega), bind_some, Int.toNat_natCast]
  rw [nt_getI (o := R) (by omega) (by omega), Int.toNat_natCast] at u1
  rw [u1, bind_some]
  dsimp only
  rw [nt_getI (o := P) r3 (by omega), bind_some, sf_code r3 r4, bind_some]
  have u2 := upd_code (c := can m f i false && !sf m (rd0 m i).To) (ag := ag || decide (nt R i < n)) (o := P) (k := (rd0 m i).To) (n := n) r3 (by omega) (fun b o => ((b, o) : Bool × List Int))
  rw [Bool.and_assoc, nt_getI (o := P) r3 (by omega)] at u2
  rw [u2, bind_some]
  dsimp only
  have hP1 : (updc (can m f i false && !sf m (rd0 m i).To) P (rd0 m i).To.toNat n).length = m.Places.length := updc_len.trans hPl
  have k1 := a3.road hi nb nle
  have k2 := k1.place (k := (rd0 m i).To.toNat) (n := n) (c := can m f i false && !sf m (rd0 m i).To) (by omega) nb (fun hc p' r' hs => by
    rw [Bool.and_eq_true] at hc
    exact Int.le_trans (nle p' r' hs) (hs.up i false hi hc.1 (by rw [← Bool.not_eq_true']; exact hc.2)))
  rw [Bool.and_assoc] at k2
  generalize hP1e : updc (can m f i false && !sf m (rd0 m i).To) P (rd0 m i).To.toNat n = P1 at *
  have k3 := k2.place (k := (rd0 m i).From.toNat) (n := n) (c := can m f i true && !sf m (rd0 m i).From) (by omega) nb (fun hc p' r' hs => by
    rw [Bool.and_eq_true] at hc
    exact Int.le_trans (nle p' r' hs) (hs.up i true hi hc.1 (by rw [← Bool.not_eq_true']; exact hc.2)))
  rw [nt_getI (o := P1) r1 (by omega), bind_some, sf_code r1 r2, bind_some]
  have u3 := upd_code (c := can m f i true && !sf m (rd0 m i).From) (ag := (ag || decide (nt R i < n)) || (can m f i false && (!sf m (rd0 m i).To && decide (nt P (rd0 m i).To.toNat < n)))) (o := P1) (k := (rd0 m i).From) (n := n) r1 (by omega) (fun b o => ((b, o, updc true R i n) : Bool × List Int × List Int))
  rw [Bool.and_assoc, nt_getI (o := P1) r1 (by omega)] at u3
  rw [u3, bind_some]
  rw [Bool.and_assoc] at k3
  have hrn : Rn m f mo (updc (can m f i true && !sf m (rd0 m i).From) P1 (rd0 m i).From.toNat n) (updc true R i n) := fun j hj => by
    have hmono : nF m f mo P j ≤ nF m f mo (updc (can m f i true && !sf m (rd0 m i).From) P1 (rd0 m i).From.toNat n) j := nF_mono (fun k => by
      refine Int.le_trans ?_ (updc_ge (by omega) k)
      rw [← hP1e]
      exact updc_ge (by omega) k) j
    rw [updc_nt (by omega)]
    have := a4 j hj
    split
    · rename_i e
      have := e.1
      subst this
      omega
    · omega
  refine ok_some ⟨⟨by omega, by omega, k3, hrn, fun hfl j hj => ?_⟩, by dsimp only; omega⟩
  dsimp only at hfl
  rw [Bool.or_eq_false_iff, Bool.or_eq_false_iff, Bool.or_eq_false_iff] at hfl
  obtain ⟨⟨⟨f0, f1⟩, f2⟩, f3⟩ := hfl
  by_cases hji : j = i
  · subst hji
    obtain ⟨e1, e2⟩ := a3.un f0
    subst e1; subst e2
    have g1 := of_decide_eq_false f1
    refine ⟨by rw [hnn]; omega, fun hc hsf => ?_, fun hc hsf => ?_⟩
    · rw [hc, hsf] at f2
      have := of_decide_eq_false (show decide _ = false from f2)
      rw [hnn]
      omega
    · rw [hc, hsf] at f3
      have := of_decide_eq_false (show decide _ = false from f3)
      have hh := updc_ge (c := can m f j false && !sf m (rd0 m j).To) (n := n) (show (rd0 m j).To.toNat < P.length by omega) (rd0 m j).From.toNat
      have k2f := (k2.un (by rw [f0, f1, f2]; rfl)).1
      rw [k2f] at this
      rw [hnn]
      omega
  · exact a5 f0 j (by dsimp only at hj; omega)
theorem gsearch {m : T_Mine} {f : List T_Span} {mo p0 : Nat → Int} {o8 : List Int} (hR : Rt m) (hf : f.length = m.Roads.length) (h8 : o8.length = m.Roads.length) (hm : ∀ i, i < m.Roads.length → F_gas_added (sp0 f i) (nt o8 i) = some (mo i) ∧ 0 ≤ mo i ∧ mo i ≤ 1000000)
    {P0 R0 : List Int} (hv : Inv m f mo p0 P0 R0) (hn : Rn m f mo P0 R0) : Ok (loopC (F_gas_Most_L5 m f o8) (true, P0, R0)) fun o => Lst m f mo p0 o.1 o.2 := by
  refine ok_loop (fun s : Bool × List Int × List Int => Inv m f mo p0 s.2.1 s.2.2 ∧ Rn m f mo s.2.1 s.2.2 ∧ (s.1 = false → ∀ i, i < m.Roads.length → Fx m f mo s.2.1 s.2.2 i)) (fun s => bif s.1 then muG s.2.1 s.2.2 + 1 else 0) _ (fun s hs => ?_) _ ⟨hv, hn, fun h => by cases h⟩
  obtain ⟨ag, P, R⟩ := s
  obtain ⟨a1, a2, a3⟩ := hs
  dsimp only at a1 a2 a3
  unfold F_gas_Most_L5
  dsimp only
  cases ag with
  | false => exact ok_some (lst_of a1 a2 (a3 rfl))
  | true =>
    refine ok_bind (gpass hR hf h8 hm a1 a2) fun o ho => ok_some ⟨⟨ho.1.iv, ho.2.1, fun h => ?_⟩, ?_⟩
    · obtain ⟨e1, e2⟩ := ho.1.un h
      dsimp only
      rw [e1, e2]
      exact ho.2.2 h
    · show (bif o.1 then _ else _) < muG P R + 1
      cases h : o.1 with
      | false => exact Nat.succ_pos _
      | true => have := ho.1.t h; show muG o.2.1 o.2.2 + 1 < _; omega
def Fr (m : T_Mine) (f : List T_Span) (mo : Nat → Int) (P R : List Int) (i : Nat) (d : Bool) : Prop :=
  can m f i d = true → min 1000000 (nt P (arcD m i d).from_.toNat + mo i) ≤ nt R i ∧ (sf m (arcD m i d).to_ = false → nt R i ≤ nt P (arcD m i d).to_.toNat)
def NoR (m : T_Mine) (f : List T_Span) (R : List Int) : Prop := ∀ i, i < m.Roads.length → can m f i false = false → can m f i true = false → 1000000 ≤ nt R i
def fedAt (m : T_Mine) (f : List T_Span) (n : Nat) (k : Nat) : Prop := ∃ j d, j < n ∧ can m f j d = true ∧ (arcD m j d).to_ = (k : Int)
def stC (m : T_Mine) (f : List T_Span) (k : Nat) : Prop := sf m k = false ∧ (¬ fedAt m f m.Roads.length k ∨ (k : Int) ∈ mixedF m f)
open Classical in
noncomputable def p0F (m : T_Mine) (f : List T_Span) (k : Nat) : Int := if stC m f k then 1000000 else 0
theorem p0F_bd (m : T_Mine) (f : List T_Span) (k : Nat) : 0 ≤ p0F m f k ∧ p0F m f k ≤ 1000000 := by
  unfold p0F
  split <;> omega
theorem nt_rep {n k : Nat} : nt (List.replicate n (0 : Int)) k = 0 := by
  unfold nt
  rw [List.getElem?_replicate]
  split <;> rfl
theorem mixed_range {m : T_Mine} {f : List T_Span} {v : Int} (h : v ∈ mixedF m f) : 0 ≤ v ∧ v < (m.Places.length : Int) := by
  obtain ⟨_, h1, h2, _⟩ := mixed_mem.1 h
  exact ⟨h1, h2⟩
theorem sf_nat {m : T_Mine} {k : Nat} (h : k < m.Places.length) : ∃ p, m.Places[k]? = some p ∧ p.Surface = sf m k := by
  obtain ⟨p, h1, h2⟩ := sf_get (m := m) (k := (k : Int)) (by omega) (by omega)
  rw [getI_nat] at h1
  exact ⟨p, h1, h2⟩

/-! ### the program -/
theorem gfed {m : T_Mine} {f : List T_Span} (hr : rtB m f = true) : Ok (loopC (F_gas_Most_L2 (waysF m f)) (0, List.replicate m.Places.length false)) fun o => o.length = m.Places.length ∧ ∀ k, k < m.Places.length → (bt o k = true ↔ fedAt m f m.Roads.length k) := by
  obtain ⟨hR, hl⟩ := rtB_is hr
  have hw := waysF_len (m := m) (f := f)
  have hr1 := hR.r1
  have hwo : ∀ w ∈ waysF m f, 0 ≤ w.a1 ∧ w.a1 < (m.Places.length : Int) := fun w hw => by
    unfold waysF at hw
    rw [if_pos hr] at hw
    obtain ⟨a, ha, rfl⟩ := List.mem_map.1 hw
    have := arcsF_ok (f := f) hR a ha
    exact ⟨this.2.2.1, this.2.2.2⟩
  have hfed : ∀ k : Nat, (∃ w ∈ waysF m f, w.a1 = (k : Int)) ↔ fedAt m f m.Roads.length k := fun k => by
    unfold waysF
    rw [if_pos hr]
    constructor
    · rintro ⟨w, hw, hk⟩
      obtain ⟨a, ha, rfl⟩ := List.mem_map.1 hw
      obtain ⟨i, d, hi, hc, rfl⟩ := arcsF_mem.1 ha
      exact ⟨i, d, hi, hc, hk⟩
    · rintro ⟨i, d, hi, hc, hk⟩
      exact ⟨wayOf (arcD m i d), List.mem_map.2 ⟨_, arcsF_mem.2 ⟨i, d, hi, hc, rfl⟩, rfl⟩, hk⟩
  generalize waysF m f = l at *
  refine ok_loop (fun s : Int × List Bool => 0 ≤ s.1 ∧ s.1 ≤ l.length ∧ s.2.length = m.Places.length ∧ ∀ k : Nat, k < m.Places.length → (bt s.2 k = true ↔ ∃ w ∈ l.take s.1.toNat, w.a1 = (k : Int))) (fun s => (l.length - s.1).toNat) _ (fun s hs => ?_) _ ⟨Int.le_refl 0, by dsimp only; omega, by simp, fun k hk => by dsimp only; rw [rep_bt]; simp⟩
  obtain ⟨i', o⟩ := s
  obtain ⟨a1, a2, a3, a4⟩ := hs
  dsimp only at a1 a2 a3 a4
  unfold F_gas_Most_L2
  dsimp only
  refine ok_dec (fun hlt => ?_) (fun hge => ok_some ⟨a3, fun k hk => ?_⟩)
  · obtain ⟨i, rfl⟩ : ∃ i : Nat, i' = (i : Int) := ⟨i'.toNat, by omega⟩
    have hg := List.getElem?_eq_getElem (show i < l.length by omega)
    have hx := hwo _ (List.getElem_mem (show i < l.length by omega))
    have e1 : IntKind.i64.wrap ((i : Int) + 1) = (i : Int) + 1 := w64 (by omega) (by omega)
    generalize l[i]'(by omega) = w at *
    rw [e1, getI_nat, hg, bind_some, bt_get hx.1 (by omega), bind_some]
    refine ok_some ⟨⟨by dsimp only; omega, by dsimp only; omega, by simpa using a3, fun k hk => ?_⟩, by dsimp only; omega⟩
    dsimp only
    have ht : l.take ((i : Int) + 1).toNat = l.take i ++ [w] := by rw [show ((i : Int) + 1).toNat = i + 1 by omega, List.take_add_one, hg]; rfl
    have h4 := a4 k hk
    rw [Int.toNat_natCast] at h4
    rw [ht, bt_set (by omega) (by omega), show ((w.a1.toNat : Nat) : Int) = w.a1 by omega]
    by_cases e : (k : Int) = w.a1
    · rw [if_pos e]
      exact ⟨fun _ => ⟨w, by simp, e.symm⟩, fun _ => rfl⟩
    · rw [if_neg e, h4]
      constructor
      · rintro ⟨w', h1, h2⟩
        exact ⟨w', List.mem_append_left _ h1, h2⟩
      · rintro ⟨w', h1, h2⟩
        rcases List.mem_append.1 h1 with h1 | h1
        · exact ⟨w', h1, h2⟩
        · simp at h1; subst h1; exact absurd h2.symm e
  · rw [a4 k hk, ← hfed k, List.take_of_length_le (by omega)]
theorem gst3 {m : T_Mine} (hP : m.Places.length ≤ 64) {c : List Bool} (hc : c.length = m.Places.length) : Ok (loopC (F_gas_Most_L3 m c) (0, List.replicate m.Places.length (0 : Int))) fun o => o.length = m.Places.length ∧ ∀ k, k < m.Places.length → nt o k = if sf m k = false ∧ bt c k = false then 1000000 else 0 := by
  refine ok_loop (fun s : Int × List Int => 0 ≤ s.1 ∧ s.1 ≤ m.Places.length ∧ s.2.length = m.Places.length ∧ ∀ k : Nat, k < m.Places.length → nt s.2 k = if (k : Int) < s.1 ∧ sf m k = false ∧ bt c k = false then 1000000 else 0) (fun s => (m.Places.length - s.1).toNat) _ (fun s hs => ?_) _ ⟨Int.le_refl 0, by dsimp only; omega, by simp, fun k hk => by dsimp only; rw [nt_rep, if_neg (fun h => by omega)]⟩
  obtain ⟨i', o⟩ := s
  obtain ⟨a1, a2, a3, a4⟩ := hs
  dsimp only at a1 a2 a3 a4
  unfold F_gas_Most_L3
  dsimp only
  refine ok_dec (fun hlt => ?_) (fun hge => ok_some ⟨a3, fun k hk => ?_⟩)
  · obtain ⟨i, rfl⟩ : ∃ i : Nat, i' = (i : Int) := ⟨i'.toNat, by omega⟩
    have hi : i < m.Places.length := by omega
    obtain ⟨p, hp1, hp2⟩ := sf_nat hi
    have e1 : IntKind.i64.wrap ((i : Int) + 1) = (i : Int) + 1 := w64 (by omega) (by omega)
    rw [e1, getI_nat, hp1, bind_some, bt_get (o := c) (k := (i : Int)) (by omega) (by omega), bind_some, hp2]
    have eo : ((bif !sf m i then some (!bt c i) else some false) : Option Bool) = some (!sf m i && !bt c i) := by cases sf m i <;> rfl
    rw [eo, bind_some]
    refine ok_bind (Q := fun o' : List Int => o'.length = m.Places.length ∧ ∀ k : Nat, k < m.Places.length → nt o' k = if k = i ∧ sf m i = false ∧ bt c i = false then 1000000 else nt o k) ?_ fun o' ho' => ok_some ⟨⟨by dsimp only; omega, by dsimp only; omega, ho'.1, fun k hk => ?_⟩, by dsimp only; omega⟩
    · cases hb : !sf m i && !bt c i with
      | true =>
        rw [cond_true, nt_getI (by omega) (by omega), bind_some, Int.toNat_natCast]
        refine ok_some ⟨by simpa using a3, fun k hk => ?_⟩
        rw [nt_set (by omega)]
        rw [Bool.and_eq_true, Bool.not_eq_true', Bool.not_eq_true'] at hb
        by_cases e : k = i
        · rw [if_pos e, if_pos ⟨e, hb⟩]
        · rw [if_neg e, if_neg (fun h => e h.1)]
      | false =>
        rw [cond_false]
        refine ok_some ⟨a3, fun k hk => ?_⟩
        rw [if_neg]
        rintro ⟨_, h1, h2⟩
        rw [h1, h2] at hb
        cases hb
    · dsimp only
      rw [ho'.2 k hk, a4 k hk]
      by_cases e : k = i
      · subst e
        by_cases h : sf m k = false ∧ bt c k = false
        · rw [if_pos ⟨rfl, h⟩, if_pos ⟨by omega, h⟩]
        · rw [if_neg (fun q => h q.2), if_neg (fun q => h q.2), if_neg (fun q => h q.2)]
      · rw [if_neg (fun q => e q.1)]
        by_cases h : (k : Int) < (i : Int) ∧ sf m k = false ∧ bt c k = false
        · rw [if_pos h, if_pos ⟨by omega, h.2⟩]
        · rw [if_neg h, if_neg (fun q => h ⟨by omega, q.2⟩)]
  · rw [a4 k hk]
    by_cases h : sf m k = false ∧ bt c k = false
    · rw [if_pos h, if_pos ⟨by omega, h⟩]
    · rw [if_neg h, if_neg (fun q => h q.2)]
theorem gst4 {m : T_Mine} {l : List Int} (hl : l.length ≤ 1000000) (hin : ∀ v ∈ l, 0 ≤ v ∧ v < (m.Places.length : Int)) {o0 : List Int} (ho0 : o0.length = m.Places.length) : Ok (loopC (F_gas_Most_L4 m l) (0, o0)) fun o => o.length = m.Places.length ∧ ∀ k, k < m.Places.length → nt o k = if sf m k = false ∧ (k : Int) ∈ l then 1000000 else nt o0 k := by
  refine ok_loop (fun s : Int × List Int => 0 ≤ s.1 ∧ s.1 ≤ l.length ∧ s.2.length = m.Places.length ∧ ∀ k : Nat, k < m.Places.length → nt s.2 k = if sf m k = false ∧ (k : Int) ∈ l.take s.1.toNat then 1000000 else nt o0 k) (fun s => (l.length - s.1).toNat) _ (fun s hs => ?_) _ ⟨Int.le_refl 0, by dsimp only; omega, ho0, fun k hk => by dsimp only; rw [if_neg (fun h => by simp at h)]⟩
  obtain ⟨i', o⟩ := s
  obtain ⟨a1, a2, a3, a4⟩ := hs
  dsimp only at a1 a2 a3 a4
  unfold F_gas_Most_L4
  dsimp only
  refine ok_dec (fun hlt => ?_) (fun hge => ok_some ⟨a3, fun k hk => ?_⟩)
  · obtain ⟨i, rfl⟩ : ∃ i : Nat, i' = (i : Int) := ⟨i'.toNat, by omega⟩
    have hg := List.getElem?_eq_getElem (show i < l.length by omega)
    have hx := hin _ (List.getElem_mem (show i < l.length by omega))
    have e1 : IntKind.i64.wrap ((i : Int) + 1) = (i : Int) + 1 := w64 (by omega) (by omega)
    generalize l[i]'(by omega) = v at *
    obtain ⟨j, rfl⟩ : ∃ j : Nat, v = (j : Int) := ⟨v.toNat, by omega⟩
    have hj : j < m.Places.length := by omega
    obtain ⟨p, hp1, hp2⟩ := sf_nat hj
    rw [e1, getI_nat (l := l), hg, bind_some, getI_nat, hp1, bind_some, hp2]
    have ht : l.take ((i : Int) + 1).toNat = l.take i ++ [(j : Int)] := by rw [show ((i : Int) + 1).toNat = i + 1 by omega, List.take_add_one, hg]; rfl
    rw [Int.toNat_natCast] at a4
    refine ok_bind (Q := fun o' : List Int => o'.length = m.Places.length ∧ ∀ k : Nat, k < m.Places.length → nt o' k = if k = j ∧ sf m j = false then 1000000 else nt o k) ?_ fun o' ho' => ok_some ⟨⟨by dsimp only; omega, by dsimp only; omega, ho'.1, fun k hk => ?_⟩, by dsimp only; omega⟩
    · cases hb : sf m j with
      | false =>
        rw [Bool.not_false, cond_true, nt_getI (by omega) (by omega), bind_some, Int.toNat_natCast]
        refine ok_some ⟨by simpa using a3, fun k hk => ?_⟩
        rw [nt_set (by omega)]
        by_cases e : k = j
        · rw [if_pos e, if_pos ⟨e, rfl⟩]
        · rw [if_neg e, if_neg (fun h => e h.1)]
      | true =>
        rw [Bool.not_true, cond_false]
        refine ok_some ⟨a3, fun k hk => ?_⟩
        rw [if_neg (fun h => by cases h.2)]
    · dsimp only
      rw [ho'.2 k hk, a4 k hk, ht]
      by_cases e : k = j
      · subst e
        by_cases h : sf m k = false
        · rw [if_pos ⟨rfl, h⟩, if_pos ⟨h, by simp⟩]
        · rw [if_neg (fun q => h q.2), if_neg (fun q => h q.1), if_neg (fun q => h q.1)]
      · rw [if_neg (fun q => e q.1)]
        by_cases h : sf m k = false ∧ (k : Int) ∈ l.take i
        · rw [if_pos h, if_pos ⟨h.1, List.mem_append_left _ h.2⟩]
        · rw [if_neg h, if_neg]
          rintro ⟨q1, q2⟩
          rcases List.mem_append.1 q2 with q2 | q2
          · exact h ⟨q1, q2⟩
          · simp at q2; omega
  · rw [a4 k hk, List.take_of_length_le (by omega)]
theorem inv0 {m : T_Mine} {f : List T_Span} {mo : Nat → Int} {P : List Int} (hm : ∀ i, i < m.Roads.length → 0 ≤ mo i) (hR : Rt m) (hP : P.length = m.Places.length) (h : ∀ k, k < m.Places.length → nt P k = p0F m f k) : Inv m f mo (p0F m f) P (List.replicate m.Roads.length 0) := by
  refine ⟨hP, by simp, fun k => ?_, fun k => by rw [nt_rep]; omega, fun k hk => by rw [h k hk]; omega, fun p' r' hs => ⟨fun k hk => by rw [h k hk]; exact hs.st k hk, fun i hi => ?_⟩⟩
  · by_cases hk : k < m.Places.length
    · rw [h k hk]; exact p0F_bd m f k
    · have : nt P k = 0 := by unfold nt; rw [List.getElem?_eq_none (by omega)]; rfl
      omega
  · rw [nt_rep]
    have hmi := hm i hi
    by_cases c1 : can m f i false = true
    · have hA := arcD_ok hR hi false
      have := hs.wy i false hi c1
      have h1 := hs.st (arcD m i false).from_.toNat (by have := hA.1; have := hA.2.1; omega)
      have := (p0F_bd m f (arcD m i false).from_.toNat).1
      omega
    by_cases c2 : can m f i true = true
    · have hA := arcD_ok hR hi true
      have := hs.wy i true hi c2
      have h1 := hs.st (arcD m i true).from_.toNat (by have := hA.1; have := hA.2.1; omega)
      have := (p0F_bd m f (arcD m i true).from_.toNat).1
      omega
    · have := hs.no i hi (by simpa using c1) (by simpa using c2)
      omega
theorem gmost {m : T_Mine} {f : List T_Span} {l : List T_Source} {mo : Nat → Int} (hs : Sz m) (hk : chkS m l = 0) (hl : f.length = m.Roads.length) (hm : ∀ i : Nat, i < m.Roads.length → F_gas_added (sp0 f i) (inF l i) = some (mo i) ∧ 0 ≤ mo i ∧ mo i ≤ 1000000) :
    Ok (F_gas_Most m f l) fun r => r.2.2 = 0 ∧ Lst m f mo (p0F m f) r.1 r.2.1 := by
  obtain ⟨c1, c2, c3⟩ := src_ok hk
  have hr : rtB m f = true := by unfold rtB; rw [decide_eq_true c1, decide_eq_true hl]; rfl
  obtain ⟨hR, _⟩ := rtB_is hr
  have h1 := hR.r1
  have h2 := hR.p2
  unfold F_gas_Most
  rw [(scheck_eq m l hs).1, bind_some, hk, bif_neg (fun h => h rfl), bif_neg (by omega), makI_ok (by omega) (by omega), bind_some, Int.toNat_natCast]
  obtain ⟨o8, i1, i2, i3⟩ := inflow_eq (n := m.Roads.length) c2 c3
  rw [i1, bind_some, makI_ok (by omega) (by omega), bind_some, makI_ok (by omega) (by omega), bind_some, Int.toNat_natCast, ways_eq m f hs, bind_some, bind_some]
  refine ok_bind (gfed hr) fun o25 h25 => ?_
  refine ok_bind (gst3 h2 h25.1) fun o32 h32 => ?_
  rw [mixed_eq m f hs, bind_some]
  refine ok_bind (gst4 (by have := mixedF_len (m := m) (f := f); omega) (fun v hv => mixed_range hv) h32.1) fun o47 h47 => ?_
  have hp : ∀ k, k < m.Places.length → nt o47 k = p0F m f k := fun k hkk => by
    rw [h47.2 k hkk, h32.2 k hkk]
    have hfd := h25.2 k hkk
    unfold p0F stC
    by_cases q1 : sf m k = false
    · by_cases q2 : (k : Int) ∈ mixedF m f
      · rw [if_pos ⟨q1, q2⟩, if_pos ⟨q1, .inr q2⟩]
      · rw [if_neg (fun h => q2 h.2)]
        cases hb : bt o25 k with
        | false => rw [if_pos ⟨q1, rfl⟩, if_pos ⟨q1, .inl (fun h => by rw [hfd.2 h] at hb; cases hb)⟩]
        | true => rw [if_neg (fun h => by cases h.2), if_neg]; rintro ⟨_, h | h⟩; exact h (hfd.1 hb); exact q2 h
    · rw [if_neg (fun h => q1 h.1), if_neg (fun h => q1 h.1), if_neg (fun h => q1 h.1)]
  have hmo : ∀ i, i < m.Roads.length → F_gas_added (sp0 f i) (nt o8 i) = some (mo i) ∧ 0 ≤ mo i ∧ mo i ≤ 1000000 := fun i hi => by rw [(i3 i hi).1]; exact hm i hi
  have hv := inv0 (mo := mo) (fun i hi => (hm i hi).2.1) hR h47.1 hp
  refine ok_bind (gsearch hR hl i2 hmo hv (fun i hi => ?_)) fun o58 h58 => ok_some ⟨rfl, h58⟩
  rw [nt_rep]
  exact (nF_bd (hm i hi).2 hv.bp).1
theorem rinflow {l : List T_Source} {n : Nat} (hl : l.length ≤ 32) (ho : ∀ x ∈ l, SrOk n x) (s : Int × List Int × List Int × List Bool) : loopC (F_ref16_begin_L2 l s) (0, 0) = some (inF l s.1) ∧ 0 ≤ inF l s.1 ∧ inF l s.1 ≤ 35184372088832 := by
  have key := over l (inS s.1) (fun i o => ((o, i) : Int × Int)) id (g := F_ref16_begin_L2 l s) (fun i o => 0 ≤ o ∧ o ≤ 1099511627776 * (i : Int)) (fun i x o hx hI => ?_) (fun o _ => by unfold F_ref16_begin_L2; rw [bif_neg (by dsimp only; omega)]; rfl) 0 ⟨Int.le_refl 0, by omega⟩
  · obtain ⟨k1, k2, k3⟩ := key
    exact ⟨k1, k2, by unfold inF; omega⟩
  · have hi := (List.getElem?_eq_some_iff.1 hx).1
    obtain ⟨s1, s2, s3, s4⟩ := ho x (List.mem_of_getElem? hx)
    unfold F_ref16_begin_L2 inS
    dsimp only
    rw [bif_pos (by omega), getI_nat, hx, bind_some, bind_some, w64 (n := (i : Int) + 1) (by omega) (by omega)]
    by_cases h : x.Road = s.1
    · rw [bif_pos h, if_pos h, w64 (n := o + x.Inflow.High) (by omega) (by omega)]
      exact ⟨rfl, by omega, by push_cast; omega⟩
    · rw [bif_neg h, if_neg h]
      exact ⟨rfl, hI.1, by push_cast; omega⟩
def still (m : T_Mine) (f : List T_Span) (i : Nat) : Prop := can m f i false = false ∧ can m f i true = false
instance (m : T_Mine) (f : List T_Span) (i : Nat) : Decidable (still m f i) := by unfold still; infer_instance
def m0 : T_Mine := T_Mine.mk [(T_Place.mk 0 true), (T_Place.mk 0 false)] [(T_Road.mk 0 1 1 1 false false (T_Span.mk 1 1) (T_Span.mk 0 0))]
def f0 : List T_Span := [(T_Span.mk 200 220)]
def l0 : List T_Source := [(T_Source.mk 0 (T_Span.mk 0 1001000))]
theorem awakeM : F_gas_Most m0 f0 l0 = some ([0, 5005], [5005], 0) := by
  have hs : Sz m0 := ⟨by show (1 : Nat) ≤ _; omega, by show (2 : Nat) ≤ _; omega⟩
  have hk : chkS m0 l0 = 0 := by decide +kernel
  have hc : can m0 f0 0 false = true := by decide +kernel
  have hc2 : can m0 f0 0 true = false := by decide +kernel
  have hmx : mixedF m0 f0 = [] := by decide +kernel
  have hin : inF l0 0 = 1001000 := by decide +kernel
  have had : addF (sp0 f0 0) 1001000 = 5005 := by decide +kernel
  obtain ⟨r, e, z, l⟩ := gmost (f := f0) (l := l0) (mo := fun _ => 5005) hs hk rfl (fun i hi => by
    have : i = 0 := by have : i < 1 := hi; omega
    subst this
    refine ⟨?_, by omega, by omega⟩
    rw [show ((0 : Nat) : Int) = 0 from rfl, hin, gadd_eq _ _ (by omega) (by omega) (by decide +kernel), had])
  have hsol : Sol m0 f0 (fun _ => 5005) (p0F m0 f0) (fun k => if k = 0 then 0 else 5005) (fun _ => 5005) := by
    refine ⟨fun k hk => ?_, fun i d hi hcc => ?_, fun i d hi hcc ht => ?_, fun i hi h1 h2 => ?_⟩
    · have hk : k < 2 := hk
      have h0 : p0F m0 f0 k = 0 := by
        unfold p0F
        rw [if_neg]
        rintro ⟨h1, h2⟩
        rw [hmx] at h2
        match k, hk, h1, h2 with
        | 0, _, h1, _ => exact absurd h1 (by decide +kernel)
        | 1, _, _, h2 =>
          rcases h2 with h2 | h2
          · exact h2 ⟨0, false, Nat.zero_lt_one, hc, rfl⟩
          · cases h2
      rw [h0]
      split <;> omega
    · have : i = 0 := by have : i < 1 := hi; omega
      subst this
      cases d with
      | true => rw [hc2] at hcc; cases hcc
      | false => rw [show (arcD m0 0 false).from_.toNat = 0 from rfl, if_pos rfl]; omega
    · have : i = 0 := by have : i < 1 := hi; omega
      subst this
      cases d with
      | true => rw [hc2] at hcc; cases hcc
      | false => rw [show (arcD m0 0 false).to_.toNat = 1 from rfl, if_neg (by omega)]; omega
    · have : i = 0 := by have : i < 1 := hi; omega
      subst this
      rw [hc] at h1
      cases h1
  obtain ⟨u1, u2⟩ := l.iv.le _ _ hsol
  have a0 := u1 0 (by show 0 < 2; omega)
  have a1 := u1 1 (by show 1 < 2; omega)
  have a2 := u2 0 (by show 0 < 1; omega)
  have b0 := l.iv.bp 0
  have c0 := l.sol.wy 0 false (by show 0 < 1; omega) hc
  have c1 := l.sol.up 0 false (by show 0 < 1; omega) hc (by decide +kernel)
  rw [show (arcD m0 0 false).from_.toNat = 0 from rfl] at c0
  rw [show (arcD m0 0 false).to_.toNat = 1 from rfl] at c1
  rw [if_pos rfl] at a0
  rw [if_neg (by omega)] at a1
  obtain ⟨P, R, z'⟩ := r
  dsimp only at *
  have hP : P = [0, 5005] := nt_ext l.iv.lp fun k hk => by
    have hk : k < 2 := by have := l.iv.lp; have h2 : m0.Places.length = 2 := rfl; omega
    match k, hk with
    | 0, _ => show nt P 0 = 0; omega
    | 1, _ => show nt P 1 = 5005; omega
  have hRR : R = [5005] := nt_ext l.iv.lr fun k hk => by
    have hk : k < 1 := by have := l.iv.lr; have h2 : m0.Roads.length = 1 := rfl; omega
    match k, hk with
    | 0, _ => show nt R 0 = 5005; omega
  rw [e, hP, hRR, z]
theorem awakeK : F_gas_Known [50] [(T_Sensor.mk 0 1 0 0 0 0 0 9)] [(T_Measure.mk 0 0 (T_Span.mk 20 90))] 0 = some ([⟨20, 50⟩], []) := by
  have s1 : F_sensor_in 1 6 [1] = some true := by unfold F_sensor_in; rw [loopC_of (n := 5) (show iterC _ 5 _ = some (.inr ()) from by decide +kernel)]; rfl
  have s2 : F_sensor_in 0 255 [0] = some true := by unfold F_sensor_in; rw [loopC_of (n := 5) (show iterC _ 5 _ = some (.inr ()) from by decide +kernel)]; rfl
  have s3 : F_sensor_in (-1000000) 1000000 [0, 0] = some true := by unfold F_sensor_in; rw [loopC_of (n := 5) (show iterC _ 5 _ = some (.inr ()) from by decide +kernel)]; rfl
  have s4 : F_sensor_in 0 1000000 [0, 0] = some true := by unfold F_sensor_in; rw [loopC_of (n := 5) (show iterC _ 5 _ = some (.inr ()) from by decide +kernel)]; rfl
  have s5 : F_sensor_in 1 1000000 [9] = some true := by unfold F_sensor_in; rw [loopC_of (n := 5) (show iterC _ 5 _ = some (.inr ()) from by decide +kernel)]; rfl
  have hc : F_sensor_Check (T_Sensor.mk 0 1 0 0 0 0 0 9) = some 0 := by
    unfold F_sensor_Check
    simp only [s1, s2, s3, s4, s5, bind_some]
    decide +kernel
  have ha : F_window_At (T_Sensor.mk 0 1 0 0 0 0 0 9) (T_Measure.mk 0 0 (T_Span.mk 20 90)) 0 = some ⟨20, 90⟩ := by
    unfold F_window_At F_sensor_Nothing F_window_plain
    simp only [hc, bind_some]
    decide +kernel
  have hm : F_window_Meet [⟨0, 50⟩, ⟨20, 90⟩] = some (⟨20, 50⟩, true) := by
    unfold F_window_Meet
    rw [bif_neg (by decide), show getI [(⟨0, 50⟩ : T_Span), ⟨20, 90⟩] 0 = some ⟨0, 50⟩ from rfl, bind_some, loopC_of (n := 5) (show iterC _ 5 _ = some ⟨20, 50⟩ from by decide +kernel)]
    decide +kernel
  unfold F_gas_Known
  rw [makI_ok (by decide) (by decide), bind_some, loopC_of (n := 5) (show iterC _ 5 _ = some [⟨0, 50⟩] from by decide +kernel), bind_some]
  unfold F_airflow_Narrow
  rw [appI_ok (by decide), bind_some, makI_ok (by decide) (by decide), bind_some, makI_ok (by decide) (by decide), bind_some]
  have h1 : F_airflow_Narrow_L1 ⟨0, 1000000⟩ 1 [(T_Sensor.mk 0 1 0 0 0 0 0 9)] [(T_Measure.mk 0 0 (T_Span.mk 20 90))] 0 (0, [⟨0, 50⟩], [false], [false]) = some (.inl (1, [⟨20, 50⟩], [false], [false])) := by
    unfold F_airflow_Narrow_L1
    simp only [show getI [(T_Measure.mk 0 0 (T_Span.mk 20 90))] 0 = some (T_Measure.mk 0 0 (T_Span.mk 20 90)) from rfl, show getI [(T_Sensor.mk 0 1 0 0 0 0 0 9)] 0 = some (T_Sensor.mk 0 1 0 0 0 0 0 9) from rfl, show getI [(⟨0, 50⟩ : T_Span)] 0 = some ⟨0, 50⟩ from rfl, bind_some, ha, hm]
    rfl
  have h2 : F_airflow_Narrow_L1 ⟨0, 1000000⟩ 1 [(T_Sensor.mk 0 1 0 0 0 0 0 9)] [(T_Measure.mk 0 0 (T_Span.mk 20 90))] 0 (1, [⟨20, 50⟩], [false], [false]) = some (.inr ([⟨20, 50⟩], [false])) := by
    unfold F_airflow_Narrow_L1
    rfl
  have h3 := (loopC_inl h1).trans (loopC_inr h2)
  show ((Option.bind (loopC (F_airflow_Narrow_L1 ⟨0, 1000000⟩ 1 [(T_Sensor.mk 0 1 0 0 0 0 0 9)] [(T_Measure.mk 0 0 (T_Span.mk 20 90))] 0) (0, [⟨0, 50⟩], [false], [false])) _).bind _) = _
  rw [h3, bind_some, loopC_of (n := 5) (show iterC _ 5 _ = some [] from by decide +kernel)]
  rfl
theorem spans_same (l : List T_Span) (hl : l.length ≤ 1000000) : F_ref01_Spans l l = some true := by
  unfold F_ref01_Spans
  rw [bif_neg (fun h => h rfl), all_loop l (fun _ => false) (fun i x hx => by
    have hi := (List.getElem?_eq_some_iff.1 hx).1
    unfold F_ref01_Spans_L1
    rw [bif_pos (by omega), getI_nat, hx, bind_some, bind_some, w64 (by omega) (by omega)]
    simp) (by unfold F_ref01_Spans_L1; rw [bif_neg (by omega)])]
  simp
theorem awake16 : F_law16_awake = some true := by
  unfold F_law16_awake
  have e1 := awakeM
  unfold m0 f0 l0 at e1
  rw [e1, bind_some, awakeK, bind_some, ints_same _ (by simp), bind_some, ints_same _ (by simp), bind_some, spans_same _ (by simp), bind_some]
  rfl
theorem ok_awake16 {k : Bool → Option Bool} {R : Bool → Prop} (h : Ok (k true) R) : Ok (F_law16_awake.bind k) R := ok_bindE awake16 h

/-! ### drawn sources -/
theorem sources_ok (c : T_draw_Codes) (n : Int) (hc : CodesOk c) (h0 : 0 ≤ n) (hn : n ≤ 1000) : Ok (F_law16_sources c n) fun r => CodesOk r.1 ∧ r.2.length ≤ 3 ∧ ∀ x ∈ r.2, 0 ≤ x.Road ∧ x.Road ≤ n ∧ 0 ≤ x.Inflow.Low ∧ 0 ≤ x.Inflow.High ∧ x.Inflow.High ≤ 10000 := by
  unfold F_law16_sources
  refine ok_bind (next_lt c 4 hc (by decide)) fun x1 h1 => ?_
  refine ok_bind (Q := fun o : List T_Source × T_draw_Codes => CodesOk o.2 ∧ o.1.length ≤ 3 ∧ ∀ x ∈ o.1, 0 ≤ x.Road ∧ x.Road ≤ n ∧ 0 ≤ x.Inflow.Low ∧ 0 ≤ x.Inflow.High ∧ x.Inflow.High ≤ 10000) (ok_loop (fun s : Int × List T_Source × T_draw_Codes => 0 ≤ s.1 ∧ CodesOk s.2.2 ∧ (s.2.1.length : Int) + s.1 ≤ 3 ∧ ∀ x ∈ s.2.1, 0 ≤ x.Road ∧ x.Road ≤ n ∧ 0 ≤ x.Inflow.Low ∧ 0 ≤ x.Inflow.High ∧ x.Inflow.High ≤ 10000) (fun s => s.1.toNat) _ (fun s hs => ?_) _ ⟨by dsimp only; omega, h1.1, by simp; omega, fun x hx => by cases hx⟩) fun o4 h4 => ok_some h4
  obtain ⟨k, l, c⟩ := s
  obtain ⟨a1, a2, a3, a4⟩ := hs
  dsimp only at a1 a2 a3 a4
  unfold F_law16_sources_L1
  dsimp only
  refine ok_dec (fun hlt => ?_) (fun _ => ok_some ⟨a2, by dsimp only; omega, a4⟩)
  rw [w64 (n := n + 1) (by omega) (by omega), w64 (n := k - 1) (by omega) (by omega)]
  refine ok_bind (next_lt c (n + 1) a2 (by omega)) fun x6 h6 => ?_
  refine ok_bind (next_lt x6.1 4000 h6.1 (by decide)) fun x8 h8 => ?_
  refine ok_bind (next_lt x8.1 300 h8.1 (by decide)) fun x10 h10 => ?_
  refine ok_bind (one_ok x10.1 12 h10.1 (by decide)) fun x12 h12 => ?_
  rw [w64 (n := x8.2 + x10.2) (by omega) (by omega), w64 (n := x8.2 + x10.2 + 1) (by omega) (by omega)]
  refine ok_bind (Q := fun o : Int => 0 ≤ o) (ok_bif (fun _ => ok_some (by omega)) (fun _ => ok_some (by omega))) fun o14 h14 => ?_
  rw [appI_ok (by simp; omega), bind_some]
  refine ok_some ⟨⟨by dsimp only; omega, h12, by simp; omega, fun x hx => ?_⟩, by dsimp only; omega⟩
  rcases List.mem_append.1 hx with hx | hx
  · exact a4 x hx
  · simp at hx
    subst hx
    dsimp only
    omega
theorem spans_ok' (c : T_draw_Codes) (f : List Int) (hc : CodesOk c) (hf : FlOk f) (hl : f.length ≤ 100) : Ok (F_draw_Codes_Spans c f) fun r => SpOk r.2 f ∧ CodesOk r.1 := by
  obtain ⟨r, h1, h2⟩ := spans_ok c f hc hf hl
  refine ⟨r, h1, h2, ?_⟩
  have : Ok (F_draw_Codes_Spans c f) fun r => CodesOk r.1 := by
    unfold F_draw_Codes_Spans
    refine ok_bind (Q := fun o : List T_Span × T_draw_Codes => CodesOk o.2) (ok_loop (fun s : Int × List T_Span × T_draw_Codes => ∃ i : Nat, s.1 = (i : Int) ∧ i ≤ f.length ∧ s.2.1.length ≤ i ∧ CodesOk s.2.2) (fun s => (f.length - s.1).toNat) _ (fun s hs => ?_) _ ⟨0, rfl, Nat.zero_le _, by simp, hc⟩) fun o2 h2 => ok_some h2
    obtain ⟨i', l, c⟩ := s
    obtain ⟨i, rfl, hi, hs, a4⟩ := hs
    dsimp only at hs a4
    unfold F_draw_Codes_Spans_L1
    dsimp only
    refine ok_dec (fun hk => ?_) (fun hk => ok_some a4)
    have hk' : i < f.length := by omega
    rw [getI_nat, List.getElem?_eq_getElem hk', bind_some]
    refine ok_bind (next_lt c 12 a4 (by decide)) fun x6 h6 => ?_
    rw [bind_some]
    refine ok_bind (next_lt x6.1 12 h6.1 (by decide)) fun x10 h10 => ?_
    rw [appI_ok (by simp; omega), bind_some, w64 (n := (i : Int) + 1) (by omega) (by omega)]
    exact ok_some ⟨⟨i + 1, rfl, hk', by simp; omega, h10.1⟩, by dsimp only; omega⟩
  obtain ⟨r', h3, h4⟩ := this
  rw [h1] at h3
  injection h3 with h3
  subst h3
  exact h4
/-! ### any flows: which error -/
def codeF (m : T_Mine) (n : Nat) (l : List T_Source) : Int := if chkS m l ≠ 0 then chkS m l else if n ≠ m.Roads.length then 11 else 0
theorem ok_both {α : Type} {m : Option α} {Q R : α → Prop} (h : Ok m Q) (k : Ok m R) : Ok m fun a => Q a ∧ R a := by
  obtain ⟨a, h1, h2⟩ := h
  obtain ⟨b, h3, h4⟩ := k
  rw [h1] at h3
  injection h3 with h3
  subst h3
  exact ⟨a, h1, h2, h4⟩
theorem first_none {α : Type} {e : α → Int} : ∀ {l : List α}, (∀ x ∈ l, e x = 0) → firstE e l = 0
  | [], _ => rfl
  | y :: l, h => by
    unfold firstE
    rw [if_pos (h y (List.mem_cons_self ..))]
    exact first_none fun x hx => h x (List.mem_cons_of_mem _ hx)
theorem chk_of {m : T_Mine} (h : MnOk m) (hv : MnV m) : chkM m = 0 := by
  obtain ⟨h1, h2, h3, h4⟩ := h
  obtain ⟨⟨v1, v2⟩, _⟩ := hv
  unfold chkM
  rw [if_neg (by omega), if_pos (List.all_eq_true.2 fun p hp => by rw [v1 p hp]; rfl)]
  refine first_none fun r hr => ?_
  obtain ⟨a1, a2, a3, a4⟩ := h4 r hr
  obtain ⟨b1, ⟨u1, u2, u3, u4, u5, u6, u7, u8⟩, w1, w2, w3⟩ := v2 r hr
  have e1 : spIn r.Rest 1 262144 = true := decide_eq_true ⟨by omega, by omega, by omega⟩
  have e2 : spIn r.Lift (-2199023255552) 2199023255552 = true := decide_eq_true ⟨by omega, by omega, by omega⟩
  unfold rdErr
  rw [if_neg (by omega), if_neg (by rw [e1, e2]; simp; omega)]
theorem firstE_app {α : Type} {e : α → Int} : ∀ {l t : List α}, (∀ x ∈ t, e x = 0) → firstE e (l ++ t) = firstE e l
  | [], t, h => first_none h
  | y :: l, t, h => by
    show (if e y = 0 then firstE e (l ++ t) else e y) = (if e y = 0 then firstE e l else e y)
    rw [firstE_app h]
theorem src0 {n : Nat} {r a : Int} (h0 : 0 ≤ r) (h1 : r < (n : Int)) (ha : 0 ≤ a) (hb : a ≤ 1099511627776) : srcErr n ⟨r, ⟨0, a⟩⟩ = 0 := by
  unfold srcErr
  have e : spIn ⟨0, a⟩ 0 1099511627776 = true := decide_eq_true ⟨by dsimp only; omega, by dsimp only; omega, by dsimp only; omega⟩
  rw [if_neg (by dsimp only; omega)]
  dsimp only
  rw [e, if_neg (by decide)]

/-! ### more -/
theorem most_of {m : T_Mine} {f : List T_Span} {l : List T_Source} (hm : MnOk m) (hc : chkS m l = 0) (hl : f.length = m.Roads.length) (hf : ∀ s ∈ f, -4611686018427387904 ≤ s.High) : Ok (F_gas_Most m f l) fun r => r.2.2 = 0 ∧ Lst m f (fun i => addF (sp0 f i) (inF l i)) (p0F m f) r.1 r.2.1 := by
  obtain ⟨c1, c2, c3⟩ := src_ok hc
  have hin : ∀ i : Nat, 0 ≤ inF l i ∧ inF l i ≤ 35184372088832 := fun i => (rinflow c2 c3 ((i : Int), [], [], [])).2
  exact gmost (sz_of hm) hc hl (fun i hi => ⟨gadd_eq _ _ (hin i).1 (by have := (hin i).2; omega) (hf _ (List.mem_of_getElem? (sp0_get (by omega)))), addF_bd (hin i).1⟩)
theorem chkS_of {m : T_Mine} {l : List T_Source} (hm : chkM m = 0) (hl : l.length ≤ 32) : chkS m l = firstE (srcErr m.Roads.length) l := by
  unfold chkS
  rw [if_neg (fun h => h hm), if_neg (by omega)]
theorem sp_mem {l : List T_Span} {f : List Int} (h : SpOk l f) {s : T_Span} (hs : s ∈ l) : s.Low ≤ s.High ∧ -2000 ≤ s.Low ∧ s.High ≤ 2000 := by
  obtain ⟨i, hi, rfl⟩ := List.getElem_of_mem hs
  have := h.1
  have h2 := h.2 i _ _ (List.getElem?_eq_getElem hi) (List.getElem?_eq_getElem (show i < f.length by omega))
  omega
theorem inF1 (x : T_Source) (i : Int) : inF [x] i = inS i 0 x := rfl
theorem inF2 (x y : T_Source) (i : Int) : inF [x, y] i = inS i (inS i 0 x) y := rfl
/-! ### sums -/
theorem foldS (i : Int) : ∀ (l : List T_Source) (v : Int), l.foldl (inS i) v = v + inF l i
  | [], v => by show v = v + 0; omega
  | x :: l, v => by
    have h : ∀ u, inS i u x = u + inS i 0 x := fun u => by unfold inS; split <;> omega
    show l.foldl (inS i) (inS i v x) = v + l.foldl (inS i) (inS i 0 x)
    rw [foldS i l, foldS i l, h v]
    omega
theorem inF_app (i : Int) (l t : List T_Source) : inF (l ++ t) i = inF l i + inF t i := by
  unfold inF
  rw [List.foldl_append, foldS i t]
  rfl
theorem two_vals {m : T_Mine} {f : List T_Span} {P R : List Int} (L : Lst m f (fun _ => 0) (p0F m f) P R) : (∀ k, k < m.Places.length → nt P k = 0 ∨ nt P k = 1000000) ∧ ∀ i, i < m.Roads.length → nt R i = 0 ∨ nt R i = 1000000 := by
  have hs : Sol m f (fun _ => 0) (p0F m f) (fun k => if nt P k = 1000000 then 1000000 else 0) (fun i => if nt R i = 1000000 then 1000000 else 0) := by
    refine ⟨fun k hk => ?_, fun i d hi hc => ?_, fun i d hi hc ht => ?_, fun i hi h1 h2 => ?_⟩
    · have a := L.iv.s0 k hk
      have b := L.iv.bp k
      try dsimp only
      by_cases h : stC m f k
      · unfold p0F at a ⊢
        rw [if_pos h] at a ⊢
        rw [if_pos (by omega)]
        omega
      · unfold p0F
        rw [if_neg h]
        split <;> omega
    · have a := L.sol.wy i d hi hc
      have c := L.iv.br i
      try dsimp only at a ⊢
      generalize (arcD m i d).from_.toNat = k at *
      have u := L.iv.bp k
      by_cases h : nt P k = 1000000
      · rw [if_pos h, if_pos (by omega)]
        omega
      · rw [if_neg h]
        split <;> omega
    · have a := L.sol.up i d hi hc ht
      have c := L.iv.br i
      try dsimp only
      generalize (arcD m i d).to_.toNat = k at *
      have u := L.iv.bp k
      by_cases h : nt R i = 1000000
      · rw [if_pos h, if_pos (by omega)]
        omega
      · rw [if_neg h]
        split <;> omega
    · have a := L.sol.no i hi h1 h2
      have c := L.iv.br i
      try dsimp only
      rw [if_pos (by omega)]
      omega
  obtain ⟨u1, u2⟩ := L.iv.le _ _ hs
  refine ⟨fun k hk => ?_, fun i hi => ?_⟩
  · have := u1 k hk
    have b := L.iv.bp k
    try dsimp only at this
    split at this <;> omega
  · have := u2 i hi
    have b := L.iv.br i
    try dsimp only at this
    split at this <;> omega
theorem gas_err {m : T_Mine} {f : List T_Span} {l : List T_Source} (hs : Sz m) (h : chkS m l ≠ 0) : F_gas_Most m f l = some ([], [], chkS m l) := by
  unfold F_gas_Most
  rw [(scheck_eq m l hs).1, bind_some, bif_pos h]
theorem law_GasAdds (p0 : List Int) (w0 : InL (In .u8) p0) (p1 : Int) (w1 : In .u16 p1) (p2 : Int) (w2 : In .u16 p2) : F_law16_GasAdds p0 p1 p2 = some true := by
  have b1 : 0 ≤ p1 ∧ p1 ≤ 65535 := by unfold In at w1; exact w1
  have b2 : 0 ≤ p2 ∧ p2 ≤ 65535 := by unfold In at w2; exact w2
  refine Ok.val ?_
  unfold F_law16_GasAdds
  refine ok_bind (new_ok p0 (bytesOf w0)) fun x1 h1 => ?_
  refine ok_bind (ok_both (made_ok x1 h1) (vmade_ok x1 h1)) fun x3 h3 => ?_
  obtain ⟨⟨d1, d2, d3, d4⟩, dv⟩ := h3
  have hr := d2.r1
  have hcm := chk_of d2 dv
  have hsz := sz_of d2
  refine ok_dec (fun _ => ok_awake16 (ok_some rfl)) (fun hne => ?_)
  refine ok_bind (spans_ok' x3.1 _ d1 d4 (by omega)) fun x8 h8 => ?_
  obtain ⟨hsp, hco⟩ := h8
  have hl8 : x8.2.length = x3.2.1.Mine.Roads.length := hsp.1.trans d3
  have hhi : ∀ s ∈ x8.2, -4611686018427387904 ≤ s.High := fun s hs => by have := sp_mem hsp hs; omega
  refine ok_bind (next_lt x8.1 _ hco (by omega)) fun x10 h10 => ?_
  rw [w64 (n := (x3.2.2.2.Flows.length : Int) - 1) (by omega) (by omega)]
  refine ok_bind (sources_ok x10.1 _ h10.1 (by omega) (by omega)) fun x12 h12 => ?_
  have hs3 := h12.2.1
  rw [w64 (n := p1) (by omega) (by omega), w64 (n := p2) (by omega) (by omega), w64 (n := p1 + p2) (by omega) (by omega), appI_ok (by simp; omega), bind_some]
  have s1 : ∀ x ∈ [(⟨x10.2, ⟨0, p1 + p2⟩⟩ : T_Source)], srcErr x3.2.1.Mine.Roads.length x = 0 := fun x hx => by simp at hx; subst hx; exact src0 h10.2.1 (by omega) (by omega) (by omega)
  have s2 : ∀ x ∈ [(⟨x10.2, ⟨0, p1⟩⟩ : T_Source), ⟨x10.2, ⟨0, p2⟩⟩], srcErr x3.2.1.Mine.Roads.length x = 0 := fun x hx => by
    simp at hx
    rcases hx with rfl | rfl
    · exact src0 h10.2.1 (by omega) (by omega) (by omega)
    · exact src0 h10.2.1 (by omega) (by omega) (by omega)
  have c1 : chkS x3.2.1.Mine ([⟨x10.2, ⟨0, p1 + p2⟩⟩] ++ x12.2) = firstE (srcErr x3.2.1.Mine.Roads.length) x12.2 := by
    rw [chkS_of hcm (by simp; omega)]
    show (if srcErr _ _ = 0 then _ else _) = _
    rw [if_pos (s1 _ (by simp))]
    rfl
  have c2 : chkS x3.2.1.Mine (x12.2 ++ [⟨x10.2, ⟨0, p1⟩⟩, ⟨x10.2, ⟨0, p2⟩⟩]) = firstE (srcErr x3.2.1.Mine.Roads.length) x12.2 := by
    rw [chkS_of hcm (by simp; omega), firstE_app s2]
  have hin : ∀ i : Int, inF ([⟨x10.2, ⟨0, p1 + p2⟩⟩] ++ x12.2) i = inF (x12.2 ++ [⟨x10.2, ⟨0, p1⟩⟩, ⟨x10.2, ⟨0, p2⟩⟩]) i := fun i => by
    rw [inF_app, inF_app, inF1, inF2]
    unfold inS
    dsimp only
    split <;> omega
  obtain ⟨r, e1, e2, l1, l2⟩ : ∃ r, F_gas_Most x3.2.1.Mine x8.2 ([⟨x10.2, ⟨0, p1 + p2⟩⟩] ++ x12.2) = some r ∧ F_gas_Most x3.2.1.Mine x8.2 (x12.2 ++ [⟨x10.2, ⟨0, p1⟩⟩, ⟨x10.2, ⟨0, p2⟩⟩]) = some r ∧ r.1.length ≤ 1000000 ∧ r.2.1.length ≤ 1000000 := by
    by_cases h0 : firstE (srcErr x3.2.1.Mine.Roads.length) x12.2 = 0
    · obtain ⟨r, q1, z1, L1⟩ := most_of d2 (c1.trans h0) hl8 hhi
      obtain ⟨r', q2, z2, L2⟩ := most_of d2 (c2.trans h0) hl8 hhi
      have em : (fun i : Nat => addF (sp0 x8.2 i) (inF (x12.2 ++ [⟨x10.2, ⟨0, p1⟩⟩, ⟨x10.2, ⟨0, p2⟩⟩]) i)) = fun i : Nat => addF (sp0 x8.2 i) (inF ([⟨x10.2, ⟨0, p1 + p2⟩⟩] ++ x12.2) i) := funext fun i => by rw [hin]
      rw [em] at L2
      obtain ⟨u1, u2⟩ := L1.uniq L2
      have e : r' = r := by
        obtain ⟨a, b, c⟩ := r
        obtain ⟨a', b', c'⟩ := r'
        dsimp only at u1 u2 z1 z2
        subst u1; subst u2; subst z1; subst z2
        rfl
      have := d2.p2
      exact ⟨r, q1, e ▸ q2, by rw [L1.iv.lp]; omega, by rw [L1.iv.lr]; omega⟩
    · exact ⟨([], [], firstE (srcErr x3.2.1.Mine.Roads.length) x12.2), by rw [gas_err hsz (by rw [c1]; exact h0), c1], by rw [gas_err hsz (by rw [c2]; exact h0), c2], by simp, by simp⟩
  rw [e1, bind_some, appI_ok (by simp; omega), bind_some, List.nil_append, appI_ok (by simp; omega), bind_some, e2, bind_some, bif_neg (fun h => h rfl), ints_same _ l1, bind_some, Bool.not_true, cond_false, ints_same _ l2, bind_some, Bool.not_true, bind_some, cond_false]
  have c0 : chkS x3.2.1.Mine [] = 0 := by rw [chkS_of hcm (by simp)]; rfl
  refine ok_bind (most_of d2 c0 hl8 hhi) fun x32 h32 => ?_
  obtain ⟨z, L⟩ := h32
  have em : (fun i : Nat => addF (sp0 x8.2 i) (inF [] i)) = fun _ => 0 := funext fun i => by unfold addF; rw [if_pos (show inF [] (i : Int) = 0 from rfl)]
  rw [em] at L
  obtain ⟨v1, v2⟩ := two_vals L
  have lp := L.iv.lp; have lr := L.iv.lr
  have hp2 := d2.p2
  rw [z, bif_neg (fun h => h rfl), appI_ok (by simp; omega), bind_some, List.nil_append, appI_ok (by omega), bind_some]
  have hv : ∀ x ∈ x32.1 ++ x32.2.1, x = 0 ∨ x = 1000000 := fun x hx => by
    rcases List.mem_append.1 hx with h | h
    · obtain ⟨i, hi, rfl⟩ := List.getElem_of_mem h
      have := nt_get hi
      rw [List.getElem?_eq_getElem hi] at this
      injection this with this
      rw [this]
      exact v1 i (by omega)
    · obtain ⟨i, hi, rfl⟩ := List.getElem_of_mem h
      have := nt_get hi
      rw [List.getElem?_eq_getElem hi] at this
      injection this with this
      rw [this]
      exact v2 i (by omega)
  have hlen : (x32.1 ++ x32.2.1).length ≤ 1000 := by rw [List.length_append]; omega
  generalize x32.1 ++ x32.2.1 = l at hv hlen
  refine ok_bind (Q := (· = .inr ())) (ok_loop (fun s : List Int × Int => s.1 = l ∧ 0 ≤ s.2 ∧ s.2 ≤ l.length) (fun s => (l.length - s.2).toNat) _ (fun s hs => ?_) (l, 0) ⟨rfl, Int.le_refl 0, by dsimp only; omega⟩) fun o ho => ?_
  · obtain ⟨l', i⟩ := s
    obtain ⟨q1, q2, q3⟩ := hs
    dsimp only at q1 q2 q3
    subst q1
    unfold F_law16_GasAdds_L1
    dsimp only
    refine ok_dec (fun hlt => ?_) (fun _ => ok_some rfl)
    refine ok_bind (ok_getI q2 hlt) fun x hx => ?_
    have := hv x (mem_get hx)
    rw [w64 (n := i + 1) (by omega) (by omega)]
    refine ok_bind (Q := fun b : Bool => b = false) (ok_dec (fun h => ok_some (decide_eq_false (by omega))) (fun _ => ok_some rfl)) fun b hb => ?_
    subst hb
    rw [cond_false]
    exact ok_some ⟨⟨rfl, by dsimp only; omega, by dsimp only; omega⟩, by dsimp only; omega⟩
  · subst ho
    exact ok_awake16 (ok_some rfl)
end Go.L
