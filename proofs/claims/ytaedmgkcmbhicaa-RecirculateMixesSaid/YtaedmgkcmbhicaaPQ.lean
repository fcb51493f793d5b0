/- What the functions yield, plain: the laws. -/
import Derived.Test.YtaedmgkcmbhicaaPDrawB14
/- Mines that are drawn: that they are made at all, and of what form they are. -/
namespace Go.L
open Go Go.Aml

def RdOk (n : Nat) (r : T_Road) : Prop := 0 ≤ r.From ∧ r.From < (n : Int) ∧ 0 ≤ r.To ∧ r.To < (n : Int)
structure MnOk (m : T_Mine) : Prop where
  p1 : 1 ≤ m.Places.length
  p2 : m.Places.length ≤ 12
  r1 : m.Roads.length ≤ 20
  rd : ∀ r ∈ m.Roads, RdOk m.Places.length r
def FlOk (l : List Int) : Prop := ∀ q ∈ l, -1000 ≤ q ∧ q ≤ 1000
def CvOk (l : List T_Point) : Prop := 1 ≤ l.length ∧ l.length ≤ 5 ∧ ∀ p ∈ l, -1000 ≤ p.Flow ∧ p.Flow ≤ 1000

theorem mem_app1 {α : Type} {l : List α} {a x : α} (h : x ∈ l ++ [a]) : x ∈ l ∨ x = a := by
  rcases List.mem_append.1 h with h | h
  · exact .inl h
  · exact .inr (by simpa using h)
theorem road_ok (c : T_draw_Codes) (f t : Int) (hc : CodesOk c) : Ok (F_draw_Codes_Road c f t) fun r => CodesOk r.1 ∧ r.2.From = f ∧ r.2.To = t := by
  unfold F_draw_Codes_Road
  refine ok_bind (range_ok c 1 400 hc (by decide) (by decide) (by decide)) fun x1 h1 => ?_
  refine ok_bind (range_ok x1.1 4 30 h1.1 (by decide) (by decide) (by decide)) fun x3 h3 => ?_
  refine ok_bind (next_ok x3.1 4 h3.1) fun x5 h5 => ?_
  refine ok_bind (range_ok x5.1 1 20 h5.1 (by decide) (by decide) (by decide)) fun x7 h7 => ?_
  refine ok_bind (next_ok x7.1 3 h7.1) fun x9 h9 => ?_
  refine ok_bind (range_ok x9.1 (-300) 300 h9.1 (by decide) (by decide) (by decide)) fun x11 h11 => ?_
  refine ok_bind (next_ok x11.1 20 h11.1) fun x13 h13 => ?_
  exact ok_some ⟨h13.1, rfl, rfl⟩
theorem curve_ok (c : T_draw_Codes) (hc : CodesOk c) : Ok (F_draw_Codes_Curve c) fun r => CodesOk r.1 ∧ CvOk r.2 := by
  unfold F_draw_Codes_Curve
  refine ok_bind (range_ok c (-20) 10 hc (by decide) (by decide) (by decide)) fun x1 h1 => ?_
  refine ok_bind (range_ok x1.1 500 3000 h1.1 (by decide) (by decide) (by decide)) fun x3 h3 => ?_
  refine ok_bind (next_lt x3.1 4 h3.1 (by decide)) fun x5 h5 => ?_
  refine ok_bind (ok_loop (fun s : Int × List T_Point × T_draw_Codes => 0 ≤ s.1 ∧ 1 ≤ s.2.1.length ∧ (s.2.1.length : Int) + s.1 ≤ 4 ∧ CodesOk s.2.2 ∧ ∀ p ∈ s.2.1, -20 ≤ p.Flow ∧ p.Flow ≤ 50 * (s.2.1.length : Int)) (fun s => s.1.toNat) (fun r => CodesOk r.2 ∧ CvOk r.1) (fun s hs => ?_) _ ⟨h5.2.1, by simp, by simp; omega, h5.1, fun p hp => ?_⟩) fun o8 h8 => ok_some h8
  · obtain ⟨k, l, c⟩ := s
    obtain ⟨a1, a2, a3, a4, a5⟩ := hs
    dsimp only at a1 a2 a3 a4 a5
    unfold F_draw_Codes_Curve_L1
    dsimp only
    refine ok_dec (fun hk => ?_) (fun hk => ok_some ⟨a4, a2, by dsimp only; omega, fun p hp => by have := a5 p hp; omega⟩)
    rw [w64 (n := (l.length : Int) - 1) (by omega) (by omega)]
    refine ok_bind (ok_getI (by omega) (by omega)) fun x10 h10 => ?_
    have hx := a5 x10 (mem_get h10)
    refine ok_bind (range_ok c 1 40 a4 (by decide) (by decide) (by decide)) fun x12 h12 => ?_
    refine ok_bind (next_ok x12.1 900 h12.1) fun x14 h14 => ?_
    rw [appI_ok (by simp; omega), bind_some, w64 (n := k - 1) (by omega) (by omega), w64 (n := x10.Flow + x12.2) (by omega) (by omega)]
    refine ok_some ⟨⟨by dsimp only; omega, by simp, by simp; omega, h14.1, fun p hp => ?_⟩, by dsimp only; omega⟩
    have hlen : ((l ++ [T_Point.mk (x10.Flow + x12.2) (max 0 (IntKind.i64.wrap (x10.Pressure - x14.2)))]).length : Int) = l.length + 1 := by simp
    dsimp only at hp ⊢
    rw [hlen]
    rcases mem_app1 hp with h | h
    · have := a5 p h; omega
    · subst h
      dsimp only
      omega
  · simp at hp
    subst hp
    simp
    omega
def DrOk (d : T_Door) : Prop := 1 ≤ d.Rests.length ∧ d.Rests.length ≤ 4
theorem door_ok (c : T_draw_Codes) (r : Int) (hc : CodesOk c) : Ok (F_draw_Codes_Door c r) fun r => CodesOk r.1 ∧ DrOk r.2 := by
  unfold F_draw_Codes_Door
  refine ok_bind (range_ok c 200 900 hc (by decide) (by decide) (by decide)) fun x1 h1 => ?_
  refine ok_bind (range_ok x1.1 1 3 h1.1 (by decide) (by decide) (by decide)) fun x3 h3 => ?_
  refine ok_bind (ok_loop (fun s : Int × List Int × T_draw_Codes => 0 ≤ s.1 ∧ 1 ≤ s.2.1.length ∧ (s.2.1.length : Int) + s.1 ≤ 4 ∧ CodesOk s.2.2) (fun s => s.1.toNat) (fun r => CodesOk r.2 ∧ 1 ≤ r.1.length ∧ r.1.length ≤ 4) (fun s hs => ?_) _ ⟨by dsimp only; omega, by simp, by simp; omega, h3.1⟩) fun o8 h8 => ok_some ⟨h8.1, h8.2.1, h8.2.2⟩
  obtain ⟨k, l, c⟩ := s
  obtain ⟨a1, a2, a3, a4⟩ := hs
  dsimp only at a1 a2 a3 a4
  unfold F_draw_Codes_Door_L1
  dsimp only
  refine ok_dec (fun hk => ?_) (fun hk => ok_some ⟨a4, a2, by dsimp only; omega⟩)
  rw [w64 (n := (l.length : Int) - 1) (by omega) (by omega)]
  refine ok_bind (ok_getI (by omega) (by omega)) fun x10 h10 => ?_
  refine ok_bind (range_ok c 1 60 a4 (by decide) (by decide) (by decide)) fun x12 h12 => ?_
  rw [appI_ok (by simp; omega), bind_some, w64 (n := k - 1) (by omega) (by omega)]
  exact ok_some ⟨⟨by dsimp only; omega, by simp, by simp; omega, h12.1⟩, by dsimp only; omega⟩

structure EqOk (a : T_Air) (s : T_Setting) : Prop where
  f1 : a.Fans.length ≤ 2
  f2 : s.Fans.length = a.Fans.length
  f3 : ∀ f ∈ a.Fans, CvOk f.Curve
  d1 : a.Doors.length ≤ 2
  d2 : s.Doors.length = a.Doors.length
  d3 : ∀ d ∈ a.Doors, DrOk d
theorem equipped_ok (c : T_draw_Codes) (m : T_Mine) (hc : CodesOk c) (hm : m.Roads.length ≤ 20) : Ok (F_draw_Codes_equipped c ⟨m, [], []⟩) fun r => CodesOk r.1 ∧ r.2.1.Mine = m ∧ EqOk r.2.1 r.2.2 := by
  unfold F_draw_Codes_equipped
  refine ok_bind (next_lt c 3 hc (by decide)) fun x2 h2 => ?_
  refine ok_bind (ok_loop (fun s : Int × List Int × T_draw_Codes × List T_Fan => 0 ≤ s.1 ∧ (s.2.2.2.length : Int) + s.1 ≤ 2 ∧ s.2.1.length = s.2.2.2.length ∧ CodesOk s.2.2.1 ∧ ∀ f ∈ s.2.2.2, CvOk f.Curve) (fun s => s.1.toNat)
    (fun r => r.2.2.length ≤ 2 ∧ r.1.length = r.2.2.length ∧ CodesOk r.2.1 ∧ ∀ f ∈ r.2.2, CvOk f.Curve) (fun s hs => ?_) _ ⟨h2.2.1, by simp; omega, rfl, h2.1, fun f hf => by cases hf⟩) fun o5 h5 => ?_
  · obtain ⟨k, l, c, fs⟩ := s
    obtain ⟨a1, a2, a3, a4, a5⟩ := hs
    dsimp only at a1 a2 a3 a4 a5
    unfold F_draw_Codes_equipped_L1
    dsimp only
    rw [and_bif rfl, bind_some]
    refine ok_dec (fun hk => ?_) (fun hk => ok_some ⟨by dsimp only; omega, a3, a4, a5⟩)
    refine ok_bind (next_ok c _ a4) fun x9 h9 => ?_
    refine ok_bind (one_ok x9.1 3 h9.1 (by decide)) fun x11 h11 => ?_
    refine ok_bind (one_ok x11.1 3 h11 (by decide)) fun x13 h13 => ?_
    refine ok_bind (curve_ok x13.1 h13) fun x15 h15 => ?_
    rw [appI_ok (by simp; omega), bind_some]
    refine ok_bind (next_ok x15.1 3 h15.1) fun x19 h19 => ?_
    rw [appI_ok (by simp; omega), bind_some, w64 (n := k - 1) (by omega) (by omega)]
    refine ok_some ⟨⟨by dsimp only; omega, by simp; omega, by simp [a3], h19.1, fun f hf => ?_⟩, by dsimp only; omega⟩
    rcases mem_app1 hf with h | h
    · exact a5 f h
    · subst h; exact h15.2
  obtain ⟨b1, b2, b3, b4⟩ := h5
  refine ok_bind (next_lt o5.2.1 3 b3 (by decide)) fun x24 h24 => ?_
  refine ok_bind (ok_loop (fun s : Int × T_Setting × T_draw_Codes × List T_Door => 0 ≤ s.1 ∧ (s.2.2.2.length : Int) + s.1 ≤ 2 ∧ s.2.1.Doors.length = s.2.2.2.length ∧ s.2.1.Fans = o5.1 ∧ CodesOk s.2.2.1 ∧ ∀ d ∈ s.2.2.2, DrOk d) (fun s => s.1.toNat)
    (fun r => r.2.2.length ≤ 2 ∧ r.1.Doors.length = r.2.2.length ∧ r.1.Fans = o5.1 ∧ CodesOk r.2.1 ∧ ∀ d ∈ r.2.2, DrOk d) (fun s hs => ?_) _ ⟨h24.2.1, by simp; omega, rfl, rfl, h24.1, fun f hf => by cases hf⟩) fun o27 h27 => ?_
  · obtain ⟨k, s, c, ds⟩ := s
    obtain ⟨a1, a2, a3, a4, a5, a6⟩ := hs
    dsimp only at a1 a2 a3 a4 a5 a6
    unfold F_draw_Codes_equipped_L2
    dsimp only
    refine ok_bind (Q := fun o => o.2 = s ∧ (o.1 = true → 0 < k)) (ok_dec (fun h => ok_some ⟨rfl, fun _ => h⟩) (fun _ => ok_some ⟨rfl, fun h => by cases h⟩)) fun o28 h28 => ?_
    obtain ⟨rfl, h28⟩ := h28
    refine ok_bif (fun hk => ?_) (fun hk => ok_some ⟨by dsimp only; omega, a3, a4, a5, a6⟩)
    have hk0 := h28 hk
    refine ok_bind (next_ok c _ a5) fun x31 h31 => ?_
    refine ok_bind (door_ok x31.1 _ h31.1) fun x33 h33 => ?_
    rw [appI_ok (by simp; omega), bind_some]
    refine ok_bind (next_ok x33.1 _ h33.1) fun x37 h37 => ?_
    rw [appI_ok (by simp; omega), bind_some, w64 (n := k - 1) (by omega) (by omega)]
    refine ok_some ⟨⟨by dsimp only; omega, by simp; omega, by simp [a3], a4, h37.1, fun d hd => ?_⟩, by dsimp only; omega⟩
    rcases mem_app1 hd with h | h
    · exact a6 d h
    · subst h; exact h33.2
  exact ok_some ⟨h27.2.2.2.1, rfl, ⟨b1, by dsimp only; rw [h27.2.2.1]; exact b2, b4, h27.1, h27.2.1, h27.2.2.2.2⟩⟩

theorem rest_ok (d : T_Door) (k : Int) (hd : DrOk d) : Ok (F_ref08_Rest d k) fun _ => True := by
  obtain ⟨h1, h2⟩ := hd
  unfold F_ref08_Rest
  rw [or_bif (or_bif rfl), bind_some]
  refine ok_dec (fun _ => ok_some trivial) (fun hn => ?_)
  refine ok_dec (fun hk => ?_) (fun hk => ?_)
  · refine ok_bind (ok_getI (by omega) (by omega)) fun _ _ => ?_
    exact ok_bind (ok_getI (by omega) (by omega)) fun _ _ => ok_some trivial
  · refine ok_bind (ok_getI (by omega) (by omega)) fun x _ => ?_
    refine ok_bind (ok_getI (by omega) (by omega)) fun y _ => ?_
    refine ok_bind (ok_loop (fun s : Int × T_Span => 0 ≤ s.1 ∧ s.1 ≤ d.Rests.length) (fun s => (d.Rests.length - s.1).toNat) (fun _ => True) (fun s hs => ?_) _ ⟨Int.le_refl _, by dsimp only; omega⟩) fun _ _ => ok_some trivial
    unfold F_ref08_Rest_L1
    refine ok_dec (fun hi => ?_) (fun hi => ok_some trivial)
    refine ok_bind (ok_getI hs.1 hi) fun x _ => ?_
    refine ok_bind (ok_getI hs.1 hi) fun y _ => ?_
    rw [w64 (by omega) (by omega)]
    exact ok_some ⟨⟨by dsimp only; omega, by dsimp only; omega⟩, by dsimp only; omega⟩
theorem floor_ok (a b : Int) (h : b ≠ 0) : Ok (F_ref05_Floor a b) fun _ => True := by
  unfold F_ref05_Floor
  rw [quoI_ok h, bind_some, remI_ok h, bind_some]
  exact ok_bind (Q := fun _ => True) (ok_dec (fun _ => ok_some trivial) (fun _ => ok_some trivial)) fun _ _ => ok_some trivial
theorem ceil_ok (a b : Int) (h : b ≠ 0) : Ok (F_ref05_Ceil a b) fun _ => True := by
  unfold F_ref05_Ceil
  exact ok_bind (floor_ok _ b h) fun _ _ => ok_some trivial
theorem inner_ok (f : T_Fan) (q : Int) (hf : CvOk f.Curve) : Ok (F_ref07_Inner f q) fun _ => True := by
  obtain ⟨h1, h2, h3⟩ := hf
  unfold F_ref07_Inner
  have e0 : getI f.Curve 0 = some f.Curve[0] := by rw [show (0 : Int) = ((0 : Nat) : Int) from rfl, getI_nat]; exact List.getElem?_eq_getElem h1
  rw [e0, bind_some]
  refine ok_dec (fun _ => ok_some trivial) (fun hq0 => ?_)
  rw [w64 (n := (f.Curve.length : Int) - 1) (by omega) (by omega)]
  refine ok_bind (ok_getI (by omega) (by omega)) fun xl hl => ?_
  refine ok_dec (fun _ => ?_) (fun hq1 => ?_)
  · refine ok_bind (ok_getI (by omega) (by omega)) fun _ _ => ?_
    exact ok_bind (ok_getI (by omega) (by omega)) fun _ _ => ok_some trivial
  refine ok_bind (Q := fun o : Int => 0 ≤ o ∧ o + 1 < f.Curve.length ∧ (∀ x, f.Curve[o.toNat]? = some x → x.Flow ≤ q) ∧ ∀ x, f.Curve[(o + 1).toNat]? = some x → q < x.Flow) (ok_loop (fun s : Int => 0 ≤ s ∧ s + 1 < f.Curve.length ∧ ∀ x, f.Curve[s.toNat]? = some x → x.Flow ≤ q) (fun s => (f.Curve.length - s).toNat) _ (fun s hs => ?_) _ ⟨Int.le_refl _, ?_, fun x hx => ?_⟩) fun o16 ho => ?_
  · obtain ⟨a1, a2, a3⟩ := hs
    unfold F_ref07_Inner_L1
    rw [w64 (n := s + 1) (by omega) (by omega)]
    refine ok_bind (ok_getI (by omega) (by omega)) fun x hx => ?_
    refine ok_dec (fun hle => ok_some ⟨⟨by omega, ?_, fun y hy => ?_⟩, by omega⟩) (fun hgt => ok_some ⟨a1, a2, a3, fun y hy => ?_⟩)
    · by_cases e : s + 1 + 1 < (f.Curve.length : Int)
      · exact e
      · have : s + 1 = (f.Curve.length : Int) - 1 := by omega
        rw [this, hl] at hx
        injection hx with hx
        subst hx
        omega
    · rw [hx] at hy
      injection hy with hy
      subst hy
      exact hle
    · rw [hx] at hy
      injection hy with hy
      subst hy
      omega
  · by_cases e : (0 : Int) + 1 < (f.Curve.length : Int)
    · exact e
    · have : (f.Curve.length : Int) - 1 = 0 := by omega
      rw [this] at hl
      have : f.Curve[0] = xl := by
        have h' : f.Curve[(0 : Int).toNat]? = some f.Curve[0] := List.getElem?_eq_getElem h1
        rw [hl] at h'
        injection h' with h'
        exact h'.symm
      rw [this] at hq0
      omega
  · have h' : f.Curve[(0 : Int).toNat]? = some f.Curve[0] := List.getElem?_eq_getElem h1
    rw [h'] at hx
    injection hx with hx
    subst hx
    omega
  · obtain ⟨a1, a2, a3, a4⟩ := ho
    refine ok_bind (ok_getI (by omega) (by omega)) fun x20 h20 => ?_
    rw [w64 (n := o16 + 1) (by omega) (by omega)]
    refine ok_bind (ok_getI (by omega) (by omega)) fun x22 h22 => ?_
    have c1 := a3 x20 h20
    have c2 := a4 x22 h22
    have c3 := h3 x20 (mem_get h20)
    have c4 := h3 x22 (mem_get h22)
    rw [w64 (n := x22.Flow - x20.Flow) (by omega) (by omega)]
    refine ok_bind (floor_ok _ _ (by omega)) fun _ _ => ?_
    exact ok_bind (ceil_ok _ _ (by omega)) fun _ _ => ok_some trivial
theorem along_ok (f : T_Fan) (b : Bool) (q : Int) (hf : CvOk f.Curve) : Ok (F_ref07_Along f b q) fun _ => True := by
  unfold F_ref07_Along
  exact ok_bif (fun _ => ok_bind (inner_ok f _ hf) fun _ _ => ok_some trivial) (fun _ => ok_bind (inner_ok f _ hf) fun _ _ => ok_some trivial)
theorem state_ok (f : T_Fan) (k q : Int) (hf : CvOk f.Curve) : Ok (F_ref07_State f k q) fun _ => True := by
  unfold F_ref07_State
  refine ok_dec (fun _ => ok_some trivial) (fun _ => ok_dec (fun _ => ok_bind (along_ok f _ q hf) fun _ _ => ok_some trivial) (fun _ => ok_dec (fun _ => ok_bind (along_ok f _ q hf) fun _ _ => ok_some trivial) (fun _ => ?_)))
  exact ok_bind (along_ok f _ q hf) fun _ _ => ok_bind (along_ok f _ q hf) fun _ _ => ok_some trivial

theorem fit_ok (c : T_draw_Codes) (a : T_Air) (s : T_Setting) (x : T_State) (hc : CodesOk c) (he : EqOk a s) (hm : MnOk a.Mine) (hf : x.Flows.length = a.Mine.Roads.length) (hp : x.Pressures.length = a.Mine.Places.length) :
    Ok (F_draw_Codes_fit c a s x) fun r => CodesOk r.1 ∧ MnOk r.2.Mine ∧ r.2.Mine.Roads.length = a.Mine.Roads.length := by
  obtain ⟨e1, e2, e3, e4, e5, e6⟩ := he
  obtain ⟨m1, m2, m3, m4⟩ := hm
  unfold F_draw_Codes_fit
  refine ok_bind (Q := fun o => CodesOk o.1 ∧ o.2.length = a.Mine.Roads.length ∧ ∀ r ∈ o.2, RdOk a.Mine.Places.length r) (ok_loop (fun t : Int × T_draw_Codes × List T_Road => 0 ≤ t.1 ∧ t.1 ≤ a.Mine.Roads.length ∧ t.2.2.length = a.Mine.Roads.length ∧ CodesOk t.2.1 ∧ ∀ r ∈ t.2.2, RdOk a.Mine.Places.length r) (fun t => (a.Mine.Roads.length - t.1).toNat) _ (fun t ht => ?_) _ ⟨Int.le_refl _, by dsimp only; omega, rfl, hc, m4⟩) fun o ho => ok_some ⟨ho.1, ⟨m1, m2, by dsimp only; omega, ho.2.2⟩, ho.2.1⟩
  obtain ⟨i, c, l⟩ := t
  obtain ⟨a1, a2, a3, a4, a5⟩ := ht
  dsimp only at a1 a2 a3 a4 a5
  unfold F_draw_Codes_fit_L1
  dsimp only
  refine ok_dec (fun hi => ?_) (fun hi => ok_some ⟨a4, a3, a5⟩)
  refine ok_bind (ok_getI a1 hi) fun x7 h7 => ?_
  refine ok_bind (ok_getI a1 (by omega)) fun x9 h9 => ?_
  refine ok_bind (next_ok c _ a4) fun x11 h11 => ?_
  have hr := a5 x7 (mem_get h7)
  obtain ⟨r1, r2, r3, r4⟩ := hr
  refine ok_bind (Q := fun _ => True) (ok_loop (fun t : Int × Int => 0 ≤ t.2 ∧ t.2 ≤ a.Doors.length) (fun t => (a.Doors.length - t.2).toNat) _ (fun t ht => ?_) _ ⟨Int.le_refl _, by dsimp only; omega⟩) fun o14 _ => ?_
  · unfold F_draw_Codes_fit_L2
    obtain ⟨v, k⟩ := t
    dsimp only at ht ⊢
    refine ok_dec (fun hk => ?_) (fun _ => ok_some trivial)
    refine ok_bind (Q := fun _ => True) (ok_bind (ok_getI ht.1 hk) fun x17 h17 => ok_dec (fun _ => ?_) (fun _ => ok_some trivial)) fun _ _ => ?_
    · refine ok_bind (ok_getI ht.1 hk) fun x20 h20 => ?_
      refine ok_bind (ok_getI ht.1 (by omega)) fun x22 h22 => ?_
      exact ok_bind (rest_ok x20 x22 (e6 x20 (mem_get h20))) fun _ _ => ok_some trivial
    · rw [w64 (by omega) (by omega)]
      exact ok_some ⟨⟨by dsimp only; omega, by dsimp only; omega⟩, by dsimp only; omega⟩
  · rw [h7, bind_some]
    refine ok_bind (ok_getI r1 (by omega)) fun x28 h28 => ?_
    refine ok_bind (ok_getI r3 (by omega)) fun x30 h30 => ?_
    refine ok_bind (Q := fun _ => True) (ok_loop (fun t : Int × Int => 0 ≤ t.2 ∧ t.2 ≤ a.Fans.length) (fun t => (a.Fans.length - t.2).toNat) _ (fun t ht => ?_) _ ⟨Int.le_refl _, by dsimp only; omega⟩) fun o33 _ => ?_
    · unfold F_draw_Codes_fit_L3
      obtain ⟨v, k⟩ := t
      dsimp only at ht ⊢
      refine ok_dec (fun hk => ?_) (fun _ => ok_some trivial)
      refine ok_bind (Q := fun _ => True) (ok_bind (ok_getI ht.1 hk) fun x17 h17 => ok_dec (fun _ => ?_) (fun _ => ok_some trivial)) fun _ _ => ?_
      · refine ok_bind (ok_getI ht.1 hk) fun x20 h20 => ?_
        refine ok_bind (ok_getI ht.1 (by omega)) fun x22 h22 => ?_
        exact ok_bind (state_ok x20 x22 _ (e3 x20 (mem_get h20))) fun _ _ => ok_some trivial
      · rw [w64 (by omega) (by omega)]
        exact ok_some ⟨⟨by dsimp only; omega, by dsimp only; omega⟩, by dsimp only; omega⟩
    · refine ok_bind (next_ok x11.1 30 h11.1) fun x45 h45 => ?_
      refine ok_bind (next_ok x45.1 30 h45.1) fun x47 h47 => ?_
      rw [bind_some, w64 (n := i + 1) (by omega) (by omega)]
      refine ok_some ⟨⟨by dsimp only; omega, by dsimp only; omega, by rw [List.length_set]; exact a3, h47.1, fun r hr => ?_⟩, by dsimp only; omega⟩
      rcases List.mem_or_eq_of_mem_set hr with h | h
      · exact a5 r h
      · subst h; exact ⟨r1, r2, r3, r4⟩
theorem doubts_ok (c : T_draw_Codes) (a : T_Air) (s : T_Setting) (hc : CodesOk c) (h1 : s.Fans.length ≤ 100) (h2 : s.Doors.length ≤ 100) : Ok (F_draw_Codes_doubts c a s) fun r => CodesOk r.1 := by
  unfold F_draw_Codes_doubts
  refine ok_bind (Q := fun o => CodesOk o.2) (ok_loop (fun t : Int × List Int × T_draw_Codes => 0 ≤ t.1 ∧ t.1 ≤ s.Fans.length ∧ (t.2.1.length : Int) = t.1 ∧ CodesOk t.2.2) (fun t => (s.Fans.length - t.1).toNat) _ (fun t ht => ?_) _ ⟨Int.le_refl _, by dsimp only; omega, rfl, hc⟩) fun o2 ho2 => ?_
  · obtain ⟨i, l, c⟩ := t
    obtain ⟨a1, a2, a3, a4⟩ := ht
    dsimp only at a1 a2 a3 a4
    unfold F_draw_Codes_doubts_L1
    dsimp only
    refine ok_dec (fun hi => ?_) (fun _ => ok_some a4)
    refine ok_bind (ok_getI a1 hi) fun x4 _ => ?_
    refine ok_bind (one_ok c 5 a4 (by decide)) fun x6 h6 => ?_
    refine ok_bind (Q := fun _ => True) (ok_bif (fun _ => ok_some trivial) (fun _ => ok_some trivial)) fun o8 _ => ?_
    rw [appI_ok (by simp; omega), bind_some, w64 (by omega) (by omega)]
    exact ok_some ⟨⟨by dsimp only; omega, by dsimp only; omega, by simp; omega, h6⟩, by dsimp only; omega⟩
  refine ok_bind (Q := fun o => CodesOk o.2) (ok_loop (fun t : Int × T_Setting × T_draw_Codes => 0 ≤ t.1 ∧ t.1 ≤ s.Doors.length ∧ (t.2.1.Doors.length : Int) = t.1 ∧ CodesOk t.2.2) (fun t => (s.Doors.length - t.1).toNat) _ (fun t ht => ?_) _ ⟨Int.le_refl _, by dsimp only; omega, rfl, ho2⟩) fun o13 ho13 => ok_some ho13
  obtain ⟨i, l, c⟩ := t
  obtain ⟨a1, a2, a3, a4⟩ := ht
  dsimp only at a1 a2 a3 a4
  unfold F_draw_Codes_doubts_L2
  dsimp only
  refine ok_dec (fun hi => ?_) (fun _ => ok_some a4)
  refine ok_bind (ok_getI a1 hi) fun x4 _ => ?_
  refine ok_bind (one_ok c 5 a4 (by decide)) fun x6 h6 => ?_
  refine ok_bind (Q := fun o => o.2 = l) (ok_bif (fun _ => ok_some rfl) (fun _ => ok_some rfl)) fun o8 h8 => ?_
  rw [h8, appI_ok (by simp; omega), bind_some, w64 (by omega) (by omega)]
  exact ok_some ⟨⟨by dsimp only; omega, by dsimp only; omega, by simp; omega, h6⟩, by dsimp only; omega⟩

theorem rem_lt {v : Int} {n : Nat} (h0 : 0 ≤ v) (hn : 1 ≤ n) : remI v (n : Int) = some (v.tmod n) ∧ 0 ≤ v.tmod n ∧ v.tmod n < (n : Int) := by
  obtain ⟨h1, h2⟩ := tmod_lt (n := (n : Int)) h0 (by omega)
  exact ⟨remI_ok (by omega), h1, h2⟩
structure MdS (n : Nat) (net : List Int) (a : T_Air) (x : T_State) (c : T_draw_Codes) (b k : Nat) : Prop where
  ne : net.length = n
  nb : ∀ q ∈ net, -(120 * (b : Int)) ≤ q ∧ q ≤ 120 * (b : Int)
  pl : a.Mine.Places.length = n
  rl : a.Mine.Roads.length ≤ k
  rd : ∀ r ∈ a.Mine.Roads, RdOk n r
  fl : x.Flows.length = a.Mine.Roads.length
  fb : FlOk x.Flows
  pr : x.Pressures.length = n
  hc : CodesOk c
theorem fl_app {l : List Int} {q : Int} (h : FlOk l) (hq : -1000 ≤ q ∧ q ≤ 1000) : FlOk (l ++ [q]) := fun x hx => by
  rcases mem_app1 hx with h' | h'
  · exact h x h'
  · subst h'; exact hq
theorem rd_app {n : Nat} {l : List T_Road} {q : T_Road} (h : ∀ r ∈ l, RdOk n r) (hq : RdOk n q) : ∀ r ∈ l ++ [q], RdOk n r := fun x hx => by
  rcases mem_app1 hx with h' | h'
  · exact h x h'
  · subst h'; exact hq
theorem made_L3 (o10 : List T_Place × T_draw_Codes) (hn : 2 ≤ o10.1.length) (hn2 : o10.1.length ≤ 12) (s : Int × List Int × T_Air × T_State × T_draw_Codes) (k0 : Nat) (hk : s.1 = (k0 : Int)) (hk5 : k0 ≤ 5) (hs : MdS o10.1.length s.2.1 s.2.2.1 s.2.2.2.1 s.2.2.2.2 (5 - k0) (5 - k0)) :
    Ok (loopC (F_draw_Codes_Made_L3 o10) s) fun r => MdS o10.1.length r.1 r.2.1 r.2.2.1 r.2.2.2 5 5 := by
  refine ok_loop (fun s : Int × List Int × T_Air × T_State × T_draw_Codes => ∃ k : Nat, s.1 = (k : Int) ∧ k ≤ 5 ∧ MdS o10.1.length s.2.1 s.2.2.1 s.2.2.2.1 s.2.2.2.2 (5 - k) (5 - k)) (fun s => s.1.toNat) _ (fun s hs => ?_) _ ⟨k0, hk, hk5, hs⟩
  obtain ⟨k', net, a, x, c⟩ := s
  obtain ⟨k, hkk, hk5, hs⟩ := hs
  dsimp only at hkk hs
  subst hkk
  obtain ⟨m1, m2, m3, m4, m5, m6, m7, m8, m9⟩ := hs
  unfold F_draw_Codes_Made_L3
  dsimp only
  refine ok_dec (fun hk => ?_) (fun hk => ok_some ⟨m1, fun q hq => by have := m2 q hq; omega, m3, by dsimp only; omega, m5, m6, m7, m8, m9⟩)
  refine ok_bind (next_lt c _ m9 (by omega)) fun x34 h34 => ?_
  rw [w64 (n := (o10.1.length : Int) - 1) (by omega) (by omega)]
  refine ok_bind (next_lt x34.1 _ h34.1 (by omega)) fun x36 h36 => ?_
  rw [w64 (n := x34.2 + 1) (by omega) (by omega), w64 (n := x34.2 + 1 + x36.2) (by omega) (by omega)]
  obtain ⟨q1, q2, q3⟩ := rem_lt (v := x34.2 + 1 + x36.2) (n := o10.1.length) (by omega) (by omega)
  rw [q1, bind_some]
  refine ok_bind (road_ok x36.1 _ _ h36.1) fun x40 h40 => ?_
  refine ok_bind (one_ok x40.1 7 h40.1 (by decide)) fun x42 h42 => ?_
  refine ok_bind (range_ok x42.1 (-60) 60 h42 (by decide) (by decide) (by decide)) fun x44 h44 => ?_
  refine ok_bind (Q := fun o : Int × T_Air × T_State => -60 ≤ o.1 ∧ o.1 ≤ 60 ∧ o.2.1.Mine = a.Mine ∧ o.2.2 = x) (ok_bif (fun _ => ok_some ⟨by show (-60 : Int) ≤ 0; decide, by show (0 : Int) ≤ 60; decide, rfl, rfl⟩) (fun _ => ok_some ⟨h44.2.1, h44.2.2, rfl, rfl⟩)) fun o46 h46 => ?_
  obtain ⟨b1, b2, b3, b4⟩ := h46
  have hRd : RdOk o10.1.length (T_Road.mk x40.2.From x40.2.To x40.2.Length x40.2.Area x40.2.Walk x42.2 x40.2.Rest x40.2.Lift) := ⟨by show 0 ≤ x40.2.From; rw [h40.2.1]; omega, by show x40.2.From < _; rw [h40.2.1]; omega, by show 0 ≤ x40.2.To; rw [h40.2.2]; omega, by show x40.2.To < _; rw [h40.2.2]; omega⟩
  obtain ⟨r1, r2, r3, r4⟩ := hRd
  dsimp only at r1 r2 r3 r4
  rw [b3, appI_ok (by simp; omega), bind_some, b4, appI_ok (by simp; omega), bind_some]
  refine ok_bind (ok_getI r1 (by omega)) fun x52 h52 => ?_
  refine ok_bind (ok_getI r1 (by omega)) fun x54 h54 => ?_
  have n52 := m2 x52 (mem_get h52)
  rw [w64 (n := x52 + o46.1) (by omega) (by omega)]
  refine ok_bind (ok_getI r3 (by rw [List.length_set]; omega)) fun x56 h56 => ?_
  refine ok_bind (ok_getI r3 (by rw [List.length_set]; omega)) fun x58 h58 => ?_
  have n1 : ∀ q ∈ net.set x40.2.From.toNat (x52 + o46.1), -(120 * ((5 - k : Nat) : Int) + 60) ≤ q ∧ q ≤ 120 * ((5 - k : Nat) : Int) + 60 := fun q hq => by
    rcases List.mem_or_eq_of_mem_set hq with h | h
    · have := m2 q h; omega
    · subst h; omega
  have n56 := n1 x56 (mem_get h56)
  rw [w64 (n := x56 - o46.1) (by omega) (by omega), w64 (n := (k : Int) - 1) (by omega) (by omega)]
  refine ok_some ⟨⟨k - 1, by dsimp only; omega, by omega, ⟨by rw [List.length_set, List.length_set]; exact m1, fun q hq => ?_, m3, by simp; omega, rd_app m5 ⟨r1, r2, r3, r4⟩, by simp [m6], fl_app m7 (by omega), m8, h44.1⟩⟩, by dsimp only; omega⟩
  rcases List.mem_or_eq_of_mem_set hq with h | h
  · have := n1 q h; omega
  · subst h; omega
theorem made_L4 (o3 : List T_Place) (o10 : List T_Place × T_draw_Codes) (o27 : List Int × T_Air × T_State × T_draw_Codes) (h3 : 1 ≤ o3.length) (h32 : o3.length ≤ o10.1.length) (hn2 : o10.1.length ≤ 12) (hs : MdS o10.1.length o27.1 o27.2.1 o27.2.2.1 o27.2.2.2 5 5) :
    Ok (loopC (F_draw_Codes_Made_L4 o3 o10 o27) ((o3.length : Int), (T_Air.mk o27.2.1.Mine [] []), o27.2.2.1, o27.2.2.2)) fun r => MdS o10.1.length o27.1 r.1 r.2.1 r.2.2 5 17 ∧ r.1.Fans = [] ∧ r.1.Doors = [] := by
  obtain ⟨m1, m2, m3, m4, m5, m6, m7, m8, m9⟩ := hs
  refine ok_loop (fun s : Int × T_Air × T_State × T_draw_Codes => ∃ i : Nat, s.1 = (i : Int) ∧ i ≤ o10.1.length ∧ MdS o10.1.length o27.1 s.2.1 s.2.2.1 s.2.2.2 5 (5 + i)) (fun s => (o10.1.length - s.1).toNat) _ (fun s hs => ?_) _ ⟨o3.length, rfl, h32, ⟨m1, m2, m3, by dsimp only; omega, m5, m6, m7, m8, m9⟩⟩
  obtain ⟨i', a, x, c⟩ := s
  obtain ⟨i, hii, hil, hs⟩ := hs
  dsimp only at hii hs
  subst hii
  obtain ⟨m1, m2, m3, m4, m5, m6, m7, m8, m9⟩ := hs
  unfold F_draw_Codes_Made_L4
  dsimp only
  refine ok_dec (fun hk => ?_) (fun hk => ok_some ⟨⟨m1, m2, m3, by dsimp only; omega, m5, m6, m7, m8, m9⟩, rfl, rfl⟩)
  refine ok_bind (next_lt c _ m9 (by omega)) fun x63 h63 => ?_
  refine ok_bind (road_ok x63.1 _ _ h63.1) fun x65 h65 => ?_
  refine ok_bind (ok_getI (by omega) (by omega)) fun x67 h67 => ?_
  have n67 := m2 x67 (mem_get h67)
  refine ok_bind (one_ok x65.1 2 h65.1 (by decide)) fun x69 h69 => ?_
  rw [w64 (n := 0 - x67) (by omega) (by omega), w64 (n := 0 - (0 - x67)) (by omega) (by omega)]
  have hR : RdOk o10.1.length x65.2 := ⟨by rw [h65.2.1]; omega, by rw [h65.2.1]; omega, by rw [h65.2.2]; omega, by rw [h65.2.2]; omega⟩
  refine ok_bind (Q := fun o : Int × T_Road × T_Air × T_State => -1000 ≤ o.1 ∧ o.1 ≤ 1000 ∧ RdOk o10.1.length o.2.1 ∧ o.2.2.1.Mine = a.Mine ∧ o.2.2.2 = x) (ok_bif (fun _ => ok_some ⟨by dsimp only; omega, by dsimp only; omega, ⟨hR.2.2.1, hR.2.2.2, hR.1, hR.2.1⟩, rfl, rfl⟩) (fun _ => ok_some ⟨by dsimp only; omega, by dsimp only; omega, hR, rfl, rfl⟩)) fun o71 h71 => ?_
  obtain ⟨b1, b2, b3, b4, b5⟩ := h71
  rw [b4, appI_ok (by simp; omega), bind_some, b5, appI_ok (by simp; omega), bind_some, w64 (by omega) (by omega)]
  exact ok_some ⟨⟨i + 1, by dsimp only; omega, by omega, ⟨m1, m2, m3, by simp; omega, rd_app m5 b3, by simp [m6], fl_app m7 ⟨b1, b2⟩, m8, h69⟩⟩, by dsimp only; omega⟩
theorem made_ok (c : T_draw_Codes) (hc : CodesOk c) : Ok (F_draw_Codes_Made c) fun r => CodesOk r.1 ∧ MnOk r.2.1.Mine ∧ r.2.2.2.Flows.length = r.2.1.Mine.Roads.length ∧ FlOk r.2.2.2.Flows := by
  unfold F_draw_Codes_Made
  refine ok_bind (one_ok c 3 hc (by decide)) fun x1 h1 => ?_
  refine ok_bind (Q := fun o : List T_Place => 1 ≤ o.length ∧ o.length ≤ 2) (ok_bif (fun _ => ?_) (fun _ => ok_some ⟨by simp, by simp⟩)) fun o3 h3 => ?_
  · rw [appI_ok (by simp), bind_some]
    exact ok_some ⟨by simp, by simp⟩
  refine ok_bind (next_lt x1.1 5 h1 (by decide)) fun x7 h7 => ?_
  refine ok_bind (Q := fun o : List T_Place × T_draw_Codes => o3.length ≤ o.1.length ∧ o.1.length ≤ 6 ∧ CodesOk o.2) (ok_loop (fun s : Int × List T_Place × T_draw_Codes => 0 ≤ s.1 ∧ o3.length ≤ s.2.1.length ∧ (s.2.1.length : Int) + s.1 ≤ 6 ∧ CodesOk s.2.2) (fun s => s.1.toNat) _ (fun s hs => ?_) _ ⟨h7.2.1, Nat.le_refl _, by dsimp only; omega, h7.1⟩) fun o10 h10 => ?_
  · obtain ⟨k, l, c⟩ := s
    obtain ⟨a1, a2, a3, a4⟩ := hs
    dsimp only at a1 a2 a3 a4
    unfold F_draw_Codes_Made_L1
    dsimp only
    refine ok_dec (fun hk => ?_) (fun hk => ok_some ⟨a2, by dsimp only; omega, a4⟩)
    refine ok_bind (next_ok c 100 a4) fun x12 h12 => ?_
    rw [appI_ok (by simp; omega), bind_some, w64 (n := k - 1) (by omega) (by omega)]
    exact ok_some ⟨⟨by dsimp only; omega, by simp; omega, by simp; omega, h12.1⟩, by dsimp only; omega⟩
  obtain ⟨p1, p2, p3⟩ := h10
  rw [makI_ok (by omega) (by omega), bind_some, Int.toNat_natCast]
  refine ok_bind (Q := fun o : List Int × T_draw_Codes => o.1.length = o10.1.length ∧ CodesOk o.2) (ok_loop (fun s : Int × List Int × T_draw_Codes => 0 ≤ s.1 ∧ s.2.1.length = o10.1.length ∧ CodesOk s.2.2) (fun s => (o10.1.length - s.1).toNat) _ (fun s hs => ?_) _ ⟨by dsimp only; omega, by simp, p3⟩) fun o19 h19 => ?_
  · obtain ⟨k, l, c⟩ := s
    obtain ⟨a1, a2, a3⟩ := hs
    dsimp only at a1 a2 a3
    unfold F_draw_Codes_Made_L2
    dsimp only
    refine ok_dec (fun hk => ?_) (fun hk => ok_some ⟨a2, a3⟩)
    refine ok_bind (range_ok c (-4000) 4000 a3 (by decide) (by decide) (by decide)) fun x21 h21 => ?_
    refine ok_bind (ok_getI a1 (by omega)) fun x23 h23 => ?_
    rw [w64 (by omega) (by omega)]
    exact ok_some ⟨⟨by dsimp only; omega, by rw [List.length_set]; exact a2, h21.1⟩, by dsimp only; omega⟩
  rw [bind_some]
  have hz : ∀ (b : Nat), ∀ q ∈ List.replicate o10.1.length (0 : Int), -(120 * (b : Int)) ≤ q ∧ q ≤ 120 * (b : Int) := fun b q hq => by
    have := List.eq_of_mem_replicate hq
    omega
  refine ok_bind (Q := fun o : List Int × T_Air × T_State × T_draw_Codes => MdS o10.1.length o.1 o.2.1 o.2.2.1 o.2.2.2 5 5) (ok_dec (fun hn => ?_) (fun hn => ok_some ⟨by simp, hz 5, rfl, by simp, (fun r hr => by cases hr), rfl, (fun q hq => by cases hq), h19.1, h19.2⟩)) fun o27 h27 => ?_
  · refine ok_bind (next_lt o19.2 6 h19.2 (by decide)) fun x29 h29 => ?_
    obtain ⟨k, hk⟩ : ∃ k : Nat, x29.2 = (k : Int) := ⟨x29.2.toNat, by omega⟩
    refine ok_bind (made_L3 o10 (by omega) (by omega) _ k hk (by omega) ⟨by simp, hz _, rfl, by simp, (fun r hr => by cases hr), rfl, (fun q hq => by cases hq), h19.1, h29.1⟩) fun o32 h32 => ok_some ?_
    obtain ⟨m1, m2, m3, m4, m5, m6, m7, m8, m9⟩ := h32
    exact ⟨m1, m2, m3, m4, m5, m6, m7, m8, m9⟩
  refine ok_bind (made_L4 o3 o10 o27 h3.1 p1 (by omega) h27) fun o61 h61 => ?_
  obtain ⟨⟨m1, m2, m3, m4, m5, m6, m7, m8, m9⟩, _, _⟩ := h61
  refine ok_bind (equipped_ok o61.2.2 o61.1.Mine m9 (by omega)) fun x77 h77 => ?_
  have hM : MnOk x77.2.1.Mine := by rw [h77.2.1]; exact ⟨by omega, by omega, by omega, by rw [m3]; exact m5⟩
  refine ok_bind (fit_ok x77.1 x77.2.1 x77.2.2 o61.2.1 h77.1 h77.2.2 hM (by rw [h77.2.1]; exact m6) (by rw [h77.2.1]; omega)) fun x79 h79 => ?_
  have hE := h77.2.2
  refine ok_bind (doubts_ok x79.1 x79.2 x77.2.2 h79.1 (by have := hE.f1; have := hE.f2; omega) (by have := hE.d1; have := hE.d2; omega)) fun x81 h81 => ok_some ⟨h81, h79.2.1, ?_, m7⟩
  dsimp only
  rw [h79.2.2, h77.2.1]
  exact m6
theorem mine_ok (c : T_draw_Codes) (hc : CodesOk c) : Ok (F_draw_Codes_Mine c) fun r => CodesOk r.1 ∧ MnOk r.2 := by
  unfold F_draw_Codes_Mine
  refine ok_bind (next_lt c 6 hc (by decide)) fun x1 h1 => ?_
  rw [w64 (n := 1 + x1.2) (by omega) (by omega)]
  refine ok_bind (Q := fun o : List T_Place × T_draw_Codes => 1 ≤ o.1.length ∧ o.1.length ≤ 8 ∧ CodesOk o.2) (ok_loop (fun s : Int × List T_Place × T_draw_Codes => 0 ≤ s.1 ∧ 1 ≤ s.2.1.length ∧ (s.2.1.length : Int) + s.1 ≤ 8 ∧ CodesOk s.2.2) (fun s => s.1.toNat) _ (fun s hs => ?_) _ ⟨by dsimp only; omega, by simp, by simp; omega, h1.1⟩) fun o4 h4 => ?_
  · obtain ⟨k, l, c⟩ := s
    obtain ⟨a1, a2, a3, a4⟩ := hs
    dsimp only at a1 a2 a3 a4
    unfold F_draw_Codes_Mine_L1
    dsimp only
    refine ok_dec (fun hk => ?_) (fun hk => ok_some ⟨a2, by dsimp only; omega, a4⟩)
    refine ok_bind (range_ok c (-60) 60 a4 (by decide) (by decide) (by decide)) fun x6 h6 => ?_
    refine ok_bind (one_ok x6.1 5 h6.1 (by decide)) fun x8 h8 => ?_
    rw [appI_ok (by simp; omega), bind_some, w64 (n := k - 1) (by omega) (by omega)]
    exact ok_some ⟨⟨by dsimp only; omega, by simp, by simp; omega, h8⟩, by dsimp only; omega⟩
  obtain ⟨p1, p2, p3⟩ := h4
  refine ok_bind (next_lt o4.2 9 p3 (by decide)) fun x12 h12 => ?_
  refine ok_bind (Q := fun o : T_Mine × T_draw_Codes => CodesOk o.2 ∧ MnOk o.1) (ok_loop (fun s : Int × T_Mine × T_draw_Codes => 0 ≤ s.1 ∧ s.2.1.Places = o4.1 ∧ (s.2.1.Roads.length : Int) + s.1 ≤ 8 ∧ (∀ r ∈ s.2.1.Roads, RdOk o4.1.length r) ∧ CodesOk s.2.2) (fun s => s.1.toNat) _ (fun s hs => ?_) _ ⟨h12.2.1, rfl, by simp; omega, (fun r hr => by cases hr), h12.1⟩) fun o15 h15 => ok_some h15
  obtain ⟨k, m, c⟩ := s
  obtain ⟨a1, a2, a3, a4, a5⟩ := hs
  dsimp only at a1 a2 a3 a4 a5
  unfold F_draw_Codes_Mine_L2
  dsimp only
  refine ok_dec (fun hk => ?_) (fun hk => ok_some ⟨a5, by rw [a2]; exact p1, by rw [a2]; omega, by dsimp only; omega, by rw [a2]; exact a4⟩)
  refine ok_bind (next_lt c _ a5 (by omega)) fun x17 h17 => ?_
  rw [w64 (n := (o4.1.length : Int) - 1) (by omega) (by omega)]
  refine ok_bind (next_ok x17.1 _ h17.1) fun x19 h19 => ?_
  have h19b : x19.2 ≤ o4.1.length := by
    by_cases e : 1 ≤ (o4.1.length : Int) - 1
    · have := h19.2.2.1 e; omega
    · have := h19.2.2.2 (by omega); omega
  rw [w64 (n := x17.2 + 1) (by omega) (by omega), w64 (n := x17.2 + 1 + x19.2) (by omega) (by omega)]
  obtain ⟨q1, q2, q3⟩ := rem_lt (v := x17.2 + 1 + x19.2) (n := o4.1.length) (by omega) (by omega)
  rw [q1, bind_some]
  refine ok_bind (road_ok x19.1 _ _ h19.1) fun x23 h23 => ?_
  refine ok_bind (one_ok x23.1 6 h23.1 (by decide)) fun x25 h25 => ?_
  rw [appI_ok (by simp; omega), bind_some, w64 (n := k - 1) (by omega) (by omega)]
  refine ok_some ⟨⟨by dsimp only; omega, a2, by simp; omega, rd_app a4 ⟨by show 0 ≤ x23.2.From; rw [h23.2.1]; omega, by show x23.2.From < _; rw [h23.2.1]; omega, by show 0 ≤ x23.2.To; rw [h23.2.2]; omega, by show x23.2.To < _; rw [h23.2.2]; omega⟩, h25⟩, by dsimp only; omega⟩
def SpOk (l : List T_Span) (f : List Int) : Prop := l.length = f.length ∧ ∀ (i : Nat) (s : T_Span) (q : Int), l[i]? = some s → f[i]? = some q → s.Low ≤ q ∧ q ≤ s.High ∧ -2000 ≤ s.Low ∧ s.High ≤ 2000
theorem spans_ok (c : T_draw_Codes) (f : List Int) (hc : CodesOk c) (hf : FlOk f) (hl : f.length ≤ 100) : Ok (F_draw_Codes_Spans c f) fun r => SpOk r.2 f := by
  unfold F_draw_Codes_Spans
  refine ok_bind (Q := fun o : List T_Span × T_draw_Codes => SpOk o.1 f) (ok_loop (fun s : Int × List T_Span × T_draw_Codes => ∃ i : Nat, s.1 = (i : Int) ∧ i ≤ f.length ∧ SpOk s.2.1 (f.take i) ∧ CodesOk s.2.2) (fun s => (f.length - s.1).toNat) _ (fun s hs => ?_) _ ⟨0, rfl, Nat.zero_le _, ⟨by simp, fun i s q h => by simp at h⟩, hc⟩) fun o2 h2 => ok_some h2
  obtain ⟨i', l, c⟩ := s
  obtain ⟨i, rfl, hi, hs, a4⟩ := hs
  dsimp only at hs a4
  obtain ⟨s1, s2⟩ := hs
  have hll : l.length = i := by rw [s1, List.length_take]; omega
  unfold F_draw_Codes_Spans_L1
  dsimp only
  refine ok_dec (fun hk => ?_) (fun hk => ok_some ?_)
  · have hk' : i < f.length := by omega
    rw [getI_nat, List.getElem?_eq_getElem hk', bind_some]
    refine ok_bind (next_lt c 12 a4 (by decide)) fun x6 h6 => ?_
    rw [bind_some]
    refine ok_bind (next_lt x6.1 12 h6.1 (by decide)) fun x10 h10 => ?_
    have hq := hf f[i] (List.getElem_mem hk')
    rw [appI_ok (by simp; omega), bind_some, w64 (n := (i : Int) + 1) (by omega) (by omega), w64 (n := f[i] - x6.2) (by omega) (by omega), w64 (n := f[i] + x10.2) (by omega) (by omega)]
    refine ok_some ⟨⟨i + 1, rfl, hk', ⟨by simp [hll]; omega, fun j s q hj hq' => ?_⟩, h10.1⟩, by dsimp only; omega⟩
    dsimp only at hj
    by_cases hji : j < i
    · rw [List.getElem?_append_left (by omega)] at hj
      refine s2 j s q hj ?_
      rw [List.getElem?_take] at hq' ⊢
      rw [if_pos (by omega)] at hq'
      rw [if_pos hji]
      exact hq'
    · have hj1 : j < i + 1 := by
        have := (List.getElem?_eq_some_iff.1 hj).1
        simp at this
        omega
      have : j = i := by omega
      subst this
      rw [List.getElem?_append_right (by omega), hll, Nat.sub_self] at hj
      simp at hj
      subst hj
      rw [List.getElem?_take, if_pos (by omega), List.getElem?_eq_getElem hk'] at hq'
      injection hq' with hq'
      subst hq'
      dsimp only
      omega
  · have : i = f.length := by omega
    subst this
    rw [List.take_length] at s1 s2
    exact ⟨s1, s2⟩
structure AirOk (r : T_Air × List T_Span × List Int) : Prop where
  m : MnOk r.1.Mine
  f : r.2.2.length = r.1.Mine.Roads.length
  s : SpOk r.2.1 r.2.2
  b : FlOk r.2.2
theorem air_ok (p0 : List Int) (h0 : Bytes p0) : Ok (F_law14_air p0) AirOk := by
  unfold F_law14_air
  refine ok_bind (new_ok p0 h0) fun x1 h1 => ?_
  refine ok_bind (made_ok x1 h1) fun x3 h3 => ?_
  obtain ⟨c3, m3, f3, b3⟩ := h3
  refine ok_bind (one_ok x3.1 2 c3 (by decide)) fun x5 h5 => ?_
  refine ok_bind (Q := fun o : T_draw_Codes × T_Air × List Int => CodesOk o.1 ∧ MnOk o.2.1.Mine ∧ o.2.2.length = o.2.1.Mine.Roads.length ∧ FlOk o.2.2) (ok_bif (fun _ => ?_) (fun _ => ok_some ⟨h5, m3, f3, b3⟩)) fun o7 h7 => ?_
  · refine ok_bind (mine_ok x5.1 h5) fun x9 h9 => ?_
    have hr := h9.2.r1
    refine ok_bind (next_ok x9.1 3 h9.1) fun x11 h11 => ?_
    refine ok_bind (next_ok x11.1 3 h11.1) fun x13 h13 => ?_
    refine ok_bind (Q := fun o : T_draw_Codes × T_Air × List Int => CodesOk o.1 ∧ o.2.1.Mine = x9.2 ∧ o.2.2.length = x9.2.Roads.length ∧ FlOk o.2.2) (ok_loop (fun s : Int × T_draw_Codes × T_Air × List Int => 0 ≤ s.1 ∧ s.1 ≤ x9.2.Roads.length ∧ (s.2.2.2.length : Int) = s.1 ∧ CodesOk s.2.1 ∧ s.2.2.1.Mine = x9.2 ∧ FlOk s.2.2.2) (fun s => (x9.2.Roads.length - s.1).toNat) _ (fun s hs => ?_) _ ⟨Int.le_refl _, by dsimp only; omega, rfl, h13.1, rfl, fun q hq => by cases hq⟩) fun o16 h16 => ok_some ⟨h16.1, by dsimp only; rw [h16.2.1]; exact h9.2, by dsimp only; rw [h16.2.1]; exact h16.2.2.1, h16.2.2.2⟩
    obtain ⟨k, c, a, l⟩ := s
    obtain ⟨a1, a2, a3, a4, a5, a6⟩ := hs
    dsimp only at a1 a2 a3 a4 a5 a6
    unfold F_law14_air_L1
    dsimp only
    refine ok_dec (fun hk => ?_) (fun hk => ok_some ⟨a4, a5, by dsimp only; omega, a6⟩)
    refine ok_bind (range_ok c (-9) 9 a4 (by decide) (by decide) (by decide)) fun x18 h18 => ?_
    rw [appI_ok (by simp; omega), bind_some, w64 (by omega) (by omega)]
    exact ok_some ⟨⟨by dsimp only; omega, by dsimp only; omega, by simp; omega, h18.1, a5, fl_app a6 (by omega)⟩, by dsimp only; omega⟩
  obtain ⟨c7, m7, f7, b7⟩ := h7
  have := m7.r1
  exact ok_bind (spans_ok o7.1 o7.2.2 c7 b7 (by omega)) fun x22 h22 => ok_some ⟨m7, f7, h22, b7⟩

theorem over {α σ S ρ : Type} (l : List α) (st : σ → α → σ) (mk : Int → σ → S) (fin : σ → ρ) {g : S → Option (S ⊕ ρ)} (I : Nat → σ → Prop)
    (h : ∀ (i : Nat) (x : α) (s : σ), l[i]? = some x → I i s → g (mk i s) = some (.inl (mk ((i : Int) + 1) (st s x))) ∧ I (i + 1) (st s x))
    (hend : ∀ s, I l.length s → g (mk (l.length : Int) s) = some (.inr (fin s))) (s : σ) (h0 : I 0 s) : loopC g (mk 0 s) = some (fin (l.foldl st s)) ∧ I l.length (l.foldl st s) := by
  have key : ∀ (m i : Nat) (s : σ), i + m = l.length → I i s → loopC g (mk (i : Int) s) = some (fin ((l.drop i).foldl st s)) ∧ I l.length ((l.drop i).foldl st s) := by
    intro m
    induction m with
    | zero =>
      intro i s hi hI
      have : i = l.length := by omega
      subst this
      rw [loopC_inr (hend s hI), List.drop_length]
      exact ⟨rfl, hI⟩
    | succ m ih =>
      intro i s hi hI
      have hx : i < l.length := by omega
      obtain ⟨h1, h2⟩ := h i _ s (List.getElem?_eq_getElem hx) hI
      rw [loopC_inl h1, show ((i : Int) + 1) = ((i + 1 : Nat) : Int) by omega]
      obtain ⟨h3, h4⟩ := ih (i + 1) _ (by omega) h2
      rw [List.drop_eq_getElem_cons hx, List.foldl_cons]
      exact ⟨h3, h4⟩
  have := key l.length 0 s (by omega) h0
  rwa [List.drop_zero] at this
theorem foldl_app {α β : Type} (f : α → List β) : ∀ (l : List α) (o : List β), l.foldl (fun o x => o ++ f x) o = o ++ l.flatMap f
  | [], o => by simp
  | x :: l, o => by rw [List.foldl_cons, foldl_app f l, List.flatMap_cons, List.append_assoc]
theorem coll {α β : Type} (l : List α) (f : α → List β) {g : Int × List β → Option ((Int × List β) ⊕ List β)} (hf : ∀ x ∈ l, (f x).length ≤ 2)
    (h : ∀ (i : Nat) (x : α) (out : List β), l[i]? = some x → out.length ≤ 2 * i → g ((i : Int), out) = some (.inl ((i : Int) + 1, out ++ f x)))
    (hend : ∀ out, g ((l.length : Int), out) = some (.inr out)) : loopC g (0, []) = some (l.flatMap f) ∧ (l.flatMap f).length ≤ 2 * l.length := by
  have := over l (fun (o : List β) x => o ++ f x) (fun i o => ((i, o) : Int × List β)) id (g := g) (fun i o => o.length ≤ 2 * i) (fun i x o hx hI => ⟨h i x o hx hI, by
    have := hf x (List.mem_of_getElem? hx)
    rw [List.length_append]; omega⟩) (fun o _ => hend o) [] (by simp)
  rw [foldl_app, List.nil_append] at this
  exact this

/-! ### what is right of a mine -/
def plErr (p : T_Place) : Bool := decide (p.Height < -10000 ∨ 10000 < p.Height)
def spIn (s : T_Span) (a b : Int) : Bool := decide (a ≤ s.Low ∧ s.Low ≤ s.High ∧ s.High ≤ b)
def rdErr (n : Int) (r : T_Road) : Int :=
  if r.From < 0 ∨ n ≤ r.From ∨ r.To < 0 ∨ n ≤ r.To ∨ r.From = r.To then 4
  else if r.Length < 1 ∨ 100000 < r.Length ∨ r.Area < 1 ∨ 1000 < r.Area ∨ spIn r.Rest 1 262144 = false ∨ spIn r.Lift (-2199023255552) 2199023255552 = false then 1 else 0
def firstE {α : Type} (e : α → Int) : List α → Int
  | [] => 0
  | x :: l => if e x = 0 then firstE e l else e x
def chkM (m : T_Mine) : Int :=
  if 64 < (m.Places.length : Int) ∨ 128 < (m.Roads.length : Int) then 2 else if m.Places.all (fun p => !plErr p) then firstE (rdErr m.Places.length) m.Roads else 1
theorem all_loop {α : Type} (l : List α) (bad : α → Bool) {g : Int → Option (Int ⊕ (Unit ⊕ Unit))} (h : ∀ (i : Nat) (x : α), l[i]? = some x → g (i : Int) = bif bad x then some (.inr (.inl ())) else some (.inl ((i : Int) + 1)))
    (hend : g (l.length : Int) = some (.inr (.inr ()))) : loopC g 0 = some (if l.all (fun x => !bad x) then .inr () else .inl ()) := by
  have key : ∀ (m i : Nat), i + m = l.length → loopC g (i : Int) = some (if (l.drop i).all (fun x => !bad x) then .inr () else .inl ()) := by
    intro m
    induction m with
    | zero =>
      intro i hi
      have : i = l.length := by omega
      subst this
      rw [loopC_inr hend, List.drop_length]
      rfl
    | succ m ih =>
      intro i hi
      have hx : i < l.length := by omega
      have h1 := h i _ (List.getElem?_eq_getElem hx)
      rw [List.drop_eq_getElem_cons hx, List.all_cons]
      cases hb : bad l[i] with
      | true => rw [hb] at h1; rw [loopC_inr h1]; rfl
      | false =>
        rw [hb] at h1
        rw [loopC_inl h1, show ((i : Int) + 1) = ((i + 1 : Nat) : Int) by omega, ih (i + 1) (by omega), Bool.not_false, Bool.true_and]
  have := key l.length 0 (by omega)
  rwa [List.drop_zero] at this
theorem first_loop {α : Type} (l : List α) (e : α → Int) {g : Int → Option (Int ⊕ (Int ⊕ Unit))} (h : ∀ (i : Nat) (x : α), l[i]? = some x → g (i : Int) = if e x = 0 then some (.inl ((i : Int) + 1)) else some (.inr (.inl (e x))))
    (hend : g (l.length : Int) = some (.inr (.inr ()))) : loopC g 0 = some (if firstE e l = 0 then .inr () else .inl (firstE e l)) := by
  have key : ∀ (m i : Nat), i + m = l.length → loopC g (i : Int) = some (if firstE e (l.drop i) = 0 then .inr () else .inl (firstE e (l.drop i))) := by
    intro m
    induction m with
    | zero =>
      intro i hi
      have : i = l.length := by omega
      subst this
      rw [loopC_inr hend, List.drop_length]
      rfl
    | succ m ih =>
      intro i hi
      have hx : i < l.length := by omega
      have h1 := h i _ (List.getElem?_eq_getElem hx)
      rw [List.drop_eq_getElem_cons hx]
      unfold firstE
      by_cases he : e l[i] = 0
      · rw [if_pos he] at h1 ⊢
        rw [loopC_inl h1, show ((i : Int) + 1) = ((i + 1 : Nat) : Int) by omega, ih (i + 1) (by omega)]
      · rw [if_neg he] at h1 ⊢
        rw [loopC_inr h1, if_neg he]
  have := key l.length 0 (by omega)
  rwa [List.drop_zero] at this
theorem span_eq (s : T_Span) (a b : Int) : F_plan_spanIn s a b = some (spIn s a b) ∧ F_ref01_Span s a b = some (spIn s a b) := by
  have : (bif decide (a ≤ s.Low) then bif decide (s.Low ≤ s.High) then some (decide (s.High ≤ b)) else some false else some false) = some (spIn s a b) := and_bif (and_bif rfl)
  exact ⟨this, this⟩
theorem pick_rd {n : Int} {r : T_Road} {β : Type} {i : β} : (bif decide (r.From < 0 ∨ n ≤ r.From ∨ r.To < 0 ∨ n ≤ r.To ∨ r.From = r.To) then some (Sum.inr (Sum.inl (4 : Int))) else
    bif decide (r.Length < 1 ∨ 100000 < r.Length ∨ r.Area < 1 ∨ 1000 < r.Area ∨ spIn r.Rest 1 262144 = false ∨ spIn r.Lift (-2199023255552) 2199023255552 = false) then some (Sum.inr (Sum.inl (1 : Int))) else some (Sum.inl i) : Option (β ⊕ (Int ⊕ Unit))) =
    if rdErr n r = 0 then some (.inl i) else some (.inr (.inl (rdErr n r))) := by
  unfold rdErr
  by_cases h1 : r.From < 0 ∨ n ≤ r.From ∨ r.To < 0 ∨ n ≤ r.To ∨ r.From = r.To
  · rw [bif_pos h1, if_pos h1, if_neg (by decide)]
  · rw [bif_neg h1, if_neg h1]
    by_cases h2 : r.Length < 1 ∨ 100000 < r.Length ∨ r.Area < 1 ∨ 1000 < r.Area ∨ spIn r.Rest 1 262144 = false ∨ spIn r.Lift (-2199023255552) 2199023255552 = false
    · rw [bif_pos h2, if_pos h2, if_neg (by decide)]
    · rw [bif_neg h2, if_neg h2, if_pos rfl]
theorem not_some {b : Bool} : (some (!b) : Option Bool) = some (decide (b = false)) := by cases b <;> rfl
theorem not_dec' {b : Bool} {x y : Option Bool} : (bif !b then x else y) = bif decide (b = false) then x else y := by cases b <;> rfl
theorem pcheck_eq (m : T_Mine) (hr : m.Roads.length ≤ 1000000000 ∧ m.Places.length ≤ 1000000000) : F_plan_Check m = some (chkM m) ∧ F_ref01_Check m = some (chkM m) := by
  obtain ⟨hr, hp⟩ := hr
  have a1 : loopC (F_plan_Check_L1 m) 0 = some (if m.Places.all (fun p => !plErr p) then .inr () else .inl ()) := by
    refine all_loop m.Places plErr (fun i x hx => ?_) (by unfold F_plan_Check_L1; rw [bif_neg (by omega)])
    have hi := (List.getElem?_eq_some_iff.1 hx).1
    unfold F_plan_Check_L1
    rw [bif_pos (by omega), getI_nat, hx, bind_some, or_bif rfl, bind_some, w64 (by omega) (by omega)]
    rfl
  have a2 : loopC (F_ref01_Check_L1 m) 0 = some (if m.Places.all (fun p => !plErr p) then .inr () else .inl ()) := by
    refine all_loop m.Places plErr (fun i x hx => ?_) (by unfold F_ref01_Check_L1; rw [bif_neg (by omega)])
    have hi := (List.getElem?_eq_some_iff.1 hx).1
    unfold F_ref01_Check_L1
    rw [bif_pos (by omega), getI_nat, hx, bind_some, or_bif rfl, bind_some, w64 (by omega) (by omega)]
    rfl
  have b1 : loopC (F_plan_Check_L2 m) 0 = some (if firstE (rdErr m.Places.length) m.Roads = 0 then .inr () else .inl (firstE (rdErr m.Places.length) m.Roads)) := by
    refine first_loop m.Roads _ (fun i x hx => ?_) (by unfold F_plan_Check_L2; rw [bif_neg (by omega)])
    have hi := (List.getElem?_eq_some_iff.1 hx).1
    unfold F_plan_Check_L2
    rw [bif_pos (by omega), getI_nat, hx, bind_some, or_bif (or_bif (or_bif (or_bif rfl))), bind_some, or_bif (or_bif (or_bif rfl)), bind_some, (span_eq _ _ _).1, bind_some, (span_eq _ _ _).1, bind_some, not_dec', not_some, or_bif rfl, bind_some, w64 (by omega) (by omega), ← pick_rd]
    by_cases h1 : x.From < 0 ∨ (m.Places.length : Int) ≤ x.From ∨ x.To < 0 ∨ (m.Places.length : Int) ≤ x.To ∨ x.From = x.To
    · rw [bif_pos h1, bif_pos h1]
    · rw [bif_neg h1, bif_neg h1]
      by_cases h2 : x.Length < 1 ∨ 100000 < x.Length ∨ x.Area < 1 ∨ 1000 < x.Area
      · rw [bif_pos h2, bif_pos (by rcases h2 with h | h | h | h; exact .inl h; exact .inr (.inl h); exact .inr (.inr (.inl h)); exact .inr (.inr (.inr (.inl h))))]
      · rw [bif_neg h2]
        by_cases h3 : spIn x.Rest 1 262144 = false ∨ spIn x.Lift (-2199023255552) 2199023255552 = false
        · rw [bif_pos h3, bif_pos (.inr (.inr (.inr (.inr h3))))]
        · rw [bif_neg h3, bif_neg (fun h => by rcases h with h | h | h | h | h; exact h2 (.inl h); exact h2 (.inr (.inl h)); exact h2 (.inr (.inr (.inl h))); exact h2 (.inr (.inr (.inr h))); exact h3 h)]
  have b2 : loopC (F_ref01_Check_L2 m) 0 = some (if firstE (rdErr m.Places.length) m.Roads = 0 then .inr () else .inl (firstE (rdErr m.Places.length) m.Roads)) := by
    refine first_loop m.Roads _ (fun i x hx => ?_) (by unfold F_ref01_Check_L2; rw [bif_neg (by omega)])
    have hi := (List.getElem?_eq_some_iff.1 hx).1
    unfold F_ref01_Check_L2
    rw [bif_pos (by omega), getI_nat, hx, bind_some, or_bif (or_bif (or_bif (or_bif rfl))), bind_some, (span_eq _ _ _).2, bind_some, (span_eq _ _ _).2, bind_some, not_dec', not_some, or_bif (or_bif (or_bif (or_bif (or_bif rfl)))), bind_some, w64 (by omega) (by omega), ← pick_rd]
  unfold F_plan_Check F_ref01_Check chkM
  constructor
  all_goals
    rw [or_bif rfl, bind_some]
    first | rw [a1, bind_some, b1] | rw [a2, bind_some, b2]
    by_cases h : 64 < (m.Places.length : Int) ∨ 128 < (m.Roads.length : Int)
    · rw [bif_pos h, if_pos h]
    · rw [bif_neg h, if_neg h]
      by_cases h2 : m.Places.all (fun p => !plErr p) = true
      · rw [if_pos h2, if_pos h2]
        dsimp only [Sum.elim_inr]
        rw [bind_some]
        by_cases h3 : firstE (rdErr m.Places.length) m.Roads = 0
        · rw [if_pos h3]
          dsimp only [Sum.elim_inr]
          rw [h3]
        · rw [if_neg h3]
          rfl
      · rw [if_neg h2, if_neg h2]
        rfl
structure Rt (m : T_Mine) : Prop where
  p2 : m.Places.length ≤ 64
  r1 : m.Roads.length ≤ 128
  rd : ∀ r ∈ m.Roads, RdOk m.Places.length r
theorem first0 {α : Type} {e : α → Int} : ∀ {l : List α}, firstE e l = 0 → ∀ x ∈ l, e x = 0
  | [], _, x, hx => by cases hx
  | y :: l, h, x, hx => by
    unfold firstE at h
    by_cases he : e y = 0
    · rw [if_pos he] at h
      rcases List.mem_cons.1 hx with rfl | hx
      · exact he
      · exact first0 h x hx
    · rw [if_neg he] at h
      exact absurd h he
theorem rt_of {m : T_Mine} (h : chkM m = 0) : Rt m := by
  unfold chkM at h
  split at h
  · cases h
  · split at h
    · rename_i h1 h2
      refine ⟨by omega, by omega, fun r hr => ?_⟩
      have := first0 h r hr
      unfold rdErr at this
      split at this
      · cases this
      · unfold RdOk
        omega
    · cases h

abbrev Arc := T_recirculate_arc
def rd0 (m : T_Mine) (i : Nat) : T_Road := (m.Roads[i]?).getD ⟨0, 0, 0, 0, false, true, ⟨0, 0⟩, ⟨0, 0⟩⟩
def sp0 (f : List T_Span) (i : Nat) : T_Span := (f[i]?).getD ⟨0, 0⟩
def can (m : T_Mine) (f : List T_Span) (i : Nat) (d : Bool) : Bool := bif (rd0 m i).Closed then false else bif d then decide ((sp0 f i).Low < 0) else decide (0 < (sp0 f i).High)
def arcD (m : T_Mine) (i : Nat) (d : Bool) : Arc := bif d then ⟨i, (rd0 m i).To, (rd0 m i).From⟩ else ⟨i, (rd0 m i).From, (rd0 m i).To⟩
def arcsAt (m : T_Mine) (f : List T_Span) (i : Nat) : List Arc := (bif can m f i false then [arcD m i false] else []) ++ (bif can m f i true then [arcD m i true] else [])
def arcsF (m : T_Mine) (f : List T_Span) : List Arc := (List.range m.Roads.length).flatMap (arcsAt m f)
def rtB (m : T_Mine) (f : List T_Span) : Bool := decide (chkM m = 0) && decide (f.length = m.Roads.length)
def Sz (m : T_Mine) : Prop := m.Roads.length ≤ 1000000000 ∧ m.Places.length ≤ 1000000000

theorem arcsAt_len (m : T_Mine) (f : List T_Span) (i : Nat) : (arcsAt m f i).length ≤ 2 := by
  unfold arcsAt
  cases can m f i false <;> cases can m f i true <;> simp
theorem rd0_get {m : T_Mine} {i : Nat} (h : i < m.Roads.length) : m.Roads[i]? = some (rd0 m i) := by
  unfold rd0
  rw [List.getElem?_eq_getElem h]
  rfl
theorem sp0_get {f : List T_Span} {i : Nat} (h : i < f.length) : f[i]? = some (sp0 f i) := by
  unfold sp0
  rw [List.getElem?_eq_getElem h]
  rfl
theorem range_get {n i x : Nat} (h : (List.range n)[i]? = some x) : x = i ∧ i < n := by
  obtain ⟨h1, h2⟩ := List.getElem?_eq_some_iff.1 h
  rw [List.getElem_range] at h2
  rw [List.length_range] at h1
  exact ⟨h2.symm, h1⟩
theorem arcs_eq (m : T_Mine) (f : List T_Span) (hs : Sz m) : F_recirculate_arcs m f = some (if rtB m f then (arcsF m f, true) else ([], false)) := by
  unfold F_recirculate_arcs F_plan_Valid
  rw [(pcheck_eq m hs).1, bind_some, bind_some]
  unfold rtB
  by_cases hc : chkM m = 0
  · rw [decide_eq_true hc, Bool.not_true, cond_false, bind_some, Bool.true_and]
    have hR := rt_of hc
    by_cases hl : f.length = m.Roads.length
    · rw [bif_neg (by omega), decide_eq_true hl, if_pos rfl]
      have := coll (List.range m.Roads.length) (arcsAt m f) (g := F_recirculate_arcs_L1 m f) (fun x _ => arcsAt_len m f x) (fun i x out hx ho => ?_) (fun out => by unfold F_recirculate_arcs_L1; rw [List.length_range, bif_neg (by dsimp only; omega)])
      · rw [this.1, bind_some]
        rfl
      · obtain ⟨rfl, hi⟩ := range_get hx
        have h1 := hR.r1
        unfold F_recirculate_arcs_L1 arcsAt can arcD
        dsimp only
        rw [bif_pos (by omega), getI_nat, rd0_get hi, bind_some, getI_nat, sp0_get (by omega)]
        cases (rd0 m x).Closed with
        | true => rw [cond_true, bind_some, w64 (by omega) (by omega)]; simp
        | false =>
          rw [cond_false, bind_some]
          by_cases q1 : 0 < (sp0 f x).High
          · rw [bif_pos q1, appI_ok (by simp; omega), bind_some, bind_some, bind_some]
            by_cases q2 : (sp0 f x).Low < 0
            · rw [bif_pos q2, appI_ok (by simp; omega), bind_some, bind_some, w64 (by omega) (by omega)]
              simp [q1, q2]
            · rw [bif_neg q2, bind_some, w64 (by omega) (by omega)]
              simp [q1, q2]
          · rw [bif_neg q1, bind_some, bind_some]
            by_cases q2 : (sp0 f x).Low < 0
            · rw [bif_pos q2, appI_ok (by simp; omega), bind_some, bind_some, w64 (by omega) (by omega)]
              simp [q1, q2]
            · rw [bif_neg q2, bind_some, w64 (by omega) (by omega)]
              simp [q1, q2]
    · rw [bif_pos (by omega), decide_eq_false hl]
      rfl
  · rw [decide_eq_false hc]
    rfl
theorem right_eq (m : T_Mine) (f : List T_Span) (hs : Sz m) : F_ref14_right m f = some (rtB m f) := by
  unfold F_ref14_right rtB
  rw [(pcheck_eq m hs).2, bind_some, and_bif rfl]
  congr 1
  by_cases h1 : chkM m = 0
  · by_cases h2 : f.length = m.Roads.length
    · rw [decide_eq_true h1, decide_eq_true h2]
      exact decide_eq_true ⟨h1, by omega⟩
    · rw [decide_eq_false h2, Bool.and_false]
      exact decide_eq_false fun h => h2 (by omega)
  · rw [decide_eq_false h1]
    exact decide_eq_false fun h => h1 h.1
theorem rtB_is {m : T_Mine} {f : List T_Span} (h : rtB m f = true) : Rt m ∧ f.length = m.Roads.length := by
  unfold rtB at h
  simp only [Bool.and_eq_true, decide_eq_true_eq] at h
  exact ⟨rt_of h.1, h.2⟩
def ArcOk (n : Nat) (a : Arc) : Prop := 0 ≤ a.from_ ∧ a.from_ < (n : Int) ∧ 0 ≤ a.to_ ∧ a.to_ < (n : Int)
theorem arcD_ok {m : T_Mine} (h : Rt m) {i : Nat} (hi : i < m.Roads.length) (d : Bool) : ArcOk m.Places.length (arcD m i d) := by
  obtain ⟨r1, r2, r3, r4⟩ := h.rd (rd0 m i) (List.mem_of_getElem? (rd0_get hi))
  cases d
  · exact ⟨r1, r2, r3, r4⟩
  · exact ⟨r3, r4, r1, r2⟩
theorem arcsAt_mem {m : T_Mine} {f : List T_Span} {i : Nat} {a : Arc} : a ∈ arcsAt m f i ↔ ∃ d, can m f i d = true ∧ a = arcD m i d := by
  unfold arcsAt
  rw [List.mem_append]
  constructor
  · rintro (h | h)
    · cases e : can m f i false with
      | true => rw [e] at h; exact ⟨false, e, by simpa using h⟩
      | false => rw [e] at h; simp at h
    · cases e : can m f i true with
      | true => rw [e] at h; exact ⟨true, e, by simpa using h⟩
      | false => rw [e] at h; simp at h
  · rintro ⟨d, h, rfl⟩
    cases d
    · exact .inl (by rw [h]; simp)
    · exact .inr (by rw [h]; simp)
theorem arcsF_mem {m : T_Mine} {f : List T_Span} {a : Arc} : a ∈ arcsF m f ↔ ∃ i d, i < m.Roads.length ∧ can m f i d = true ∧ a = arcD m i d := by
  unfold arcsF
  rw [List.mem_flatMap]
  constructor
  · rintro ⟨i, hi, h⟩
    obtain ⟨d, h1, h2⟩ := arcsAt_mem.1 h
    exact ⟨i, d, List.mem_range.1 hi, h1, h2⟩
  · rintro ⟨i, d, h1, h2, h3⟩
    exact ⟨i, List.mem_range.2 h1, arcsAt_mem.2 ⟨d, h2, h3⟩⟩
theorem arcsF_ok {m : T_Mine} {f : List T_Span} (h : Rt m) : ∀ a ∈ arcsF m f, ArcOk m.Places.length a := fun a ha => by
  obtain ⟨i, d, h1, _, rfl⟩ := arcsF_mem.1 ha
  exact arcD_ok h h1 d
theorem arcsF_len {m : T_Mine} {f : List T_Span} : (arcsF m f).length ≤ 2 * m.Roads.length := by
  unfold arcsF
  have : ∀ l : List Nat, (l.flatMap (arcsAt m f)).length ≤ 2 * l.length := by
    intro l
    induction l with
    | nil => simp
    | cons x l ih =>
      have := arcsAt_len m f x
      rw [List.flatMap_cons, List.length_append, List.length_cons]
      omega
  have := this (List.range m.Roads.length)
  rwa [List.length_range] at this

/-! ### Ways -/
def wayOf (a : Arc) : A2_Int := ⟨a.from_, a.to_⟩
def waysF (m : T_Mine) (f : List T_Span) : List A2_Int := if rtB m f then (arcsF m f).map wayOf else []
theorem flatMap_one {α β : Type} (f : α → β) (l : List α) : l.flatMap (fun x => [f x]) = l.map f := by
  induction l with
  | nil => rfl
  | cons x l ih => rw [List.flatMap_cons, ih]; rfl
theorem ways_eq (m : T_Mine) (f : List T_Span) (hs : Sz m) : F_recirculate_Ways m f = some (waysF m f) := by
  unfold F_recirculate_Ways waysF
  rw [arcs_eq m f hs, bind_some]
  have key : ∀ (l : List Arc) (b : Bool), l.length ≤ 1000000 → loopC (F_recirculate_Ways_L1 (l, b)) (0, ([] : List A2_Int)) = some (l.map wayOf) := fun l b hl => by
    have := coll l (fun a => [wayOf a]) (g := F_recirculate_Ways_L1 (l, b)) (fun _ _ => by simp) (fun i x out hx ho => ?_) (fun out => by unfold F_recirculate_Ways_L1; rw [bif_neg (by dsimp only; omega)])
    · rw [this.1, flatMap_one]
    · have hi := (List.getElem?_eq_some_iff.1 hx).1
      unfold F_recirculate_Ways_L1
      dsimp only
      rw [bif_pos (by omega), getI_nat, hx, bind_some, appI_ok (by simp; omega), bind_some, w64 (by omega) (by omega)]
      rfl
  by_cases h : rtB m f = true
  · have h1 := (rtB_is h).1.r1
    have h2 := arcsF_len (m := m) (f := f)
    rw [if_pos h, if_pos h, key _ _ (by omega), bind_some]
  · rw [if_neg h, if_neg h, key _ _ (by simp), bind_some]
    rfl
theorem can_eq {m : T_Mine} {f : List T_Span} {i : Nat} (hi : i < m.Roads.length) (hl : f.length = m.Roads.length) (d : Bool) : F_ref14_Can m f i d = some (can m f i d) := by
  unfold F_ref14_Can can
  rw [getI_nat, rd0_get hi, bind_some, getI_nat, sp0_get (by omega)]
  cases (rd0 m i).Closed <;> cases d <;> rfl
theorem ends_eq {m : T_Mine} {i : Nat} (hi : i < m.Roads.length) (d : Bool) : F_ref14_Ends m i d = some ((arcD m i d).from_, (arcD m i d).to_) := by
  unfold F_ref14_Ends arcD
  rw [getI_nat, rd0_get hi]
  cases d <;> rfl
def sf (m : T_Mine) (k : Int) : Bool := ((m.Places[k.toNat]?).map (·.Surface)).getD true
def bt (o : List Bool) (k : Int) : Bool := (o[k.toNat]?).getD false
def ok1 (m : T_Mine) (w : Int) (o : List Bool) (a : Arc) : Bool := decide (a.road ≠ w) && (bt o a.from_ && (!bt o a.to_ && !sf m a.to_))
def st1 (m : T_Mine) (w : Int) (o : List Bool) (a : Arc) : List Bool := bif ok1 m w o a then o.set a.to_.toNat true else o
def stp (m : T_Mine) (w : Int) (s : Bool × List Bool) (a : Arc) : Bool × List Bool := (s.1 || ok1 m w s.2 a, st1 m w s.2 a)
def pass (m : T_Mine) (w : Int) (l : List Arc) (o : List Bool) : List Bool := l.foldl (st1 m w) o
def iterP {α : Type} (f : α → α) : Nat → α → α
  | 0, a => a
  | n + 1, a => iterP f n (f a)
def spreadC (m : T_Mine) (w : Int) (l : List Arc) (o : List Bool) : List Bool := iterP (pass m w l) (o.length + 1) o
def cnt (o : List Bool) : Nat := o.count true

theorem bt_get {o : List Bool} {k : Int} (h0 : 0 ≤ k) (h1 : k < (o.length : Int)) : getI o k = some (bt o k) := by
  unfold getI bt
  rw [if_pos h0, List.getElem?_eq_getElem (by omega)]
  rfl
theorem sf_get {m : T_Mine} {k : Int} (h0 : 0 ≤ k) (h1 : k < (m.Places.length : Int)) : ∃ p, getI m.Places k = some p ∧ p.Surface = sf m k := by
  unfold getI sf
  rw [if_pos h0, List.getElem?_eq_getElem (by omega)]
  exact ⟨_, rfl, rfl⟩
theorem st1_len {m : T_Mine} {w : Int} {o : List Bool} {a : Arc} : (st1 m w o a).length = o.length := by
  unfold st1
  cases ok1 m w o a
  · rfl
  · exact List.length_set
theorem cnt_set {o : List Bool} {i : Nat} (h : i < o.length) (hf : o[i] = false) : cnt (o.set i true) = cnt o + 1 := by
  unfold cnt
  rw [List.count_set h, hf]
  rfl
theorem st1_cnt {m : T_Mine} {w : Int} {o : List Bool} {a : Arc} (ha : ArcOk o.length a) : cnt (st1 m w o a) = cnt o + (bif ok1 m w o a then 1 else 0) := by
  obtain ⟨a1, a2, a3, a4⟩ := ha
  unfold st1
  cases h : ok1 m w o a with
  | false => rfl
  | true =>
    unfold ok1 at h
    simp only [Bool.and_eq_true, Bool.not_eq_true'] at h
    have hb := h.2.2.1
    unfold bt at hb
    have hi : a.to_.toNat < o.length := by omega
    rw [List.getElem?_eq_getElem hi] at hb
    exact cnt_set hi hb
theorem pass_is {m : T_Mine} {w : Int} : ∀ (l : List Arc) (b : Bool) (o : List Bool), (∀ a ∈ l, ArcOk o.length a) →
    (l.foldl (stp m w) (b, o)).2 = pass m w l o ∧ (pass m w l o).length = o.length ∧ cnt o ≤ cnt (pass m w l o) ∧ (b = true → (l.foldl (stp m w) (b, o)).1 = true) ∧
    ((l.foldl (stp m w) (b, o)).1 = false → pass m w l o = o ∧ ∀ a ∈ l, ok1 m w o a = false) ∧ (b = false → (l.foldl (stp m w) (b, o)).1 = true → cnt o < cnt (pass m w l o))
  | [], b, o, _ => ⟨rfl, rfl, Nat.le_refl _, fun h => h, fun _ => ⟨rfl, fun a h => by cases h⟩, fun h1 h2 => by rw [h1] at h2; cases h2⟩
  | a :: l, b, o, h => by
    have ha := h a (List.mem_cons_self ..)
    obtain ⟨e1, e2, e3, e4, e5, e6⟩ := pass_is (m := m) (w := w) l (b || ok1 m w o a) (st1 m w o a) (fun x hx => by rw [st1_len]; exact h x (List.mem_cons_of_mem _ hx))
    have ec := st1_cnt (m := m) (w := w) ha
    have el := st1_len (m := m) (w := w) (o := o) (a := a)
    unfold pass at e1 e2 e3 e5 e6 ⊢
    rw [List.foldl_cons, List.foldl_cons]
    show (l.foldl (stp m w) (b || ok1 m w o a, st1 m w o a)).2 = _ ∧ _ ∧ _ ∧ (b = true → (l.foldl (stp m w) (b || ok1 m w o a, st1 m w o a)).1 = true) ∧ ((l.foldl (stp m w) (b || ok1 m w o a, st1 m w o a)).1 = false → _) ∧ (b = false → (l.foldl (stp m w) (b || ok1 m w o a, st1 m w o a)).1 = true → _)
    refine ⟨e1, e2.trans el, by omega, fun hb => e4 (by rw [hb]; rfl), fun hf => ?_, fun hb ht => ?_⟩
    · have hbo : (b || ok1 m w o a) = false := by
        cases hx : (b || ok1 m w o a) with
        | false => rfl
        | true => rw [e4 hx] at hf; cases hf
      have ho : ok1 m w o a = false := by
        cases b
        · simpa using hbo
        · cases hbo
      have hs : st1 m w o a = o := by unfold st1; rw [ho]; rfl
      obtain ⟨q1, q2⟩ := e5 hf
      rw [hs] at q1 q2 ⊢
      refine ⟨q1, fun x hx => ?_⟩
      rcases List.mem_cons.1 hx with rfl | hx
      · exact ho
      · exact q2 x hx
    · cases ho : ok1 m w o a with
      | true => rw [ho] at ec; rw [show (bif true then 1 else 0) = 1 from rfl] at ec; omega
      | false =>
        rw [ho] at ec
        rw [show (bif false then 1 else 0) = 0 from rfl] at ec
        have := e6 (by rw [hb, ho]; rfl) ht
        omega
theorem iter_fix {α : Type} {f : α → α} {a : α} (h : f a = a) : ∀ n, iterP f n a = a
  | 0 => rfl
  | n + 1 => by show iterP f n (f a) = a; rw [h]; exact iter_fix h n
theorem fix_loop {m : T_Mine} {w : Int} {l : List Arc} {g : Bool × List Bool → Option ((Bool × List Bool) ⊕ List Bool)} (I : List Bool → Prop) (P : Nat) (hP : ∀ o, I o → o.length = P) (hl : ∀ a ∈ l, ArcOk P a)
    (hI : ∀ o, I o → I (pass m w l o)) (h1 : ∀ o, I o → g (true, o) = some (.inl (l.foldl (stp m w) (false, o)))) (h0 : ∀ o, I o → g (false, o) = some (.inr o)) :
    ∀ (n : Nat) (o : List Bool), I o → P - cnt o < n → loopC g (true, o) = some (iterP (pass m w l) n o)
  | 0, o, _, h => by omega
  | n + 1, o, ho, h => by
    have hlen := hP o ho
    obtain ⟨e1, e2, e3, e4, e5, e6⟩ := pass_is (m := m) (w := w) l false o (by rw [hlen]; exact hl)
    rw [loopC_inl (h1 o ho)]
    generalize hs : l.foldl (stp m w) (false, o) = s at e1 e4 e5 e6
    obtain ⟨b, o'⟩ := s
    dsimp only at e1 e4 e5 e6
    subst e1
    cases b with
    | false =>
      obtain ⟨q, _⟩ := e5 rfl
      rw [loopC_inr (h0 _ (hI o ho))]
      show some (pass m w l o) = some (iterP (pass m w l) n (pass m w l o))
      rw [iter_fix (by rw [q]; exact q)]
    | true =>
      have := e6 rfl rfl
      have hc : cnt (pass m w l o) ≤ P := by rw [← hlen, ← e2]; exact List.count_le_length ..
      exact fix_loop I P hP hl hI h1 h0 n _ (hI o ho) (by omega)
theorem spread_eq {m : T_Mine} {l : List Arc} {o : List Bool} {w : Int} (hP : m.Places.length ≤ 64) (ho : o.length = m.Places.length) (hl : ∀ a ∈ l, ArcOk m.Places.length a) (hn : l.length ≤ 1000000) : F_recirculate_spread m l o w = some (spreadC m w l o) := by
  unfold F_recirculate_spread spreadC
  rw [appI_ok (by simp; omega), bind_some, List.nil_append, fix_loop (m := m) (w := w) (l := l) (fun o => o.length = m.Places.length) m.Places.length (fun _ h => h) hl (fun o h => by
    have := (pass_is (m := m) (w := w) l false o (by rw [h]; exact hl)).2.1
    omega) (fun o ho => ?_) (fun o ho => by unfold F_recirculate_spread_L1; rfl) (o.length + 1) o ho (by omega), bind_some]
  unfold F_recirculate_spread_L1
  dsimp only
  rw [cond_true]
  have := over l (stp m w) (fun i s => ((s.1, i, s.2) : Bool × Int × List Bool)) id (g := F_recirculate_spread_L2 m l w) (fun _ s => s.2.length = m.Places.length) (fun i a s hx hI => ?_) (fun s _ => by unfold F_recirculate_spread_L2; rw [bif_neg (by dsimp only; omega)]; rfl) (false, o) ho
  · rw [this.1, bind_some]
    rfl
  · obtain ⟨b, o⟩ := s
    dsimp only at hI
    have hi := (List.getElem?_eq_some_iff.1 hx).1
    obtain ⟨a1, a2, a3, a4⟩ := hl a (List.mem_of_getElem? hx)
    obtain ⟨p, hp1, hp2⟩ := sf_get (m := m) a3 a4
    refine ⟨?_, by show (st1 m w o a).length = _; rw [st1_len]; exact hI⟩
    unfold F_recirculate_spread_L2 stp st1 ok1
    dsimp only
    rw [bif_pos (by omega), getI_nat, hx, bind_some, bt_get a1 (by omega), bind_some, bt_get a3 (by omega), bind_some, bind_some, hp1, bind_some, hp2, w64 (by omega) (by omega)]
    by_cases hw : a.road ≠ w
    · rw [bif_pos hw, decide_eq_true hw]
      cases bt o a.from_ <;> cases bt o a.to_ <;> cases sf m a.to_ <;> simp
    · rw [bif_neg hw, decide_eq_false hw]
      simp
def NS (m : T_Mine) (o : List Bool) : Prop := ∀ k : Int, 0 ≤ k → bt o k = true → sf m k = false
theorem bt_set {o : List Bool} {i : Nat} {k : Int} (hk : 0 ≤ k) (hi : i < o.length) : bt (o.set i true) k = if k = i then true else bt o k := by
  unfold bt
  rw [List.getElem?_set]
  by_cases h : i = k.toNat
  · rw [if_pos h, if_pos (by omega), if_pos (by omega)]; rfl
  · rw [if_neg h, if_neg (by omega)]
theorem st1_ns {m : T_Mine} {w : Int} {o : List Bool} {a : Arc} (ha : ArcOk o.length a) (h : NS m o) : NS m (st1 m w o a) := by
  obtain ⟨a1, a2, a3, a4⟩ := ha
  unfold st1
  cases ho : ok1 m w o a with
  | false => exact h
  | true =>
    unfold ok1 at ho
    simp only [Bool.and_eq_true, Bool.not_eq_true'] at ho
    intro k hk hb
    rw [cond_true, bt_set hk (by omega)] at hb
    by_cases e : k = a.to_.toNat
    · have : k = a.to_ := by omega
      rw [this]
      exact ho.2.2.2
    · rw [if_neg e] at hb
      exact h k hk hb
theorem pass_ns {m : T_Mine} {w : Int} : ∀ (l : List Arc) (o : List Bool), (∀ a ∈ l, ArcOk o.length a) → NS m o → NS m (pass m w l o)
  | [], _, _, h => h
  | a :: l, o, hl, h => pass_ns l (st1 m w o a) (fun x hx => by rw [st1_len]; exact hl x (List.mem_cons_of_mem _ hx)) (st1_ns (hl a (List.mem_cons_self ..)) h)
theorem foldl_flatMap' {α β σ : Type} (f : α → List β) (g : σ → β → σ) : ∀ (l : List α) (s : σ), (l.flatMap f).foldl g s = l.foldl (fun s x => (f x).foldl g s) s
  | [], _ => rfl
  | x :: l, s => by rw [List.flatMap_cons, List.foldl_append, foldl_flatMap' f g l]; rfl
theorem stp_len {m : T_Mine} {w : Int} : ∀ (l : List Arc) (s : Bool × List Bool), (l.foldl (stp m w) s).2.length = s.2.length
  | [], _ => rfl
  | a :: l, s => by rw [List.foldl_cons, stp_len l]; exact st1_len
theorem stp_ns {m : T_Mine} {w : Int} : ∀ (l : List Arc) (s : Bool × List Bool), (∀ a ∈ l, ArcOk s.2.length a) → NS m s.2 → NS m (l.foldl (stp m w) s).2
  | [], _, _, h => h
  | a :: l, s, hl, h => by
    rw [List.foldl_cons]
    exact stp_ns l _ (fun x hx => by rw [show (stp m w s a).2.length = s.2.length from st1_len]; exact hl x (List.mem_cons_of_mem _ hx)) (st1_ns (hl a (List.mem_cons_self ..)) h)
theorem reach_step {m : T_Mine} {f : List T_Span} {w : Int} (hR : Rt m) (hf : f.length = m.Roads.length) {i : Nat} (hi : i < m.Roads.length) (s : Bool × Int × List Bool) (hs : s.2.1 = (i : Int)) (d : Bool) (b : Bool) (o : List Bool) (ho : o.length = m.Places.length) (hN : NS m o) :
    F_ref14_reach_L3 m f w s (b, (bif d then 1 else 0), o) = some (.inl ((bif can m f i d then stp m w (b, o) (arcD m i d) else (b, o)).1, (bif d then 2 else 1), (bif can m f i d then stp m w (b, o) (arcD m i d) else (b, o)).2)) := by
  obtain ⟨b0, i', o0⟩ := s
  dsimp only at hs
  subst hs
  have hd : decide ((bif d then (1 : Int) else 0) = 1) = d := by cases d <;> rfl
  have hlt : (bif d then (1 : Int) else 0) < 2 := by cases d <;> decide
  have hw2 : IntKind.i64.wrap ((bif d then (1 : Int) else 0) + 1) = bif d then 2 else 1 := by cases d <;> exact w64 (by decide) (by decide)
  have hA := arcD_ok hR hi d
  have hroad : (arcD m i d).road = (i : Int) := by cases d <;> rfl
  unfold F_ref14_reach_L3
  dsimp only
  rw [bif_pos hlt, hd, ends_eq hi, bind_some, can_eq hi hf, bind_some, hw2]
  generalize arcD m i d = a at hA hroad
  obtain ⟨a1, a2, a3, a4⟩ := hA
  obtain ⟨p, hp1, hp2⟩ := sf_get (m := m) a1 a2
  obtain ⟨q, hq1, hq2⟩ := sf_get (m := m) a3 a4
  dsimp only
  rw [bt_get a1 (by omega), bind_some, bt_get a3 (by omega), bind_some, bind_some, hp1, bind_some, hq1, bind_some, hp2, hq2]
  have hna := hN a.from_ a1
  unfold stp st1 ok1
  rw [hroad]
  by_cases hw : (i : Int) ≠ w
  · rw [bif_pos hw, decide_eq_true hw]
    cases can m f i d <;> cases h1 : bt o a.from_ <;> cases bt o a.to_ <;> cases sf m a.to_ <;> first | (simp; done) | (simp [hna h1])
  · rw [bif_neg hw, decide_eq_false hw]
    cases can m f i d <;> simp
theorem reach_eq {m : T_Mine} {f : List T_Span} {o : List Bool} {w : Int} (hR : Rt m) (hf : f.length = m.Roads.length) (ho : o.length = m.Places.length) (hN : NS m o) : F_ref14_reach m f o w = some (spreadC m w (arcsF m f) o) := by
  have hP := hR.p2
  have h1 := hR.r1
  have hl := arcsF_ok (f := f) hR
  unfold F_ref14_reach spreadC
  rw [appI_ok (by simp; omega), bind_some, List.nil_append, fix_loop (m := m) (w := w) (l := arcsF m f) (fun o => o.length = m.Places.length ∧ NS m o) m.Places.length (fun _ h => h.1) hl (fun o h => by
    have := (pass_is (m := m) (w := w) (arcsF m f) false o (by rw [h.1]; exact hl)).2.1
    exact ⟨by omega, pass_ns _ o (by rw [h.1]; exact hl) h.2⟩) (fun o ho => ?_) (fun o ho => by unfold F_ref14_reach_L1; rfl) (o.length + 1) o ⟨ho, hN⟩ (by omega), bind_some]
  unfold F_ref14_reach_L1
  dsimp only
  rw [cond_true]
  have := over (List.range m.Roads.length) (fun s i => (arcsAt m f i).foldl (stp m w) s) (fun i s => ((s.1, i, s.2) : Bool × Int × List Bool)) id (g := F_ref14_reach_L2 m f w) (fun _ s => s.2.length = m.Places.length ∧ NS m s.2) (fun i x s hx hI => ?_) (fun s _ => by unfold F_ref14_reach_L2; rw [List.length_range, bif_neg (by dsimp only; omega)]; rfl) (false, o) ho
  · rw [this.1, bind_some]
    unfold arcsF
    rw [foldl_flatMap']
    rfl
  · obtain ⟨rfl, hi⟩ := range_get hx
    obtain ⟨b, o⟩ := s
    obtain ⟨i1, i2⟩ := hI
    dsimp only at i1 i2
    have hAt : ∀ a ∈ arcsAt m f x, ArcOk o.length a := fun a ha => by
      obtain ⟨d, _, rfl⟩ := arcsAt_mem.1 ha
      rw [i1]
      exact arcD_ok hR hi d
    refine ⟨?_, by rw [stp_len]; exact i1, stp_ns _ _ hAt i2⟩
    unfold F_ref14_reach_L2
    dsimp only
    rw [bif_pos (by omega)]
    have r0 := reach_step (w := w) hR hf hi (b, (x : Int), o) rfl false b o i1 i2
    have j1 : ((bif can m f x false then stp m w (b, o) (arcD m x false) else (b, o)).2.length = m.Places.length) ∧ NS m (bif can m f x false then stp m w (b, o) (arcD m x false) else (b, o)).2 := by
      cases can m f x false
      · exact ⟨i1, i2⟩
      · exact ⟨st1_len.trans i1, st1_ns (by rw [i1]; exact arcD_ok hR hi false) i2⟩
    have r1 := reach_step (w := w) hR hf hi (b, (x : Int), o) rfl true (bif can m f x false then stp m w (b, o) (arcD m x false) else (b, o)).1 _ j1.1 j1.2
    rw [cond_false] at r0
    rw [cond_true] at r1
    have r2 : ∀ (b' : Bool) (o' : List Bool), F_ref14_reach_L3 m f w (b, (x : Int), o) (b', 2, o') = some (.inr (b', o')) := fun b' o' => by
      unfold F_ref14_reach_L3
      rw [bif_neg (by show ¬ ((2 : Int) < 2); decide)]
    rw [loopC_inl r0, cond_false, loopC_inl r1, cond_true, loopC_inr (r2 _ _), bind_some, w64 (by omega) (by omega)]
    unfold arcsAt
    rw [List.foldl_append]
    cases can m f x false <;> cases can m f x true <;> rfl

def seed (n : Nat) (k : Int) : List Bool := (List.replicate n false).set k.toNat true
def onArc (m : T_Mine) (l : List Arc) (a : Arc) : Bool := !sf m a.from_ && (!sf m a.to_ && bt (spreadC m a.road l (seed m.Places.length a.to_)) a.from_)
def circ (m : T_Mine) (l : List Arc) : List Arc := l.flatMap (fun a => bif onArc m l a then [a] else [])
def ddp (out : List Int) (r : Int) : List Int := if out.getLast? = some r then out else out ++ [r]
def onRd (m : T_Mine) (f : List T_Span) (i : Nat) : Bool := (arcsAt m f i).any (onArc m (arcsF m f))
def circlesF (m : T_Mine) (f : List T_Span) : List Int := if rtB m f then ((List.range m.Roads.length).filter (onRd m f)).map (fun i : Nat => (i : Int)) else []

theorem seed_len (n : Nat) (k : Int) : (seed n k).length = n := by simp [seed]
theorem spreadC_len {m : T_Mine} {w : Int} {l : List Arc} {o : List Bool} : (spreadC m w l o).length = o.length := by
  unfold spreadC
  have h1 : ∀ (l : List Arc) (o : List Bool), (pass m w l o).length = o.length := by
    intro l
    induction l with
    | nil => intro o; rfl
    | cons a l ih => intro o; exact (ih _).trans st1_len
  generalize o.length + 1 = n
  induction n generalizing o with
  | zero => rfl
  | succ n ih => exact (ih (o := pass m w l o)).trans (h1 l o)
theorem surf2 {m : T_Mine} {a : Arc} (ha : ArcOk m.Places.length a) {x y : Option Bool} : ((getI m.Places a.from_).bind fun x8 => bif x8.Surface then some true else (getI m.Places a.to_).bind fun x11 => some x11.Surface) = some (sf m a.from_ || sf m a.to_) := by
  obtain ⟨a1, a2, a3, a4⟩ := ha
  obtain ⟨p, hp1, hp2⟩ := sf_get (m := m) a1 a2
  obtain ⟨q, hq1, hq2⟩ := sf_get (m := m) a3 a4
  rw [hp1, bind_some, hp2, hq1, bind_some, hq2]
  cases sf m a.from_ <;> rfl
theorem circ_eq {m : T_Mine} {l : List Arc} (hP : m.Places.length ≤ 64) (hl : ∀ a ∈ l, ArcOk m.Places.length a) (hn : l.length ≤ 1000000) : F_recirculate_circles m l = some (circ m l) := by
  unfold F_recirculate_circles circ
  have := coll l (fun a => bif onArc m l a then [a] else []) (g := F_recirculate_circles_L1 m l) (fun a _ => by cases onArc m l a <;> simp) (fun i a out hx ho => ?_) (fun out => by unfold F_recirculate_circles_L1; rw [bif_neg (by dsimp only; omega)])
  · rw [this.1, bind_some]
  · have hi := (List.getElem?_eq_some_iff.1 hx).1
    have ha := hl a (List.mem_of_getElem? hx)
    have hb := ha
    obtain ⟨a1, a2, a3, a4⟩ := hb
    unfold F_recirculate_circles_L1 onArc
    dsimp only
    rw [bif_pos (by omega), getI_nat, hx, bind_some, surf2 ha (x := none) (y := none), bind_some, w64 (by omega) (by omega), makI_ok (by omega) (by omega), bind_some, Int.toNat_natCast]
    obtain ⟨v, hv⟩ : ∃ v, getI (List.replicate m.Places.length false) a.to_ = some v := ⟨_, bt_get a3 (by simpa using a4)⟩
    rw [hv, bind_some, spread_eq hP (by simp) hl hn, bind_some]
    have hg : getI (spreadC m a.road l ((List.replicate m.Places.length false).set a.to_.toNat true)) a.from_ = some (bt (spreadC m a.road l (seed m.Places.length a.to_)) a.from_) := bt_get a1 (by rw [spreadC_len]; simpa using a2)
    rw [hg, bind_some, appI_ok (by simp; omega), bind_some]
    cases sf m a.from_ <;> cases sf m a.to_ <;> cases bt (spreadC m a.road l (seed m.Places.length a.to_)) a.from_ <;> simp [bind_some]
theorem circ_sub {m : T_Mine} {l : List Arc} : ∀ a ∈ circ m l, a ∈ l ∧ onArc m l a = true := fun a ha => by
  unfold circ at ha
  obtain ⟨b, hb, h⟩ := List.mem_flatMap.1 ha
  cases e : onArc m l b with
  | true =>
    rw [e] at h
    have : a = b := by simpa using h
    subst this
    exact ⟨hb, e⟩
  | false => rw [e] at h; simp at h
theorem circ_len {m : T_Mine} {l : List Arc} : (circ m l).length ≤ l.length := by
  unfold circ
  generalize hq : onArc m l = q
  clear hq
  induction l with
  | nil => simp
  | cons a l ih =>
    rw [List.flatMap_cons, List.length_append, List.length_cons]
    cases q a
    · rw [cond_false, List.length_nil]; omega
    · rw [cond_true, List.length_singleton]; omega
theorem dd_same {i : Int} : ∀ (as : List Arc) (out : List Int), (∀ a ∈ as, a.road = i) → out.getLast? = some i → as.foldl (fun o a => ddp o a.road) out = out
  | [], _, _, _ => rfl
  | a :: as, out, h, ho => by
    rw [List.foldl_cons]
    have : ddp out a.road = out := by unfold ddp; rw [h a (List.mem_cons_self ..), if_pos ho]
    rw [this]
    exact dd_same as out (fun x hx => h x (List.mem_cons_of_mem _ hx)) ho
theorem dd_at {q : Arc → Bool} {i : Int} : ∀ (as : List Arc) (out : List Int), (∀ a ∈ as, a.road = i) → out.getLast? ≠ some i → (as.flatMap (fun a => bif q a then [a] else [])).foldl (fun o a => ddp o a.road) out = if as.any q then out ++ [i] else out
  | [], _, _, _ => rfl
  | a :: as, out, h, ho => by
    rw [List.flatMap_cons, List.any_cons]
    cases hq : q a with
    | false =>
      rw [cond_false, List.nil_append, Bool.false_or]
      exact dd_at as out (fun x hx => h x (List.mem_cons_of_mem _ hx)) ho
    | true =>
      rw [cond_true, List.singleton_append, List.foldl_cons, Bool.true_or, if_pos rfl]
      have : ddp out a.road = out ++ [i] := by unfold ddp; rw [h a (List.mem_cons_self ..), if_neg ho]
      rw [this]
      refine dd_same (i := i) _ _ (fun x hx => ?_) (by simp)
      obtain ⟨b, hb, h'⟩ := List.mem_flatMap.1 hx
      cases e : q b with
      | true =>
        rw [e] at h'
        have : x = b := by simpa using h'
        rw [this]
        exact h b (List.mem_cons_of_mem _ hb)
      | false => rw [e] at h'; simp at h'
theorem arcsAt_road {m : T_Mine} {f : List T_Span} {i : Nat} : ∀ a ∈ arcsAt m f i, a.road = (i : Int) := fun a ha => by
  obtain ⟨d, _, rfl⟩ := arcsAt_mem.1 ha
  cases d <;> rfl
theorem dd_all {m : T_Mine} {f : List T_Span} (q : Arc → Bool) : ∀ n : Nat, ((List.range n).flatMap (fun i => (arcsAt m f i).flatMap (fun a => bif q a then [a] else []))).foldl (fun o a => ddp o a.road) [] = ((List.range n).filter (fun i => (arcsAt m f i).any q)).map (fun i : Nat => (i : Int))
  | 0 => rfl
  | n + 1 => by
    rw [List.range_succ, List.flatMap_append, List.foldl_append, dd_all q n, List.filter_append, List.map_append, List.flatMap_singleton, dd_at _ _ arcsAt_road]
    · cases h : (arcsAt m f n).any q
      · simp [h]
      · simp [h]
    · intro h
      have hm := List.mem_of_getLast? h
      obtain ⟨j, hj, he⟩ := List.mem_map.1 hm
      have := List.mem_range.1 (List.mem_filter.1 hj).1
      omega
theorem circles_eq (m : T_Mine) (f : List T_Span) (hs : Sz m) : F_recirculate_Circles m f = some (circlesF m f) := by
  unfold F_recirculate_Circles
  rw [arcs_eq m f hs, bind_some]
  have key : ∀ (l : List Arc), l.length ≤ 1000000 → loopC (F_recirculate_Circles_L1 l) (0, ([] : List Int)) = some (l.foldl (fun o a => ddp o a.road) []) := fun l hl => by
    have := over l (fun (o : List Int) a => ddp o a.road) (fun i o => ((i, o) : Int × List Int)) id (g := F_recirculate_Circles_L1 l) (fun i o => o.length ≤ i) (fun i a o hx hI => ?_) (fun o _ => by unfold F_recirculate_Circles_L1; rw [bif_neg (by dsimp only; omega)]; rfl) [] (by simp)
    · exact this.1
    · have hi := (List.getElem?_eq_some_iff.1 hx).1
      refine ⟨?_, by
        unfold ddp
        split
        · omega
        · rw [List.length_append, List.length_singleton]; omega⟩
      unfold F_recirculate_Circles_L1 ddp
      dsimp only
      rw [bif_pos (by omega), getI_nat, hx, bind_some, w64 (n := (i : Int) + 1) (by omega) (by omega)]
      by_cases h0 : o = []
      · subst h0
        rw [bif_pos (by rfl), bind_some, cond_true, appI_ok (by simp), bind_some, bind_some, if_neg (by simp)]
      · have hp : 0 < o.length := List.length_pos_iff.2 h0
        rw [bif_neg (by omega), w64 (by omega) (by omega)]
        have hg : getI o ((o.length : Int) - 1) = o.getLast? := by
          rw [List.getLast?_eq_getElem?, show (o.length : Int) - 1 = ((o.length - 1 : Nat) : Int) by omega, getI_nat]
        rw [hg]
        cases hL : o.getLast? with
        | none => exact absurd (List.getLast?_eq_none_iff.1 hL) h0
        | some v =>
          rw [bind_some, bind_some]
          by_cases hv : v = a.road
          · subst hv
            rw [bif_neg (by simp), bind_some, if_pos rfl]
          · rw [bif_pos hv, appI_ok (by simp; omega), bind_some, bind_some, if_neg (by simpa using hv)]
  unfold circlesF
  by_cases h : rtB m f = true
  · obtain ⟨hR, hl⟩ := rtB_is h
    have h1 := hR.r1
    have h2 := arcsF_len (m := m) (f := f)
    have h3 := circ_len (m := m) (l := arcsF m f)
    rw [if_pos h, if_pos h]
    dsimp only
    rw [circ_eq hR.p2 (arcsF_ok hR) (by omega), bind_some, key _ (by omega), bind_some]
    congr 1
    have := dd_all (m := m) (f := f) (onArc m (arcsF m f)) m.Roads.length
    unfold onRd
    rw [← this]
    unfold circ arcsF
    rw [List.flatMap_assoc]
  · rw [if_neg h, if_neg h]
    dsimp only
    have : F_recirculate_circles m [] = some [] := by
      unfold F_recirculate_circles
      rw [loopC_inr (b := []) (by unfold F_recirculate_circles_L1; rfl)]
      rfl
    rw [this, bind_some, key _ (by simp), bind_some]
    rfl
theorem seed_bt {n : Nat} {k j : Int} (hj : 0 ≤ j) (h0 : 0 ≤ k) (h1 : k < (n : Int)) : bt (seed n k) j = decide (j = k) := by
  unfold seed
  rw [bt_set hj (by simp; omega)]
  by_cases h : j = k
  · rw [if_pos (by omega), decide_eq_true h]
  · rw [if_neg (by omega), decide_eq_false h]
    unfold bt
    by_cases hh : j.toNat < n
    · rw [List.getElem?_replicate_of_lt hh]; rfl
    · rw [List.getElem?_eq_none (by simpa using hh)]; rfl
theorem rcircles_eq (m : T_Mine) (f : List T_Span) (hs : Sz m) : F_ref14_Circles m f = some (circlesF m f) := by
  unfold F_ref14_Circles circlesF
  rw [right_eq m f hs, bind_some]
  by_cases h : rtB m f = true
  · obtain ⟨hR, hl⟩ := rtB_is h
    have h1 := hR.r1
    have hP := hR.p2
    rw [if_pos h, h, Bool.not_true, cond_false]
    have := coll (List.range m.Roads.length) (fun i => bif onRd m f i then [(i : Int)] else []) (g := F_ref14_Circles_L1 m f) (fun i _ => by cases onRd m f i <;> simp) (fun i x out hx ho => ?_) (fun out => by unfold F_ref14_Circles_L1; rw [List.length_range, bif_neg (by dsimp only; omega)])
    · rw [this.1, bind_some]
      congr 1
      generalize List.range m.Roads.length = r
      induction r with
      | nil => rfl
      | cons x r ih =>
        rw [List.flatMap_cons, ih, List.filter_cons]
        cases onRd m f x <;> simp
    · obtain ⟨rfl, hi⟩ := range_get hx
      have step : ∀ (out : List Int) (on d : Bool), F_ref14_Circles_L2 m f ((x : Int), out) (on, (bif d then 1 else 0)) = some (.inl (on || (can m f x d && onArc m (arcsF m f) (arcD m x d)), (bif d then 2 else 1))) := fun out on d => by
        have hd : decide ((bif d then (1 : Int) else 0) = 1) = d := by cases d <;> rfl
        have hlt : (bif d then (1 : Int) else 0) < 2 := by cases d <;> decide
        have hw2 : IntKind.i64.wrap ((bif d then (1 : Int) else 0) + 1) = bif d then 2 else 1 := by cases d <;> exact w64 (by decide) (by decide)
        have hA := arcD_ok hR hi d
        have hroad : (arcD m x d).road = (x : Int) := by cases d <;> rfl
        unfold F_ref14_Circles_L2
        dsimp only
        rw [bif_pos hlt, hd, ends_eq hi, bind_some, can_eq hi hl, bind_some, hw2]
        generalize arcD m x d = a at hA hroad
        dsimp only
        have hb := hA
        obtain ⟨a1, a2, a3, a4⟩ := hb
        rw [surf2 hA (x := none) (y := none), makI_ok (by omega) (by omega), bind_some, Int.toNat_natCast]
        obtain ⟨v, hv⟩ : ∃ v, getI (List.replicate m.Places.length false) a.to_ = some v := ⟨_, bt_get a3 (by simpa using a4)⟩
        rw [hv, bind_some]
        cases can m f x d with
        | false => rw [Bool.not_false, cond_true, bind_some]; simp
        | true =>
          rw [Bool.not_true, cond_false, bind_some]
          unfold onArc
          cases h1 : sf m a.from_ with
          | true => simp
          | false =>
            cases h2 : sf m a.to_ with
            | true => simp
            | false =>
              cases on with
              | true => simp
              | false =>
                have hr := reach_eq (m := m) (f := f) (o := seed m.Places.length a.to_) (w := (x : Int)) hR hl (seed_len _ _) (fun k hk hb => by
                  rw [seed_bt hk a3 a4] at hb
                  rw [of_decide_eq_true hb]
                  exact h2)
                have hg : getI (spreadC m (x : Int) (arcsF m f) (seed m.Places.length a.to_)) a.from_ = some (bt (spreadC m (x : Int) (arcsF m f) (seed m.Places.length a.to_)) a.from_) := bt_get a1 (by rw [spreadC_len, seed_len]; exact a2)
                rw [show (List.replicate m.Places.length false).set a.to_.toNat true = seed m.Places.length a.to_ from rfl, hr]
                simp only [Bool.or_self, cond_false, bind_some, Option.bind_some, hg, hroad, Bool.not_false, Bool.true_and, Bool.false_or]
      have r2 : ∀ (out : List Int) (on : Bool), F_ref14_Circles_L2 m f ((x : Int), out) (on, 2) = some (.inr on) := fun out on => by
        unfold F_ref14_Circles_L2
        rw [bif_neg (by show ¬ ((2 : Int) < 2); decide)]
      have r0 := step out false false
      have r1 := step out (false || (can m f x false && onArc m (arcsF m f) (arcD m x false))) true
      rw [cond_false] at r0
      rw [cond_true] at r1
      unfold F_ref14_Circles_L1
      dsimp only
      rw [bif_pos (by omega), loopC_inl r0, cond_false, loopC_inl r1, cond_true, loopC_inr (r2 _ _), bind_some, w64 (by omega) (by omega), appI_ok (by simp; omega), bind_some]
      have e : (false || (can m f x false && onArc m (arcsF m f) (arcD m x false)) || (can m f x true && onArc m (arcsF m f) (arcD m x true))) = onRd m f x := by
        unfold onRd arcsAt
        cases can m f x false <;> cases can m f x true <;> simp
      rw [e]
      cases onRd m f x <;> simp [bind_some]
  · have h' : rtB m f = false := by simpa using h
    rw [if_neg h, h']
    rfl

/-! ### places to which such air comes -/
def marks (l : List Arc) (o : List Bool) : List Bool := l.foldl (fun o a => (o.set a.from_.toNat true).set a.to_.toNat true) o
def idx (o : List Bool) : List Int := ((List.range o.length).filter (fun i : Nat => bt o i)).map (fun i : Nat => (i : Int))
def mixO (m : T_Mine) (f : List T_Span) : List Bool := spreadC m (-1) (arcsF m f) (marks (circ m (arcsF m f)) (List.replicate m.Places.length false))
def mixedF (m : T_Mine) (f : List T_Span) : List Int := if rtB m f then idx (mixO m f) else []
theorem idx_loop (o : List Bool) (ho : o.length ≤ 64) : loopC (F_recirculate_Mixed_L2 o) (0, ([] : List Int)) = some (idx o) := by
  have := coll (List.range o.length) (fun i : Nat => bif bt o i then [(i : Int)] else []) (g := F_recirculate_Mixed_L2 o) (fun i _ => by cases bt o i <;> simp) (fun i x out hx hl => ?_) (fun out => by unfold F_recirculate_Mixed_L2; rw [List.length_range, bif_neg (by dsimp only; omega)])
  · rw [this.1]
    congr 1
    unfold idx
    generalize List.range o.length = r
    induction r with
    | nil => rfl
    | cons x r ih =>
      rw [List.flatMap_cons, ih, List.filter_cons]
      cases bt o x <;> simp
  · obtain ⟨rfl, hi⟩ := range_get hx
    unfold F_recirculate_Mixed_L2
    dsimp only
    rw [bif_pos (by omega), bt_get (by omega) (by omega), bind_some, appI_ok (by simp; omega), bind_some, w64 (by omega) (by omega)]
    cases bt o x <;> simp [bind_some]
theorem mixed_eq (m : T_Mine) (f : List T_Span) (hs : Sz m) : F_recirculate_Mixed m f = some (mixedF m f) := by
  unfold F_recirculate_Mixed mixedF
  rw [arcs_eq m f hs, bind_some]
  by_cases h : rtB m f = true
  · obtain ⟨hR, hl⟩ := rtB_is h
    have h1 := hR.r1
    have hP := hR.p2
    have h2 := arcsF_len (m := m) (f := f)
    have h3 := circ_len (m := m) (l := arcsF m f)
    have hA := arcsF_ok (f := f) hR
    rw [if_pos h, if_pos h]
    dsimp only
    rw [Bool.not_true, cond_false, makI_ok (by omega) (by omega), bind_some, Int.toNat_natCast, circ_eq hP hA (by omega), bind_some]
    have := over (circ m (arcsF m f)) (fun (o : List Bool) a => (o.set a.from_.toNat true).set a.to_.toNat true) (fun i o => ((i, o) : Int × List Bool)) id (g := F_recirculate_Mixed_L1 (circ m (arcsF m f))) (fun _ o => o.length = m.Places.length) (fun i a o hx hI => ?_) (fun o _ => by unfold F_recirculate_Mixed_L1; rw [bif_neg (by dsimp only; omega)]; rfl) (List.replicate m.Places.length false) (by simp)
    · obtain ⟨t1, t2⟩ := this
      rw [t1, bind_some]
      have e := spread_eq (m := m) (l := arcsF m f) (o := marks (circ m (arcsF m f)) (List.replicate m.Places.length false)) (w := -1) hP t2 hA (by omega)
      show (F_recirculate_spread m (arcsF m f) (marks (circ m (arcsF m f)) (List.replicate m.Places.length false)) (-1)).bind _ = _
      rw [e, bind_some, idx_loop _ (by rw [spreadC_len, show (marks (circ m (arcsF m f)) (List.replicate m.Places.length false)).length = _ from t2]; exact hP), bind_some]
      rfl
    · have hi := (List.getElem?_eq_some_iff.1 hx).1
      obtain ⟨a1, a2, a3, a4⟩ := hA a (circ_sub a (List.mem_of_getElem? hx)).1
      refine ⟨?_, by rw [List.length_set, List.length_set]; exact hI⟩
      unfold F_recirculate_Mixed_L1
      dsimp only
      rw [bif_pos (by omega), getI_nat, hx, bind_some, bt_get a1 (by omega), bind_some, bt_get a3 (by rw [List.length_set]; omega), bind_some, w64 (by omega) (by omega)]
  · rw [if_neg h, if_neg h]
    rfl

theorem ints_same (l : List Int) (hl : l.length ≤ 1000000) : F_ref01_Ints l l = some true := by
  unfold F_ref01_Ints
  rw [bif_neg (fun h => h rfl), all_loop l (fun _ => false) (fun i x hx => by
    have hi := (List.getElem?_eq_some_iff.1 hx).1
    unfold F_ref01_Ints_L1
    rw [bif_pos (by omega), getI_nat, hx, bind_some, bind_some, bif_neg (fun h => h rfl), w64 (by omega) (by omega)]
    rfl) (by unfold F_ref01_Ints_L1; rw [bif_neg (by omega)])]
  simp
theorem awake14 : F_law14_awake = some true := by
  unfold F_law14_awake
  rw [ways_eq _ _ ⟨by simp, by simp⟩, bind_some, circles_eq _ _ ⟨by simp, by simp⟩, bind_some, circles_eq _ _ ⟨by simp, by simp⟩, bind_some, circles_eq _ _ ⟨by simp, by simp⟩, bind_some, mixed_eq _ _ ⟨by simp, by simp⟩, bind_some]
  have e1 : waysF ⟨[⟨0, false⟩, ⟨0, false⟩], [⟨0, 1, 1, 1, false, false, ⟨1, 1⟩, ⟨0, 0⟩⟩, ⟨0, 1, 1, 1, false, false, ⟨1, 1⟩, ⟨0, 0⟩⟩]⟩ [⟨1, 5⟩, ⟨-5, -1⟩] = [⟨0, 1⟩, ⟨1, 0⟩] := by decide +kernel
  have e2 : circlesF ⟨[⟨0, false⟩, ⟨0, false⟩], [⟨0, 1, 1, 1, false, false, ⟨1, 1⟩, ⟨0, 0⟩⟩, ⟨0, 1, 1, 1, false, false, ⟨1, 1⟩, ⟨0, 0⟩⟩]⟩ [⟨1, 5⟩, ⟨-5, -1⟩] = [0, 1] := by decide +kernel
  have e3 : circlesF ⟨[⟨0, false⟩, ⟨0, false⟩], [⟨0, 1, 1, 1, false, false, ⟨1, 1⟩, ⟨0, 0⟩⟩, ⟨0, 1, 1, 1, false, false, ⟨1, 1⟩, ⟨0, 0⟩⟩]⟩ [⟨-1, 5⟩, ⟨1, 5⟩] = [0, 1] := by decide +kernel
  have e4 : circlesF ⟨[⟨0, false⟩, ⟨0, false⟩], [⟨0, 1, 1, 1, false, false, ⟨1, 1⟩, ⟨0, 0⟩⟩, ⟨0, 1, 1, 1, false, false, ⟨1, 1⟩, ⟨0, 0⟩⟩]⟩ [⟨1, 5⟩, ⟨1, 5⟩] = [] := by decide +kernel
  have e5 : mixedF ⟨[⟨0, false⟩, ⟨0, false⟩], [⟨0, 1, 1, 1, false, false, ⟨1, 1⟩, ⟨0, 0⟩⟩, ⟨0, 1, 1, 1, false, false, ⟨1, 1⟩, ⟨0, 0⟩⟩]⟩ [⟨1, 5⟩, ⟨-5, -1⟩] = [0, 1] := by decide +kernel
  rw [e1, e2, e3, e4, e5, ints_same [0, 1] (by simp)]
  rfl
theorem ok_awake {k : Bool → Option Bool} {R : Bool → Prop} (h : Ok (k true) R) : Ok (F_law14_awake.bind k) R := ok_bindE awake14 h
theorem circlesF_len {m : T_Mine} {f : List T_Span} : (circlesF m f).length ≤ m.Roads.length := by
  unfold circlesF
  split
  · rw [List.length_map]
    have := List.length_filter_le (onRd m f) (List.range m.Roads.length)
    simpa using this
  · simp
theorem sz_of {m : T_Mine} (h : MnOk m) : Sz m := ⟨by have := h.r1; omega, by have := h.p2; omega⟩

theorem bytesOf {l : List Int} (h : InL (In .u8) l) : Bytes l := fun x hx => In.u8 (h.2 x hx)
inductive Rch (m : T_Mine) (w : Int) (l : List Arc) (S : Int → Prop) : Int → Prop
  | base (k : Int) (h : S k) : Rch m w l S k
  | step (a : Arc) (ha : a ∈ l) (hw : a.road ≠ w) (hf : Rch m w l S a.from_) (ht : sf m a.to_ = false) : Rch m w l S a.to_
theorem Rch.mono {m : T_Mine} {w : Int} {l l' : List Arc} {S S' : Int → Prop} (hl : ∀ a ∈ l, a ∈ l') (hS : ∀ k, S k → Rch m w l' S' k) {k : Int} (h : Rch m w l S k) : Rch m w l' S' k := by
  induction h with
  | base k h => exact hS k h
  | step a ha hw _ ht ih => exact .step a (hl a ha) hw ih ht
theorem bt_st1 {m : T_Mine} {w : Int} {o : List Bool} {a : Arc} {k : Int} (hk : 0 ≤ k) (h : bt o k = true) : bt (st1 m w o a) k = true := by
  unfold st1
  cases ok1 m w o a with
  | false => exact h
  | true =>
    rw [cond_true]
    unfold bt at h ⊢
    rw [List.getElem?_set]
    split
    · split
      · rfl
      · rename_i h1 h2
        rw [← h1, List.getElem?_eq_none (by omega)] at h
        cases h
    · exact h
theorem bt_pass {m : T_Mine} {w : Int} {k : Int} (hk : 0 ≤ k) : ∀ (l : List Arc) (o : List Bool), bt o k = true → bt (pass m w l o) k = true
  | [], _, h => h
  | a :: l, o, h => bt_pass hk l (st1 m w o a) (bt_st1 hk h)
theorem bt_iter {m : T_Mine} {w : Int} {l : List Arc} {k : Int} (hk : 0 ≤ k) : ∀ (n : Nat) (o : List Bool), bt o k = true → bt (iterP (pass m w l) n o) k = true
  | 0, _, h => h
  | n + 1, o, h => bt_iter hk n _ (bt_pass hk l o h)
theorem iter_done {m : T_Mine} {w : Int} {l : List Arc} : ∀ (n : Nat) (o : List Bool), (∀ a ∈ l, ArcOk o.length a) → o.length - cnt o < n → ∀ a ∈ l, ok1 m w (iterP (pass m w l) n o) a = false
  | 0, o, _, h => by omega
  | n + 1, o, hl, h => by
    obtain ⟨e1, e2, e3, e4, e5, e6⟩ := pass_is (m := m) (w := w) l false o hl
    cases hb : (l.foldl (stp m w) (false, o)).1 with
    | false =>
      obtain ⟨q1, q2⟩ := e5 hb
      intro a ha
      show ok1 m w (iterP (pass m w l) n (pass m w l o)) a = false
      rw [q1, iter_fix q1]
      exact q2 a ha
    | true =>
      have := e6 rfl hb
      have hc : cnt (pass m w l o) ≤ (pass m w l o).length := List.count_le_length ..
      exact iter_done n (pass m w l o) (by rw [e2]; exact hl) (by rw [e2] at hc ⊢; omega)
theorem st1_snd {m : T_Mine} {w : Int} {l : List Arc} {S : Int → Prop} {o : List Bool} {a : Arc} (ha : a ∈ l) (hA : ArcOk o.length a) (h : ∀ k : Int, 0 ≤ k → bt o k = true → Rch m w l S k) : ∀ k : Int, 0 ≤ k → bt (st1 m w o a) k = true → Rch m w l S k := by
  intro k hk hb
  obtain ⟨a1, a2, a3, a4⟩ := hA
  unfold st1 at hb
  cases ho : ok1 m w o a with
  | false => rw [ho] at hb; exact h k hk hb
  | true =>
    rw [ho, cond_true, bt_set hk (by omega)] at hb
    by_cases e : k = a.to_.toNat
    · have : k = a.to_ := by omega
      subst this
      unfold ok1 at ho
      simp only [Bool.and_eq_true, Bool.not_eq_true', decide_eq_true_eq] at ho
      exact .step a ha ho.1 (h _ a1 ho.2.1) ho.2.2.2
    · rw [if_neg e] at hb
      exact h k hk hb
theorem pass_snd {m : T_Mine} {w : Int} {l : List Arc} {S : Int → Prop} : ∀ (l' : List Arc) (o : List Bool), (∀ a ∈ l', a ∈ l) → (∀ a ∈ l', ArcOk o.length a) → (∀ k : Int, 0 ≤ k → bt o k = true → Rch m w l S k) → ∀ k : Int, 0 ≤ k → bt (pass m w l' o) k = true → Rch m w l S k
  | [], _, _, _, h => h
  | a :: l', o, hl, hA, h => pass_snd l' (st1 m w o a) (fun x hx => hl x (List.mem_cons_of_mem _ hx)) (fun x hx => by rw [st1_len]; exact hA x (List.mem_cons_of_mem _ hx)) (st1_snd (hl a (List.mem_cons_self ..)) (hA a (List.mem_cons_self ..)) h)
theorem iter_snd {m : T_Mine} {w : Int} {l : List Arc} {S : Int → Prop} : ∀ (n : Nat) (o : List Bool), (∀ a ∈ l, ArcOk o.length a) → (∀ k : Int, 0 ≤ k → bt o k = true → Rch m w l S k) → ∀ k : Int, 0 ≤ k → bt (iterP (pass m w l) n o) k = true → Rch m w l S k
  | 0, _, _, h => h
  | n + 1, o, hA, h => iter_snd n (pass m w l o) (by rw [(pass_is (m := m) (w := w) l false o hA).2.1]; exact hA) (pass_snd l o (fun _ h => h) hA h)
theorem spread_iff {m : T_Mine} {w : Int} {l : List Arc} {o : List Bool} {S : Int → Prop} (hA : ∀ a ∈ l, ArcOk o.length a) (hS : ∀ k : Int, 0 ≤ k → (bt o k = true ↔ S k)) (hS0 : ∀ k, S k → 0 ≤ k) {k : Int} (hk : 0 ≤ k) : bt (spreadC m w l o) k = true ↔ Rch m w l S k := by
  unfold spreadC
  constructor
  · exact iter_snd _ o hA (fun k hk h => .base k ((hS k hk).1 h)) k hk
  · intro h
    have hd := iter_done (m := m) (w := w) (l := l) (o.length + 1) o hA (by omega)
    clear hk
    induction h with
    | base k h => exact bt_iter (hS0 k h) _ o ((hS k (hS0 k h)).2 h)
    | step a ha hw _ ht ih =>
      have h0 := hd a ha
      unfold ok1 at h0
      rw [decide_eq_true hw, ih, ht, Bool.true_and, Bool.true_and, Bool.not_false, Bool.and_true] at h0
      simpa using h0
theorem on_iff {m : T_Mine} {l : List Arc} (hA : ∀ a ∈ l, ArcOk m.Places.length a) {a : Arc} (ha : ArcOk m.Places.length a) : onArc m l a = true ↔ sf m a.from_ = false ∧ sf m a.to_ = false ∧ Rch m a.road l (· = a.to_) a.from_ := by
  obtain ⟨a1, a2, a3, a4⟩ := ha
  have := spread_iff (m := m) (w := a.road) (l := l) (o := seed m.Places.length a.to_) (S := (· = a.to_)) (by rw [seed_len]; exact hA) (fun k hk => by rw [seed_bt hk a3 a4]; exact decide_eq_true_iff) (fun k h => by rw [h]; exact a3) a1
  unfold onArc
  rw [Bool.and_eq_true, Bool.and_eq_true, Bool.not_eq_true', Bool.not_eq_true', this]
theorem circlesF_mem {m : T_Mine} {f : List T_Span} {v : Int} : v ∈ circlesF m f ↔ rtB m f = true ∧ ∃ i d, i < m.Roads.length ∧ v = (i : Int) ∧ can m f i d = true ∧ onArc m (arcsF m f) (arcD m i d) = true := by
  unfold circlesF
  by_cases h : rtB m f = true
  · rw [if_pos h, List.mem_map]
    constructor
    · rintro ⟨i, hi, rfl⟩
      obtain ⟨h1, h2⟩ := List.mem_filter.1 hi
      unfold onRd at h2
      obtain ⟨a, ha, hon⟩ := List.any_eq_true.1 h2
      obtain ⟨d, hc, rfl⟩ := arcsAt_mem.1 ha
      exact ⟨h, i, d, List.mem_range.1 h1, rfl, hc, hon⟩
    · rintro ⟨_, i, d, hi, rfl, hc, hon⟩
      exact ⟨i, List.mem_filter.2 ⟨List.mem_range.2 hi, List.any_eq_true.2 ⟨_, arcsAt_mem.2 ⟨d, hc, rfl⟩, hon⟩⟩, rfl⟩
  · rw [if_neg h]
    constructor
    · intro h; cases h
    · rintro ⟨h', _⟩; exact absurd h' h
theorem marks_bt : ∀ (l : List Arc) (o : List Bool), (∀ a ∈ l, ArcOk o.length a) → ∀ k : Int, 0 ≤ k → (bt (marks l o) k = true ↔ bt o k = true ∨ ∃ a ∈ l, k = a.from_ ∨ k = a.to_)
  | [], o, _, k, _ => by
    show bt o k = true ↔ _
    constructor
    · exact .inl
    · rintro (h | ⟨a, ha, _⟩)
      · exact h
      · cases ha
  | a :: l, o, hA, k, hk => by
    obtain ⟨a1, a2, a3, a4⟩ := hA a (List.mem_cons_self ..)
    show bt (marks l _) k = true ↔ _
    rw [marks_bt l _ (fun x hx => by rw [List.length_set, List.length_set]; exact hA x (List.mem_cons_of_mem _ hx)) k hk, bt_set hk (by rw [List.length_set]; omega), bt_set hk (by omega)]
    constructor
    · rintro (h | ⟨b, hb, h⟩)
      · by_cases e1 : k = (a.to_.toNat : Int)
        · exact .inr ⟨a, List.mem_cons_self .., .inr (by omega)⟩
        · rw [if_neg e1] at h
          by_cases e2 : k = (a.from_.toNat : Int)
          · exact .inr ⟨a, List.mem_cons_self .., .inl (by omega)⟩
          · rw [if_neg e2] at h
            exact .inl h
      · exact .inr ⟨b, List.mem_cons_of_mem _ hb, h⟩
    · rintro (h | ⟨b, hb, h⟩)
      · left
        split
        · rfl
        · split
          · rfl
          · exact h
      · rcases List.mem_cons.1 hb with rfl | hb
        · left
          rcases h with h | h
          · split
            · rfl
            · rw [if_pos (by omega)]
          · rw [if_pos (by omega)]
        · exact .inr ⟨b, hb, h⟩
theorem circ_mem {m : T_Mine} {l : List Arc} {a : Arc} : a ∈ circ m l ↔ a ∈ l ∧ onArc m l a = true := by
  constructor
  · exact circ_sub a
  · rintro ⟨h1, h2⟩
    unfold circ
    exact List.mem_flatMap.2 ⟨a, h1, by rw [h2]; simp⟩
def mixS (m : T_Mine) (l : List Arc) (k : Int) : Prop := ∃ a ∈ circ m l, k = a.from_ ∨ k = a.to_
theorem idx_mem {o : List Bool} {v : Int} : v ∈ idx o ↔ 0 ≤ v ∧ v < (o.length : Int) ∧ bt o v = true := by
  unfold idx
  rw [List.mem_map]
  constructor
  · rintro ⟨i, hi, rfl⟩
    obtain ⟨h1, h2⟩ := List.mem_filter.1 hi
    have := List.mem_range.1 h1
    exact ⟨by omega, by omega, h2⟩
  · rintro ⟨h1, h2, h3⟩
    refine ⟨v.toNat, List.mem_filter.2 ⟨List.mem_range.2 (by omega), ?_⟩, by omega⟩
    rw [Int.toNat_of_nonneg h1]
    exact h3
theorem mixed_mem {m : T_Mine} {f : List T_Span} {v : Int} : v ∈ mixedF m f ↔ rtB m f = true ∧ 0 ≤ v ∧ v < (m.Places.length : Int) ∧ Rch m (-1) (arcsF m f) (mixS m (arcsF m f)) v := by
  unfold mixedF
  by_cases h : rtB m f = true
  · obtain ⟨hR, hl⟩ := rtB_is h
    have hA := arcsF_ok (f := f) hR
    have hml : (marks (circ m (arcsF m f)) (List.replicate m.Places.length false)).length = m.Places.length := by
      have : ∀ (l : List Arc) (o : List Bool), (marks l o).length = o.length := by
        intro l
        induction l with
        | nil => intro o; rfl
        | cons a l ih => intro o; exact (ih _).trans (by rw [List.length_set, List.length_set])
      rw [this, List.length_replicate]
    rw [if_pos h, idx_mem]
    unfold mixO
    rw [spreadC_len, hml]
    constructor
    · rintro ⟨h1, h2, h3⟩
      refine ⟨h, h1, h2, (spread_iff (by rw [hml]; exact hA) (fun k hk => ?_) (fun k hk => ?_) h1).1 h3⟩
      · rw [marks_bt _ _ (fun a ha => by rw [List.length_replicate]; exact hA a (circ_sub a ha).1) k hk]
        constructor
        · rintro (h | h)
          · unfold bt at h
            by_cases hh : k.toNat < m.Places.length
            · rw [List.getElem?_replicate_of_lt hh] at h; cases h
            · rw [List.getElem?_eq_none (by simpa using hh)] at h; cases h
          · exact h
        · exact .inr
      · obtain ⟨a, ha, hk⟩ := hk
        have := hA a (circ_sub a ha).1
        unfold ArcOk at this
        omega
    · rintro ⟨_, h1, h2, h3⟩
      refine ⟨h1, h2, (spread_iff (S := mixS m (arcsF m f)) (by rw [hml]; exact hA) (fun k hk => ?_) (fun k hk => ?_) h1).2 h3⟩
      · rw [marks_bt _ _ (fun a ha => by rw [List.length_replicate]; exact hA a (circ_sub a ha).1) k hk]
        constructor
        · rintro (h | h)
          · unfold bt at h
            by_cases hh : k.toNat < m.Places.length
            · rw [List.getElem?_replicate_of_lt hh] at h; cases h
            · rw [List.getElem?_eq_none (by simpa using hh)] at h; cases h
          · exact h
        · exact .inr
      · obtain ⟨a, ha, hk⟩ := hk
        have := hA a (circ_sub a ha).1
        unfold ArcOk at this
        omega
  · rw [if_neg h]
    constructor
    · intro h; cases h
    · rintro ⟨h', _⟩; exact absurd h' h
theorem mixS_surf {m : T_Mine} {l : List Arc} (hA : ∀ a ∈ l, ArcOk m.Places.length a) (k : Int) (h : mixS m l k) : sf m k = false := by
  obtain ⟨a, ha, hk⟩ := h
  obtain ⟨h1, h2⟩ := circ_sub a ha
  obtain ⟨q1, q2, _⟩ := (on_iff hA (hA a h1)).1 h2
  rcases hk with rfl | rfl
  · exact q1
  · exact q2
theorem has_eq (l : List Int) (v : Int) (hl : l.length ≤ 1000000) : F_ref01_Has l v = some (decide (v ∈ l)) := by
  unfold F_ref01_Has
  rw [all_loop l (fun x => decide (x = v)) (fun i x hx => by
    have hi := (List.getElem?_eq_some_iff.1 hx).1
    unfold F_ref01_Has_L1
    rw [bif_pos (by omega), getI_nat, hx, bind_some, w64 (by omega) (by omega)]) (by unfold F_ref01_Has_L1; rw [bif_neg (by omega)]), bind_some]
  by_cases h : v ∈ l
  · rw [if_neg (fun hh => by have := List.all_eq_true.1 hh v h; simp at this), decide_eq_true h]
    rfl
  · rw [if_pos (List.all_eq_true.2 fun x hx => by rw [Bool.not_eq_true', decide_eq_false_iff_not]; rintro rfl; exact h hx), decide_eq_false h]
    rfl

def shutM (m : T_Mine) (k : Nat) : T_Mine := ⟨m.Places, m.Roads.set k ⟨(rd0 m k).From, (rd0 m k).To, (rd0 m k).Length, (rd0 m k).Area, (rd0 m k).Walk, true, (rd0 m k).Rest, (rd0 m k).Lift⟩⟩
theorem mixedF_len {m : T_Mine} {f : List T_Span} : (mixedF m f).length ≤ m.Places.length := by
  have hb : ∀ v ∈ mixedF m f, 0 ≤ v ∧ v < (m.Places.length : Int) := fun v hv => by
    obtain ⟨_, h1, h2, _⟩ := mixed_mem.1 hv
    exact ⟨h1, h2⟩
  unfold mixedF idx
  split
  · rw [List.length_map]
    refine Nat.le_trans (List.length_filter_le ..) ?_
    rw [List.length_range]
    unfold mixO
    rw [spreadC_len]
    have : ∀ (l : List Arc) (o : List Bool), (marks l o).length = o.length := by
      intro l
      induction l with
      | nil => intro o; rfl
      | cons a l ih => intro o; exact (ih _).trans (by rw [List.length_set, List.length_set])
    rw [this, List.length_replicate]
    exact Nat.le_refl _
  · simp

def CvV (l : List T_Point) : Prop := CvOk l ∧ ∀ p ∈ l, 0 ≤ p.Pressure ∧ p.Pressure ≤ 3000
def DrV (d : T_Door) : Prop := DrOk d ∧ ∀ x ∈ d.Rests, 0 ≤ x ∧ x ≤ 900
def RvOk (r : T_Road) : Prop := 1 ≤ r.Length ∧ r.Length ≤ 400 ∧ 4 ≤ r.Area ∧ r.Area ≤ 30 ∧ 1 ≤ r.Rest.Low ∧ r.Rest.Low ≤ 20 ∧ r.Rest.Low ≤ r.Rest.High ∧ r.Rest.High ≤ r.Rest.Low + 2
def LvOk (r : T_Road) : Prop := -10000000000 ≤ r.Lift.Low ∧ r.Lift.Low ≤ r.Lift.High ∧ r.Lift.High ≤ 10000000000

structure EqV (a : T_Air) (s : T_Setting) : Prop where
  f1 : a.Fans.length ≤ 2
  f2 : s.Fans.length = a.Fans.length
  f3 : ∀ f ∈ a.Fans, CvV f.Curve
  d1 : a.Doors.length ≤ 2
  d2 : s.Doors.length = a.Doors.length
  d3 : ∀ d ∈ a.Doors, DrV d
def SpB (s : T_Span) : Prop := -6010000 ≤ s.Low ∧ s.Low ≤ 6010000 ∧ -6010000 ≤ s.High ∧ s.High ≤ 6010000
def RV (r : T_Road) : Prop := r.From ≠ r.To ∧ RvOk r ∧ LvOk r
def PlV (l : List T_Place) : Prop := ∀ p ∈ l, plErr p = false
structure MdV (pls : List T_Place) (net : List Int) (a : T_Air) (x : T_State) (c : T_draw_Codes) (b k : Nat) : Prop where
  s : MdS pls.length net a x c b k
  pe : a.Mine.Places = pls
  rv : ∀ r ∈ a.Mine.Roads, RV r
  pb : ∀ p ∈ x.Pressures, -4000 ≤ p ∧ p ≤ 4000
def MnV (m : T_Mine) : Prop := (PlV m.Places ∧ ∀ r ∈ m.Roads, RV r) ∧ m.Places.length ≤ 7
def Sfs (m : T_Mine) : Prop := ∀ k : Int, 0 ≤ k → k < (m.Places.length : Int) → sf m k = true
def fl0 (q : List Int) (i : Nat) : Int := (q[i]?).getD 0
def fD (q : List Int) (i : Nat) : Bool := decide (fl0 q i < 0)
def Wk (m : T_Mine) (l : List Arc) (to_ : Int) : Nat → Int → List Bool → Prop
  | 0, a, _ => a = to_
  | n + 1, a, u => a = to_ ∨ (sf m a = false ∧ ∃ x ∈ l, bt u x.road = false ∧ x.from_ = a ∧ Wk m l to_ n x.to_ (u.set x.road.toNat true))
def Rn (m : T_Mine) (l : List Arc) (t w : Int) : Nat → Int → Prop
  | 0, k => k = t
  | n + 1, k => Rn m l t w n k ∨ ∃ x ∈ l, x.road ≠ w ∧ x.from_ = k ∧ sf m k = false ∧ Rn m l t w n x.to_
def Hit (m : T_Mine) (f : List T_Span) (t : Int) (n : Nat) (a : Int) (u : List Bool) (i : Nat) : Prop := ∃ d, can m f i d = true ∧ bt u (i : Int) = false ∧ (arcD m i d).from_ = a ∧ Wk m (arcsF m f) t n (arcD m i d).to_ (u.set i true)
theorem bt_ext {a b : List Bool} (hl : a.length = b.length) (h : ∀ k : Int, 0 ≤ k → (bt a k = true ↔ bt b k = true)) : a = b := by
  refine List.ext_getElem hl fun i h1 h2 => ?_
  have := h (i : Int) (by omega)
  unfold bt at this
  rw [Int.toNat_natCast, List.getElem?_eq_getElem h1, List.getElem?_eq_getElem h2] at this
  simp only [Option.getD_some] at this
  cases ha : a[i] <;> cases hb : b[i] <;> simp [ha, hb] at this ⊢
theorem rep_bt {n : Nat} {k : Int} : bt (List.replicate n false) k = false := by
  unfold bt
  by_cases hh : k.toNat < n
  · rw [List.getElem?_replicate_of_lt hh]; rfl
  · rw [List.getElem?_eq_none (by simpa using hh)]; rfl
theorem marks_len : ∀ (l : List Arc) (o : List Bool), (marks l o).length = o.length
  | [], _ => rfl
  | a :: l, o => (marks_len l _).trans (by rw [List.length_set, List.length_set])
theorem ridx_loop (o : List Bool) (ho : o.length ≤ 1000000000) : loopC (F_ref14_Mixed_L2 o) (0, ([] : List Int)) = some (idx o) := by
  have := coll (List.range o.length) (fun i : Nat => bif bt o i then [(i : Int)] else []) (g := F_ref14_Mixed_L2 o) (fun i _ => by cases bt o i <;> simp) (fun i x out hx hl => ?_) (fun out => by unfold F_ref14_Mixed_L2; rw [List.length_range, bif_neg (by dsimp only; omega)])
  · rw [this.1]
    congr 1
    unfold idx
    generalize List.range o.length = r
    induction r with
    | nil => rfl
    | cons x r ih =>
      rw [List.flatMap_cons, ih, List.filter_cons]
      cases bt o x <;> simp
  · obtain ⟨rfl, hi⟩ := range_get hx
    unfold F_ref14_Mixed_L2
    dsimp only
    rw [bif_pos (by omega), bt_get (by omega) (by omega), bind_some, appI_ok (by simp; omega), bind_some, w64 (by omega) (by omega)]
    cases bt o x <;> simp [bind_some]
theorem idx_rep (n : Nat) : idx (List.replicate n false) = [] := by
  unfold idx
  rw [List.filter_eq_nil_iff.2 fun i _ => by rw [rep_bt]; simp]
  rfl
def rmarks (m : T_Mine) (l : List Int) (o : List Bool) : List Bool := l.foldl (fun o i => (o.set (rd0 m i.toNat).From.toNat true).set (rd0 m i.toNat).To.toNat true) o
theorem rmarks_eq (m : T_Mine) : ∀ (l : List Int) (o : List Bool), rmarks m l o = marks (l.map fun i => arcD m i.toNat false) o
  | [], _ => rfl
  | i :: l, o => rmarks_eq m l _
theorem rmixed_eq (m : T_Mine) (f : List T_Span) (hs : Sz m) : F_ref14_Mixed m f = some (mixedF m f) := by
  obtain ⟨z1, z2⟩ := hs
  unfold F_ref14_Mixed mixedF
  rw [rcircles_eq m f ⟨z1, z2⟩, bind_some, makI_ok (by omega) (by omega), bind_some, Int.toNat_natCast]
  by_cases h : rtB m f = true
  · obtain ⟨hR, hl⟩ := rtB_is h
    have h1 := hR.r1
    have hP := hR.p2
    have hA := arcsF_ok (f := f) hR
    have hc := circlesF_len (m := m) (f := f)
    have hmem : ∀ v ∈ circlesF m f, 0 ≤ v ∧ v < (m.Roads.length : Int) := fun v hv => by
      obtain ⟨_, i, _, hi, rfl, _⟩ := circlesF_mem.1 hv
      omega
    rw [if_pos h]
    have := over (circlesF m f) (fun (o : List Bool) i => (o.set (rd0 m i.toNat).From.toNat true).set (rd0 m i.toNat).To.toNat true) (fun i o => ((i, o) : Int × List Bool)) id (g := F_ref14_Mixed_L1 m (circlesF m f)) (fun _ o => o.length = m.Places.length) (fun j i o hx hI => ?_) (fun o _ => by unfold F_ref14_Mixed_L1; rw [bif_neg (by dsimp only; omega)]; rfl) (List.replicate m.Places.length false) (by simp)
    · obtain ⟨t1, t2⟩ := this
      have hRA : ∀ a ∈ (circlesF m f).map (fun i => arcD m i.toNat false), ArcOk (List.replicate m.Places.length false).length a := fun a ha => by
        obtain ⟨v, hv, rfl⟩ := List.mem_map.1 ha
        have := hmem v hv
        rw [List.length_replicate]
        exact arcD_ok hR (by omega) false
      have hCA : ∀ a ∈ circ m (arcsF m f), ArcOk (List.replicate m.Places.length false).length a := fun a ha => by rw [List.length_replicate]; exact hA a (circ_sub a ha).1
      have e : rmarks m (circlesF m f) (List.replicate m.Places.length false) = marks (circ m (arcsF m f)) (List.replicate m.Places.length false) := by
        rw [rmarks_eq]
        refine bt_ext (by rw [marks_len, marks_len]) fun k hk => ?_
        rw [marks_bt _ _ hRA k hk, marks_bt _ _ hCA k hk, rep_bt]
        constructor
        · rintro (h | ⟨a, ha, h⟩)
          · cases h
          · obtain ⟨v, hv, rfl⟩ := List.mem_map.1 ha
            obtain ⟨_, i, d, hi, rfl, q1, q2⟩ := circlesF_mem.1 hv
            refine .inr ⟨arcD m i d, circ_mem.2 ⟨arcsF_mem.2 ⟨i, d, hi, q1, rfl⟩, q2⟩, ?_⟩
            rw [Int.toNat_natCast] at h
            cases d
            · exact h
            · exact h.symm
        · rintro (h | ⟨a, ha, h⟩)
          · cases h
          · obtain ⟨q0, q2⟩ := circ_sub a ha
            obtain ⟨i, d, hi, q1, rfl⟩ := arcsF_mem.1 q0
            refine .inr ⟨arcD m i false, List.mem_map.2 ⟨(i : Int), circlesF_mem.2 ⟨‹_›, i, d, hi, rfl, q1, q2⟩, by rw [Int.toNat_natCast]⟩, ?_⟩
            cases d
            · exact h
            · exact h.symm
      have e' : (circlesF m f).foldl (fun (o : List Bool) i => (o.set (rd0 m i.toNat).From.toNat true).set (rd0 m i.toNat).To.toNat true) (List.replicate m.Places.length false) = marks (circ m (arcsF m f)) (List.replicate m.Places.length false) := e
      rw [t1, bind_some, e']
      have hml : (marks (circ m (arcsF m f)) (List.replicate m.Places.length false)).length = m.Places.length := by rw [marks_len, List.length_replicate]
      have hNS : NS m (marks (circ m (arcsF m f)) (List.replicate m.Places.length false)) := fun k hk hb => by
        rw [marks_bt _ _ hCA k hk, rep_bt] at hb
        rcases hb with hb | hb
        · cases hb
        · exact mixS_surf hA k hb
      have hmo : (mixO m f).length = m.Places.length := by unfold mixO; rw [spreadC_len, hml]
      refine (?_ : Option.bind _ _ = _)
      dsimp only [id]
      by_cases h0 : 0 < ((circlesF m f).length : Int)
      · rw [bif_pos h0, reach_eq hR hl hml hNS, bind_some, bind_some]
        show (loopC (F_ref14_Mixed_L2 (mixO m f)) (0, [])).bind _ = _
        rw [ridx_loop _ (by rw [hmo]; omega), bind_some]
      · rw [bif_neg h0, bind_some]
        have hnil : circ m (arcsF m f) = [] := by
          rw [List.eq_nil_iff_forall_not_mem]
          intro a ha
          obtain ⟨q0, q2⟩ := circ_sub a ha
          obtain ⟨i, d, hi, q1, rfl⟩ := arcsF_mem.1 q0
          have : (i : Int) ∈ circlesF m f := circlesF_mem.2 ⟨‹_›, i, d, hi, rfl, q1, q2⟩
          have hp := List.length_pos_of_mem this
          omega
        have em : mixO m f = marks (circ m (arcsF m f)) (List.replicate m.Places.length false) := by
          refine bt_ext (by rw [hmo, hml]) fun k hk => ?_
          rw [marks_bt _ _ hCA k hk, rep_bt, hnil]
          unfold mixO
          rw [hnil, spread_iff (S := fun _ => False) (by rw [marks_len, List.length_replicate]; exact hA) (fun k hk => by rw [marks_bt _ _ (fun a ha => by cases ha) k hk, rep_bt]; simp) (fun k hk => hk.elim) hk]
          constructor
          · intro hr
            exfalso
            induction hr with
            | base _ h => exact h
            | step _ _ _ _ _ ih => exact ih (by
                have := hA _ ‹_›
                unfold ArcOk at this
                omega)
          · rintro (h | ⟨a, ha, _⟩)
            · cases h
            · cases ha
        rw [← em, ridx_loop _ (by rw [hmo]; omega), bind_some]
    · obtain ⟨v0, v1⟩ := hmem i (List.mem_of_getElem? hx)
      have hj := (List.getElem?_eq_some_iff.1 hx).1
      obtain ⟨k, rfl⟩ : ∃ k : Nat, i = (k : Int) := ⟨i.toNat, by omega⟩
      have hk : k < m.Roads.length := by omega
      obtain ⟨r1, r2, r3, r4⟩ := hR.rd (rd0 m k) (List.mem_of_getElem? (rd0_get hk))
      refine ⟨?_, by rw [List.length_set, List.length_set]; exact hI⟩
      unfold F_ref14_Mixed_L1
      dsimp only
      rw [bif_pos (by omega), getI_nat (l := circlesF m f), hx, bind_some, getI_nat (l := m.Roads), rd0_get hk, bind_some, bind_some, getI_nat (l := m.Roads), rd0_get hk, bind_some, bt_get r1 (by omega), bind_some, bt_get r3 (by rw [List.length_set]; omega), bind_some, w64 (by omega) (by omega), Int.toNat_natCast]
  · rw [if_neg h]
    have hc : circlesF m f = [] := by unfold circlesF; rw [if_neg h]
    rw [hc, loopC_inr (b := List.replicate m.Places.length false) (by unfold F_ref14_Mixed_L1; rfl), bind_some, bif_neg (by simp), bind_some, ridx_loop _ (by simp; omega), bind_some, idx_rep]

def PL {α : Type} (m : Option α) (Q : α → Prop) : Prop := ∀ a, m = some a → Q a
theorem pl_some {α : Type} {Q : α → Prop} {a : α} (h : Q a) : PL (some a) Q := fun b hb => by injection hb with hb; subst hb; exact h
theorem pl_any {α : Type} {m : Option α} : PL m (fun _ => True) := fun _ _ => trivial
theorem pl_bind {α β : Type} {m : Option α} {k : α → Option β} {Q : α → Prop} {R : β → Prop} (h : PL m Q) (hk : ∀ a, Q a → PL (k a) R) : PL (m.bind k) R := fun b hb => by
  obtain ⟨a, h1, h2⟩ := bnd hb
  exact hk a (h a h1) b h2
theorem pl_bif {α : Type} {c : Bool} {x y : Option α} {R : α → Prop} (h1 : c = true → PL x R) (h2 : c = false → PL y R) : PL (bif c then x else y) R := by
  cases c with
  | true => exact h1 rfl
  | false => exact h2 rfl
theorem pl_loop {α β : Type} {f : α → Option (α ⊕ β)} {K : β → Prop} {a : α} (I : α → Prop) (h0 : I a) (hs : ∀ s, I s → PL (f s) fun o => match o with | .inl s' => I s' | .inr b => K b) : PL (loopC f a) K := by
  intro b hb
  obtain ⟨n, hn⟩ := loopC_some hb
  induction n generalizing a with
  | zero => simp [iterC] at hn
  | succ n ih =>
    unfold iterC at hn
    obtain ⟨o, h1, h2⟩ := bnd hn
    have := hs a h0 o h1
    cases o with
    | inl a' => exact ih this (loopC_of h2) h2
    | inr b' =>
      injection h2 with h2
      subst h2
      exact this
theorem ok_pl {α : Type} {m : Option α} {Q R : α → Prop} (h : Ok m Q) (k : PL m R) : Ok m (fun a => Q a ∧ R a) := by
  obtain ⟨a, h1, h2⟩ := h
  exact ⟨a, h1, h2, k a h1⟩

def I64 (x : Int) : Prop := -9223372036854775808 ≤ x ∧ x ≤ 9223372036854775807
theorem wrap_i64 (n : Int) : I64 (IntKind.i64.wrap n) := by
  unfold I64
  rw [IntKind.wrap_i64]
  omega
theorem tmod_i64 {a : Int} (h : I64 a) (b : Int) : I64 (a.tmod b) := by
  unfold I64 at *
  have h1 : (a.tmod b).natAbs ≤ a.natAbs := by
    rw [Int.natAbs_tmod]
    exact Nat.mod_le _ _
  have h2 : 0 ≤ a → 0 ≤ a.tmod b := fun h => Int.tmod_nonneg b h
  have h3 : a < 0 → a.tmod b ≤ 0 := fun h => by
    have e : a.tmod b = -((-a).tmod b) := by rw [Int.neg_tmod, Int.neg_neg]
    have := Int.tmod_nonneg b (show 0 ≤ -a by omega)
    omega
  omega
theorem next_pl (c : T_draw_Codes) (n : Int) : PL (F_draw_Codes_Next c n) fun r => I64 r.2 ∧ (1 ≤ n → r.2 < n) := by
  unfold F_draw_Codes_Next
  refine pl_bind pl_any fun o1 _ => pl_bif (fun _ => pl_some ⟨by unfold I64; dsimp only; omega, fun h => by dsimp only; omega⟩) fun _ => ?_
  refine pl_bind pl_any fun x4 _ => pl_bind pl_any fun o6 _ => ?_
  refine pl_bind (Q := fun o => I64 o.1) (pl_bif (fun _ => pl_bind pl_any fun x10 _ => pl_some (wrap_i64 _)) fun _ => pl_some (wrap_i64 _)) fun o8 h8 => ?_
  refine pl_bind (Q := fun r => I64 r ∧ (1 ≤ n → r < n)) ?_ fun x12 h12 => pl_some h12
  intro a ha
  obtain ⟨_, rfl⟩ := remI_some ha
  exact ⟨tmod_i64 h8 _, fun h => Int.tmod_lt_of_pos _ (by omega)⟩
def FnR (l : List T_Fan) : Prop := l.length ≤ 2 ∧ ∀ f ∈ l, I64 f.Road
theorem app_pl {b : Nat} {l : List T_Fan} {x : T_Fan} : PL (appI b l [x]) fun r => r = l ++ [x] := by
  intro a ha
  unfold appI at ha
  split at ha
  · injection ha with ha
    exact ha.symm
  · cases ha
theorem equipped_pl (c : T_draw_Codes) (m : T_Mine) : PL (F_draw_Codes_equipped c ⟨m, [], []⟩) fun r => FnR r.2.1.Fans := by
  unfold F_draw_Codes_equipped
  refine pl_bind (next_pl _ _) fun x2 h2 => ?_
  have h2' := h2.2 (by decide)
  refine pl_bind (Q := fun o => FnR o.2.2) (pl_loop (fun s => (s.2.2.2.length : Int) + max 0 s.1 ≤ 2 ∧ ∀ f ∈ s.2.2.2, I64 f.Road) ⟨by dsimp only [List.length_nil]; omega, fun f hf => by cases hf⟩ fun s hs => ?_) fun o5 h5 => ?_
  · obtain ⟨s1, s2⟩ := hs
    unfold F_draw_Codes_equipped_L1
    refine pl_bind (Q := fun o => o = true → 0 < s.1) (pl_bif (fun h => pl_some fun _ => of_decide_eq_true h) fun _ => pl_some fun h => by cases h) fun o6 h6 => ?_
    refine pl_bif (fun h => ?_) fun _ => pl_some ⟨by show s.2.2.2.length ≤ 2; omega, s2⟩
    have h0 := h6 h
    refine pl_bind (next_pl _ _) fun x9 h9 => pl_bind pl_any fun x11 _ => pl_bind pl_any fun x13 _ => pl_bind pl_any fun x15 _ => ?_
    refine pl_bind app_pl fun x17 h17 => pl_bind pl_any fun x19 _ => pl_bind pl_any fun x21 _ => pl_some ?_
    subst h17
    refine ⟨?_, fun f hf => ?_⟩
    · show ((s.2.2.2 ++ [_]).length : Int) + max 0 (IntKind.i64.wrap (s.1 - 1)) ≤ 2
      rw [w64 (by omega) (by omega), List.length_append]
      simp only [List.length_cons, List.length_nil]
      omega
    · rcases mem_app1 hf with h | h
      · exact s2 f h
      · subst h; exact h9.1
  · refine pl_bind pl_any fun x24 _ => pl_bind pl_any fun o27 _ => pl_some h5
theorem fit_pl (c : T_draw_Codes) (a : T_Air) (s : T_Setting) (x : T_State) : PL (F_draw_Codes_fit c a s x) fun r => r.2.Fans = a.Fans := by
  unfold F_draw_Codes_fit
  exact pl_bind pl_any fun o5 _ => pl_some rfl
theorem made_pl (c : T_draw_Codes) : PL (F_draw_Codes_Made c) fun r => FnR r.2.1.Fans := by
  unfold F_draw_Codes_Made
  refine pl_bind pl_any fun x1 _ => pl_bind pl_any fun o3 _ => pl_bind pl_any fun x7 _ => pl_bind pl_any fun o10 _ => pl_bind pl_any fun x16 _ => pl_bind pl_any fun o19 _ => pl_bind pl_any fun x25 _ => pl_bind pl_any fun o27 _ => pl_bind pl_any fun o61 _ => ?_
  refine pl_bind (equipped_pl _ _) fun x77 h77 => pl_bind (fit_pl _ _ _ _) fun x79 h79 => pl_bind pl_any fun x81 _ => pl_some ?_
  dsimp only
  rw [h79]
  exact h77
theorem air_pl (p0 : List Int) : PL (F_law14_air p0) fun r => FnR r.1.Fans := by
  unfold F_law14_air
  refine pl_bind pl_any fun x1 _ => pl_bind (made_pl _) fun x3 h3 => pl_bind pl_any fun x5 _ => ?_
  refine pl_bind (Q := fun o => FnR o.2.1.Fans) (pl_bif (fun _ => ?_) fun _ => pl_some h3) fun o7 h7 => pl_bind pl_any fun x22 _ => pl_some h7
  refine pl_bind pl_any fun x9 _ => pl_bind (next_pl _ _) fun x11 h11 => pl_bind (next_pl _ _) fun x13 h13 => ?_
  refine pl_bind (Q := fun o => FnR o.2.1.Fans) (pl_loop (fun s => FnR s.2.2.1.Fans) ⟨Nat.le_refl _, ?_⟩ fun s hs => ?_) fun o16 h16 => pl_some h16
  · intro f hf
    rcases List.mem_cons.1 hf with h | h
    · subst h; exact h11.1
    · rcases List.mem_cons.1 h with h | h
      · subst h; exact h13.1
      · cases h
  · unfold F_law14_air_L1
    refine pl_bif (fun _ => pl_bind pl_any fun x18 _ => pl_bind pl_any fun x20 _ => pl_some hs) fun _ => pl_some hs

noncomputable def thruF (cs : List Int) (l : List T_Fan) : List Int := F_recirculate_Through_L1 cs l l.length
theorem through_len (cs : List Int) (l : List T_Fan) : ∀ k, (F_recirculate_Through_L1 cs l k).length ≤ k
  | 0 => Nat.le_refl _
  | k + 1 => by
    have := through_len cs l k
    unfold F_recirculate_Through_L1
    split
    · simp; omega
    · omega
theorem circlesF_rng {m : T_Mine} {f : List T_Span} {c : Int} (h : c ∈ circlesF m f) : 0 ≤ c ∧ c < m.Roads.length := by
  unfold circlesF at h
  split at h
  · obtain ⟨i, hi, rfl⟩ := List.mem_map.1 h
    have := List.mem_range.1 (List.mem_filter.1 hi).1
    omega
  · cases h
theorem through_eq (a : T_Air) (f : List T_Span) (hs : Sz a.Mine) (hl : a.Mine.Roads.length ≤ 1000000) (hf : FnR a.Fans) : F_recirculate_Through a f = some (thruF (circlesF a.Mine f) a.Fans) := by
  have hc := circlesF_len (m := a.Mine) (f := f)
  unfold F_recirculate_Through
  rw [circles_eq _ _ hs, bind_some]
  have e : ((circlesF a.Mine f).all (fun c => decide (-9223372036854775808 ≤ c ∧ c ≤ 9223372036854775807)) && (a.Fans.all (fun f => decide (-9223372036854775808 ≤ f.Road ∧ f.Road ≤ 9223372036854775807)) && (decide ((circlesF a.Mine f).length ≤ 1000000) && decide (a.Fans.length ≤ 1000000)))) = true := by
    simp only [Bool.and_eq_true, List.all_eq_true, decide_eq_true_eq]
    exact ⟨fun c h => by have := circlesF_rng h; omega, fun f h => hf.2 f h, by omega, by have := hf.1; omega⟩
  rw [e, cond_true]
  rfl
theorem rthrough_eq (a : T_Air) (f : List T_Span) (hs : Sz a.Mine) (hl : a.Mine.Roads.length ≤ 1000000) (hf : FnR a.Fans) : F_ref14_Through a f = some (thruF (circlesF a.Mine f) a.Fans) := by
  have hc := circlesF_len (m := a.Mine) (f := f)
  have hl2 := hf.1
  unfold F_ref14_Through
  rw [rcircles_eq _ _ hs, bind_some]
  have key : ∀ (m i : Nat), i + m = a.Fans.length → loopC (F_ref14_Through_L1 a (circlesF a.Mine f)) ((i : Int), F_recirculate_Through_L1 (circlesF a.Mine f) a.Fans i) = some (thruF (circlesF a.Mine f) a.Fans) := by
    intro m
    induction m with
    | zero =>
      intro i hi
      have : i = a.Fans.length := by omega
      subst this
      exact loopC_inr (by unfold F_ref14_Through_L1; dsimp only; rw [bif_neg (by omega)]; rfl)
    | succ m ih =>
      intro i hi
      have hlt : i < a.Fans.length := by omega
      have hx := List.getElem?_eq_getElem hlt
      have ht := through_len (circlesF a.Mine f) a.Fans i
      refine (loopC_inl ?_).trans (ih (i + 1) (by omega))
      unfold F_ref14_Through_L1
      dsimp only
      rw [bif_pos (by omega), getI_nat, hx, bind_some, bind_some, has_eq _ _ (by omega), bind_some]
      have e : F_recirculate_Through_L1 (circlesF a.Mine f) a.Fans (i + 1) = if a.Fans[i].Auxiliary = true ∧ a.Fans[i].Road ∈ circlesF a.Mine f then F_recirculate_Through_L1 (circlesF a.Mine f) a.Fans i ++ [(i : Int)] else F_recirculate_Through_L1 (circlesF a.Mine f) a.Fans i := by
        conv => lhs; unfold F_recirculate_Through_L1
        rw [hx]
        rfl
      rw [e]
      cases hA : a.Fans[i].Auxiliary with
      | false =>
        rw [cond_false, bind_some, cond_false, bind_some, if_neg (by simp), w64 (by omega) (by omega)]
        rfl
      | true =>
        rw [cond_true, bind_some]
        by_cases hm : a.Fans[i].Road ∈ circlesF a.Mine f
        · rw [decide_eq_true hm, cond_true, appI_ok (by simp; omega), bind_some, bind_some, if_pos ⟨rfl, hm⟩, w64 (by omega) (by omega)]
          rfl
        · rw [decide_eq_false hm, cond_false, bind_some, if_neg (fun h => hm h.2), w64 (by omega) (by omega)]
          rfl
  exact (congrArg (fun o => Option.bind o _) (key a.Fans.length 0 (by omega))).trans rfl
theorem thruF_len {cs : List Int} {l : List T_Fan} : (thruF cs l).length ≤ l.length := through_len _ _ _
theorem law_RecirculateMixes (p0 : List Int) (w0 : InL (In .u8) p0) (p1 : List T_Span) (w1 : InL T_Span.Wf p1) (p2 : T_Mine) (w2 : T_Mine.Wf p2) : F_law14_RecirculateMixes p0 p1 p2 = some true := by
  refine Ok.val ?_
  unfold F_law14_RecirculateMixes
  refine ok_bind (ok_pl (air_ok p0 (bytesOf w0)) (air_pl p0)) fun x1 h1' => ?_
  obtain ⟨h1, hF⟩ := h1'
  have hz := sz_of h1.m
  have hr := h1.m.r1
  have hf2 := hF.1
  rw [or_bif rfl, bind_some]
  refine ok_bind (Q := fun o : T_Mine => Sz o ∧ o.Places.length ≤ 12) (ok_dec (fun _ => ok_some ⟨⟨by simp, by simp⟩, by simp⟩) (fun h => ok_some ⟨⟨by omega, by omega⟩, by omega⟩)) fun o5 h5 => ?_
  obtain ⟨hz5, hr5⟩ := h5
  have := all_loop [x1.2.1, p1] (fun _ => false) (g := F_law14_RecirculateMixes_L1 p1 x1 o5) (fun i f hx => ?_) (by unfold F_law14_RecirculateMixes_L1; rw [bif_neg (by omega)])
  · rw [this, bind_some]
    simp only [List.all_cons, List.all_nil, Bool.not_false, Bool.and_self, if_pos]
    exact ok_awake (ok_some rfl)
  · have hi := (List.getElem?_eq_some_iff.1 hx).1
    simp only [List.length_cons, List.length_nil] at hi
    have hm1 := mixedF_len (m := x1.1.Mine) (f := f)
    have hm5 := mixedF_len (m := o5) (f := f)
    have ht := thruF_len (cs := circlesF x1.1.Mine f) (l := x1.1.Fans)
    have hp := h1.m.p2
    unfold F_law14_RecirculateMixes_L1
    rw [bif_pos (by simp only [List.length_cons, List.length_nil]; omega), getI_nat, hx, bind_some, mixed_eq _ _ hz, bind_some, rmixed_eq _ _ hz, bind_some, ints_same _ (by omega), bind_some, Bool.not_true, cond_false,
      through_eq _ _ hz (by omega) hF, bind_some, rthrough_eq _ _ hz (by omega) hF, bind_some, ints_same _ (by omega), bind_some, Bool.not_true, cond_false, mixed_eq _ _ hz5, bind_some, rmixed_eq _ _ hz5, bind_some, ints_same _ (by omega), bind_some, bind_some, Bool.not_true, cond_false, cond_false, w64 (by omega) (by omega)]
end Go.L
