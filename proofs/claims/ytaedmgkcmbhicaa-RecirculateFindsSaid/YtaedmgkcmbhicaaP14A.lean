/- Mines that are drawn: that they are made at all, and of what form they are. -/
import Derived.Test.YtaedmgkcmbhicaaPDrawB14
namespace Go.L
open Go Go.Aml

def RdOk (n : Nat) (r : T_Road) : Prop := 0 ≤ r.From ∧ r.From < (n : Int) ∧ 0 ≤ r.To ∧ r.To < (n : Int)
structure MnOk (m : T_Mine) : Prop where
  p1 : 1 ≤ m.Places.length
  p2 : m.Places.length ≤ 12
  r1 : m.Roads.length ≤ 20
  rd : ∀ r ∈ m.Roads, RdOk m.Places.length r
def FlOk (l : List Int) : Prop := ∀ q ∈ l, -1000 ≤ q ∧ q ≤ 1000
def CvOk (l : List T_Point) : Prop := 1 ≤ l.length ∧ l.length ≤ 5 ∧ ∀ p ∈ l, -1000 ≤ p.Flow ∧ p.Flow ≤ 1000

theorem mem_app1 {α : Type} {l : List α} {a x : α} (h : x ∈ l ++ [a]) : x ∈ l ∨ x = a := by
  rcases List.mem_append.1 h with h | h
  · exact .inl h
  · exact .inr (by simpa using h)
theorem road_ok (c : T_draw_Codes) (f t : Int) (hc : CodesOk c) : Ok (F_draw_Codes_Road c f t) fun r => CodesOk r.1 ∧ r.2.From = f ∧ r.2.To = t := by
  unfold F_draw_Codes_Road
  refine ok_bind (range_ok c 1 400 hc (by decide) (by decide) (by decide)) fun x1 h1 => ?_
  refine ok_bind (range_ok x1.1 4 30 h1.1 (by decide) (by decide) (by decide)) fun x3 h3 => ?_
  refine ok_bind (next_ok x3.1 4 h3.1) fun x5 h5 => ?_
  refine ok_bind (range_ok x5.1 1 20 h5.1 (by decide) (by decide) (by decide)) fun x7 h7 => ?_
  refine ok_bind (next_ok x7.1 3 h7.1) fun x9 h9 => ?_
  refine ok_bind (range_ok x9.1 (-300) 300 h9.1 (by decide) (by decide) (by decide)) fun x11 h11 => ?_
  refine ok_bind (next_ok x11.1 20 h11.1) fun x13 h13 => ?_
  exact ok_some ⟨h13.1, rfl, rfl⟩
theorem curve_ok (c : T_draw_Codes) (hc : CodesOk c) : Ok (F_draw_Codes_Curve c) fun r => CodesOk r.1 ∧ CvOk r.2 := by
  unfold F_draw_Codes_Curve
  refine ok_bind (range_ok c (-20) 10 hc (by decide) (by decide) (by decide)) fun x1 h1 => ?_
  refine ok_bind (range_ok x1.1 500 3000 h1.1 (by decide) (by decide) (by decide)) fun x3 h3 => ?_
  refine ok_bind (next_lt x3.1 4 h3.1 (by decide)) fun x5 h5 => ?_
  refine ok_bind (ok_loop (fun s : Int × List T_Point × T_draw_Codes => 0 ≤ s.1 ∧ 1 ≤ s.2.1.length ∧ (s.2.1.length : Int) + s.1 ≤ 4 ∧ CodesOk s.2.2 ∧ ∀ p ∈ s.2.1, -20 ≤ p.Flow ∧ p.Flow ≤ 50 * (s.2.1.length : Int)) (fun s => s.1.toNat) (fun r => CodesOk r.2 ∧ CvOk r.1) (fun s hs => ?_) _ ⟨h5.2.1, by simp, by simp; omega, h5.1, fun p hp => ?_⟩) fun o8 h8 => ok_some h8
  · obtain ⟨k, l, c⟩ := s
    obtain ⟨a1, a2, a3, a4, a5⟩ := hs
    dsimp only at a1 a2 a3 a4 a5
    unfold F_draw_Codes_Curve_L1
    dsimp only
    refine ok_dec (fun hk => ?_) (fun hk => ok_some ⟨a4, a2, by dsimp only; omega, fun p hp => by have := a5 p hp; omega⟩)
    rw [w64 (n := (l.length : Int) - 1) (by omega) (by omega)]
    refine ok_bind (ok_getI (by omega) (by omega)) fun x10 h10 => ?_
    have hx := a5 x10 (mem_get h10)
    refine ok_bind (range_ok c 1 40 a4 (by decide) (by decide) (by decide)) fun x12 h12 => ?_
    refine ok_bind (next_ok x12.1 900 h12.1) fun x14 h14 => ?_
    rw [appI_ok (by simp; omega), bind_some, w64 (n := k - 1) (by omega) (by omega), w64 (n := x10.Flow + x12.2) (by omega) (by omega)]
    refine ok_some ⟨⟨by dsimp only; omega, by simp, by simp; omega, h14.1, fun p hp => ?_⟩, by dsimp only; omega⟩
    have hlen : ((l ++ [T_Point.mk (x10.Flow + x12.2) (max 0 (IntKind.i64.wrap (x10.Pressure - x14.2)))]).length : Int) = l.length + 1 := by simp
    dsimp only at hp ⊢
    rw [hlen]
    rcases mem_app1 hp with h | h
    · have := a5 p h; omega
    · subst h
      dsimp only
      omega
  · simp at hp
    subst hp
    simp
    omega
def DrOk (d : T_Door) : Prop := 1 ≤ d.Rests.length ∧ d.Rests.length ≤ 4
theorem door_ok (c : T_draw_Codes) (r : Int) (hc : CodesOk c) : Ok (F_draw_Codes_Door c r) fun r => CodesOk r.1 ∧ DrOk r.2 := by
  unfold F_draw_Codes_Door
  refine ok_bind (range_ok c 200 900 hc (by decide) (by decide) (by decide)) fun x1 h1 => ?_
  refine ok_bind (range_ok x1.1 1 3 h1.1 (by decide) (by decide) (by decide)) fun x3 h3 => ?_
  refine ok_bind (ok_loop (fun s : Int × List Int × T_draw_Codes => 0 ≤ s.1 ∧ 1 ≤ s.2.1.length ∧ (s.2.1.length : Int) + s.1 ≤ 4 ∧ CodesOk s.2.2) (fun s => s.1.toNat) (fun r => CodesOk r.2 ∧ 1 ≤ r.1.length ∧ r.1.length ≤ 4) (fun s hs => ?_) _ ⟨by dsimp only; omega, by simp, by simp; omega, h3.1⟩) fun o8 h8 => ok_some ⟨h8.1, h8.2.1, h8.2.2⟩
  obtain ⟨k, l, c⟩ := s
  obtain ⟨a1, a2, a3, a4⟩ := hs
  dsimp only at a1 a2 a3 a4
  unfold F_draw_Codes_Door_L1
  dsimp only
  refine ok_dec (fun hk => ?_) (fun hk => ok_some ⟨a4, a2, by dsimp only; omega⟩)
  rw [w64 (n := (l.length : Int) - 1) (by omega) (by omega)]
  refine ok_bind (ok_getI (by omega) (by omega)) fun x10 h10 => ?_
  refine ok_bind (range_ok c 1 60 a4 (by decide) (by decide) (by decide)) fun x12 h12 => ?_
  rw [appI_ok (by simp; omega), bind_some, w64 (n := k - 1) (by omega) (by omega)]
  exact ok_some ⟨⟨by dsimp only; omega, by simp, by simp; omega, h12.1⟩, by dsimp only; omega⟩

/-- An air and its true states, of one form. -/
structure EqOk (a : T_Air) (s : T_Setting) : Prop where
  f1 : a.Fans.length ≤ 2
  f2 : s.Fans.length = a.Fans.length
  f3 : ∀ f ∈ a.Fans, CvOk f.Curve
  d1 : a.Doors.length ≤ 2
  d2 : s.Doors.length = a.Doors.length
  d3 : ∀ d ∈ a.Doors, DrOk d
theorem equipped_ok (c : T_draw_Codes) (m : T_Mine) (hc : CodesOk c) (hm : m.Roads.length ≤ 20) : Ok (F_draw_Codes_equipped c ⟨m, [], []⟩) fun r => CodesOk r.1 ∧ r.2.1.Mine = m ∧ EqOk r.2.1 r.2.2 := by
  unfold F_draw_Codes_equipped
  refine ok_bind (next_lt c 3 hc (by decide)) fun x2 h2 => ?_
  refine ok_bind (ok_loop (fun s : Int × List Int × T_draw_Codes × List T_Fan => 0 ≤ s.1 ∧ (s.2.2.2.length : Int) + s.1 ≤ 2 ∧ s.2.1.length = s.2.2.2.length ∧ CodesOk s.2.2.1 ∧ ∀ f ∈ s.2.2.2, CvOk f.Curve) (fun s => s.1.toNat)
    (fun r => r.2.2.length ≤ 2 ∧ r.1.length = r.2.2.length ∧ CodesOk r.2.1 ∧ ∀ f ∈ r.2.2, CvOk f.Curve) (fun s hs => ?_) _ ⟨h2.2.1, by simp; omega, rfl, h2.1, fun f hf => by cases hf⟩) fun o5 h5 => ?_
  · obtain ⟨k, l, c, fs⟩ := s
    obtain ⟨a1, a2, a3, a4, a5⟩ := hs
    dsimp only at a1 a2 a3 a4 a5
    unfold F_draw_Codes_equipped_L1
    dsimp only
    rw [and_bif rfl, bind_some]
    refine ok_dec (fun hk => ?_) (fun hk => ok_some ⟨by dsimp only; omega, a3, a4, a5⟩)
    refine ok_bind (next_ok c _ a4) fun x9 h9 => ?_
    refine ok_bind (one_ok x9.1 3 h9.1 (by decide)) fun x11 h11 => ?_
    refine ok_bind (one_ok x11.1 3 h11 (by decide)) fun x13 h13 => ?_
    refine ok_bind (curve_ok x13.1 h13) fun x15 h15 => ?_
    rw [appI_ok (by simp; omega), bind_some]
    refine ok_bind (next_ok x15.1 3 h15.1) fun x19 h19 => ?_
    rw [appI_ok (by simp; omega), bind_some, w64 (n := k - 1) (by omega) (by omega)]
    refine ok_some ⟨⟨by dsimp only; omega, by simp; omega, by simp [a3], h19.1, fun f hf => ?_⟩, by dsimp only; omega⟩
    rcases mem_app1 hf with h | h
    · exact a5 f h
    · subst h; exact h15.2
  obtain ⟨b1, b2, b3, b4⟩ := h5
  refine ok_bind (next_lt o5.2.1 3 b3 (by decide)) fun x24 h24 => ?_
  refine ok_bind (ok_loop (fun s : Int × T_Setting × T_draw_Codes × List T_Door => 0 ≤ s.1 ∧ (s.2.2.2.length : Int) + s.1 ≤ 2 ∧ s.2.1.Doors.length = s.2.2.2.length ∧ s.2.1.Fans = o5.1 ∧ CodesOk s.2.2.1 ∧ ∀ d ∈ s.2.2.2, DrOk d) (fun s => s.1.toNat)
    (fun r => r.2.2.length ≤ 2 ∧ r.1.Doors.length = r.2.2.length ∧ r.1.Fans = o5.1 ∧ CodesOk r.2.1 ∧ ∀ d ∈ r.2.2, DrOk d) (fun s hs => ?_) _ ⟨h24.2.1, by simp; omega, rfl, rfl, h24.1, fun f hf => by cases hf⟩) fun o27 h27 => ?_
  · obtain ⟨k, s, c, ds⟩ := s
    obtain ⟨a1, a2, a3, a4, a5, a6⟩ := hs
    dsimp only at a1 a2 a3 a4 a5 a6
    unfold F_draw_Codes_equipped_L2
    dsimp only
    refine ok_bind (Q := fun o => o.2 = s ∧ (o.1 = true → 0 < k)) (ok_dec (fun h => ok_some ⟨rfl, fun _ => h⟩) (fun _ => ok_some ⟨rfl, fun h => by cases h⟩)) fun o28 h28 => ?_
    obtain ⟨rfl, h28⟩ := h28
    refine ok_bif (fun hk => ?_) (fun hk => ok_some ⟨by dsimp only; omega, a3, a4, a5, a6⟩)
    have hk0 := h28 hk
    refine ok_bind (next_ok c _ a5) fun x31 h31 => ?_
    refine ok_bind (door_ok x31.1 _ h31.1) fun x33 h33 => ?_
    rw [appI_ok (by simp; omega), bind_some]
    refine ok_bind (next_ok x33.1 _ h33.1) fun x37 h37 => ?_
    rw [appI_ok (by simp; omega), bind_some, w64 (n := k - 1) (by omega) (by omega)]
    refine ok_some ⟨⟨by dsimp only; omega, by simp; omega, by simp [a3], a4, h37.1, fun d hd => ?_⟩, by dsimp only; omega⟩
    rcases mem_app1 hd with h | h
    · exact a6 d h
    · subst h; exact h33.2
  exact ok_some ⟨h27.2.2.2.1, rfl, ⟨b1, by dsimp only; rw [h27.2.2.1]; exact b2, b4, h27.1, h27.2.1, h27.2.2.2.2⟩⟩

theorem rest_ok (d : T_Door) (k : Int) (hd : DrOk d) : Ok (F_ref08_Rest d k) fun _ => True := by
  obtain ⟨h1, h2⟩ := hd
  unfold F_ref08_Rest
  rw [or_bif (or_bif rfl), bind_some]
  refine ok_dec (fun _ => ok_some trivial) (fun hn => ?_)
  refine ok_dec (fun hk => ?_) (fun hk => ?_)
  · refine ok_bind (ok_getI (by omega) (by omega)) fun _ _ => ?_
    exact ok_bind (ok_getI (by omega) (by omega)) fun _ _ => ok_some trivial
  · refine ok_bind (ok_getI (by omega) (by omega)) fun x _ => ?_
    refine ok_bind (ok_getI (by omega) (by omega)) fun y _ => ?_
    refine ok_bind (ok_loop (fun s : Int × T_Span => 0 ≤ s.1 ∧ s.1 ≤ d.Rests.length) (fun s => (d.Rests.length - s.1).toNat) (fun _ => True) (fun s hs => ?_) _ ⟨Int.le_refl _, by dsimp only; omega⟩) fun _ _ => ok_some trivial
    unfold F_ref08_Rest_L1
    refine ok_dec (fun hi => ?_) (fun hi => ok_some trivial)
    refine ok_bind (ok_getI hs.1 hi) fun x _ => ?_
    refine ok_bind (ok_getI hs.1 hi) fun y _ => ?_
    rw [w64 (by omega) (by omega)]
    exact ok_some ⟨⟨by dsimp only; omega, by dsimp only; omega⟩, by dsimp only; omega⟩
theorem floor_ok (a b : Int) (h : b ≠ 0) : Ok (F_ref05_Floor a b) fun _ => True := by
  unfold F_ref05_Floor
  rw [quoI_ok h, bind_some, remI_ok h, bind_some]
  exact ok_bind (Q := fun _ => True) (ok_dec (fun _ => ok_some trivial) (fun _ => ok_some trivial)) fun _ _ => ok_some trivial
theorem ceil_ok (a b : Int) (h : b ≠ 0) : Ok (F_ref05_Ceil a b) fun _ => True := by
  unfold F_ref05_Ceil
  exact ok_bind (floor_ok _ b h) fun _ _ => ok_some trivial
theorem inner_ok (f : T_Fan) (q : Int) (hf : CvOk f.Curve) : Ok (F_ref07_Inner f q) fun _ => True := by
  obtain ⟨h1, h2, h3⟩ := hf
  unfold F_ref07_Inner
  have e0 : getI f.Curve 0 = some f.Curve[0] := by rw [show (0 : Int) = ((0 : Nat) : Int) from rfl, getI_nat]; exact List.getElem?_eq_getElem h1
  rw [e0, bind_some]
  refine ok_dec (fun _ => ok_some trivial) (fun hq0 => ?_)
  rw [w64 (n := (f.Curve.length : Int) - 1) (by omega) (by omega)]
  refine ok_bind (ok_getI (by omega) (by omega)) fun xl hl => ?_
  refine ok_dec (fun _ => ?_) (fun hq1 => ?_)
  · refine ok_bind (ok_getI (by omega) (by omega)) fun _ _ => ?_
    exact ok_bind (ok_getI (by omega) (by omega)) fun _ _ => ok_some trivial
  refine ok_bind (Q := fun o : Int => 0 ≤ o ∧ o + 1 < f.Curve.length ∧ (∀ x, f.Curve[o.toNat]? = some x → x.Flow ≤ q) ∧ ∀ x, f.Curve[(o + 1).toNat]? = some x → q < x.Flow) (ok_loop (fun s : Int => 0 ≤ s ∧ s + 1 < f.Curve.length ∧ ∀ x, f.Curve[s.toNat]? = some x → x.Flow ≤ q) (fun s => (f.Curve.length - s).toNat) _ (fun s hs => ?_) _ ⟨Int.le_refl _, ?_, fun x hx => ?_⟩) fun o16 ho => ?_
  · obtain ⟨a1, a2, a3⟩ := hs
    unfold F_ref07_Inner_L1
    rw [w64 (n := s + 1) (by omega) (by omega)]
    refine ok_bind (ok_getI (by omega) (by omega)) fun x hx => ?_
    refine ok_dec (fun hle => ok_some ⟨⟨by omega, ?_, fun y hy => ?_⟩, by omega⟩) (fun hgt => ok_some ⟨a1, a2, a3, fun y hy => ?_⟩)
    · by_cases e : s + 1 + 1 < (f.Curve.length : Int)
      · exact e
      · have : s + 1 = (f.Curve.length : Int) - 1 := by omega
        rw [this, hl] at hx
        injection hx with hx
        subst hx
        omega
    · rw [hx] at hy
      injection hy with hy
      subst hy
      exact hle
    · rw [hx] at hy
      injection hy with hy
      subst hy
      omega
  · by_cases e : (0 : Int) + 1 < (f.Curve.length : Int)
    · exact e
    · have : (f.Curve.length : Int) - 1 = 0 := by omega
      rw [this] at hl
      have : f.Curve[0] = xl := by
        have h' : f.Curve[(0 : Int).toNat]? = some f.Curve[0] := List.getElem?_eq_getElem h1
        rw [hl] at h'
        injection h' with h'
        exact h'.symm
      rw [this] at hq0
      omega
  · have h' : f.Curve[(0 : Int).toNat]? = some f.Curve[0] := List.getElem?_eq_getElem h1
    rw [h'] at hx
    injection hx with hx
    subst hx
    omega
  · obtain ⟨a1, a2, a3, a4⟩ := ho
    refine ok_bind (ok_getI (by omega) (by omega)) fun x20 h20 => ?_
    rw [w64 (n := o16 + 1) (by omega) (by omega)]
    refine ok_bind (ok_getI (by omega) (by omega)) fun x22 h22 => ?_
    have c1 := a3 x20 h20
    have c2 := a4 x22 h22
    have c3 := h3 x20 (mem_get h20)
    have c4 := h3 x22 (mem_get h22)
    rw [w64 (n := x22.Flow - x20.Flow) (by omega) (by omega)]
    refine ok_bind (floor_ok _ _ (by omega)) fun _ _ => ?_
    exact ok_bind (ceil_ok _ _ (by omega)) fun _ _ => ok_some trivial
theorem along_ok (f : T_Fan) (b : Bool) (q : Int) (hf : CvOk f.Curve) : Ok (F_ref07_Along f b q) fun _ => True := by
  unfold F_ref07_Along
  exact ok_bif (fun _ => ok_bind (inner_ok f _ hf) fun _ _ => ok_some trivial) (fun _ => ok_bind (inner_ok f _ hf) fun _ _ => ok_some trivial)
theorem state_ok (f : T_Fan) (k q : Int) (hf : CvOk f.Curve) : Ok (F_ref07_State f k q) fun _ => True := by
  unfold F_ref07_State
  refine ok_dec (fun _ => ok_some trivial) (fun _ => ok_dec (fun _ => ok_bind (along_ok f _ q hf) fun _ _ => ok_some trivial) (fun _ => ok_dec (fun _ => ok_bind (along_ok f _ q hf) fun _ _ => ok_some trivial) (fun _ => ?_)))
  exact ok_bind (along_ok f _ q hf) fun _ _ => ok_bind (along_ok f _ q hf) fun _ _ => ok_some trivial

theorem fit_ok (c : T_draw_Codes) (a : T_Air) (s : T_Setting) (x : T_State) (hc : CodesOk c) (he : EqOk a s) (hm : MnOk a.Mine) (hf : x.Flows.length = a.Mine.Roads.length) (hp : x.Pressures.length = a.Mine.Places.length) :
    Ok (F_draw_Codes_fit c a s x) fun r => CodesOk r.1 ∧ MnOk r.2.Mine ∧ r.2.Mine.Roads.length = a.Mine.Roads.length := by
  obtain ⟨e1, e2, e3, e4, e5, e6⟩ := he
  obtain ⟨m1, m2, m3, m4⟩ := hm
  unfold F_draw_Codes_fit
  refine ok_bind (Q := fun o => CodesOk o.1 ∧ o.2.length = a.Mine.Roads.length ∧ ∀ r ∈ o.2, RdOk a.Mine.Places.length r) (ok_loop (fun t : Int × T_draw_Codes × List T_Road => 0 ≤ t.1 ∧ t.1 ≤ a.Mine.Roads.length ∧ t.2.2.length = a.Mine.Roads.length ∧ CodesOk t.2.1 ∧ ∀ r ∈ t.2.2, RdOk a.Mine.Places.length r) (fun t => (a.Mine.Roads.length - t.1).toNat) _ (fun t ht => ?_) _ ⟨Int.le_refl _, by dsimp only; omega, rfl, hc, m4⟩) fun o ho => ok_some ⟨ho.1, ⟨m1, m2, by dsimp only; omega, ho.2.2⟩, ho.2.1⟩
  obtain ⟨i, c, l⟩ := t
  obtain ⟨a1, a2, a3, a4, a5⟩ := ht
  dsimp only at a1 a2 a3 a4 a5
  unfold F_draw_Codes_fit_L1
  dsimp only
  refine ok_dec (fun hi => ?_) (fun hi => ok_some ⟨a4, a3, a5⟩)
  refine ok_bind (ok_getI a1 hi) fun x7 h7 => ?_
  refine ok_bind (ok_getI a1 (by omega)) fun x9 h9 => ?_
  refine ok_bind (next_ok c _ a4) fun x11 h11 => ?_
  have hr := a5 x7 (mem_get h7)
  obtain ⟨r1, r2, r3, r4⟩ := hr
  refine ok_bind (Q := fun _ => True) (ok_loop (fun t : Int × Int => 0 ≤ t.2 ∧ t.2 ≤ a.Doors.length) (fun t => (a.Doors.length - t.2).toNat) _ (fun t ht => ?_) _ ⟨Int.le_refl _, by dsimp only; omega⟩) fun o14 _ => ?_
  · unfold F_draw_Codes_fit_L2
    obtain ⟨v, k⟩ := t
    dsimp only at ht ⊢
    refine ok_dec (fun hk => ?_) (fun _ => ok_some trivial)
    refine ok_bind (Q := fun _ => True) (ok_bind (ok_getI ht.1 hk) fun x17 h17 => ok_dec (fun _ => ?_) (fun _ => ok_some trivial)) fun _ _ => ?_
    · refine ok_bind (ok_getI ht.1 hk) fun x20 h20 => ?_
      refine ok_bind (ok_getI ht.1 (by omega)) fun x22 h22 => ?_
      exact ok_bind (rest_ok x20 x22 (e6 x20 (mem_get h20))) fun _ _ => ok_some trivial
    · rw [w64 (by omega) (by omega)]
      exact ok_some ⟨⟨by dsimp only; omega, by dsimp only; omega⟩, by dsimp only; omega⟩
  · rw [h7, bind_some]
    refine ok_bind (ok_getI r1 (by omega)) fun x28 h28 => ?_
    refine ok_bind (ok_getI r3 (by omega)) fun x30 h30 => ?_
    refine ok_bind (Q := fun _ => True) (ok_loop (fun t : Int × Int => 0 ≤ t.2 ∧ t.2 ≤ a.Fans.length) (fun t => (a.Fans.length - t.2).toNat) _ (fun t ht => ?_) _ ⟨Int.le_refl _, by dsimp only; omega⟩) fun o33 _ => ?_
    · unfold F_draw_Codes_fit_L3
      obtain ⟨v, k⟩ := t
      dsimp only at ht ⊢
      refine ok_dec (fun hk => ?_) (fun _ => ok_some trivial)
      refine ok_bind (Q := fun _ => True) (ok_bind (ok_getI ht.1 hk) fun x17 h17 => ok_dec (fun _ => ?_) (fun _ => ok_some trivial)) fun _ _ => ?_
      · refine ok_bind (ok_getI ht.1 hk) fun x20 h20 => ?_
        refine ok_bind (ok_getI ht.1 (by omega)) fun x22 h22 => ?_
        exact ok_bind (state_ok x20 x22 _ (e3 x20 (mem_get h20))) fun _ _ => ok_some trivial
      · rw [w64 (by omega) (by omega)]
        exact ok_some ⟨⟨by dsimp only; omega, by dsimp only; omega⟩, by dsimp only; omega⟩
    · refine ok_bind (next_ok x11.1 30 h11.1) fun x45 h45 => ?_
      refine ok_bind (next_ok x45.1 30 h45.1) fun x47 h47 => ?_
      rw [bind_some, w64 (n := i + 1) (by omega) (by omega)]
      refine ok_some ⟨⟨by dsimp only; omega, by dsimp only; omega, by rw [List.length_set]; exact a3, h47.1, fun r hr => ?_⟩, by dsimp only; omega⟩
      rcases List.mem_or_eq_of_mem_set hr with h | h
      · exact a5 r h
      · subst h; exact ⟨r1, r2, r3, r4⟩
theorem doubts_ok (c : T_draw_Codes) (a : T_Air) (s : T_Setting) (hc : CodesOk c) (h1 : s.Fans.length ≤ 100) (h2 : s.Doors.length ≤ 100) : Ok (F_draw_Codes_doubts c a s) fun r => CodesOk r.1 := by
  unfold F_draw_Codes_doubts
  refine ok_bind (Q := fun o => CodesOk o.2) (ok_loop (fun t : Int × List Int × T_draw_Codes => 0 ≤ t.1 ∧ t.1 ≤ s.Fans.length ∧ (t.2.1.length : Int) = t.1 ∧ CodesOk t.2.2) (fun t => (s.Fans.length - t.1).toNat) _ (fun t ht => ?_) _ ⟨Int.le_refl _, by dsimp only; omega, rfl, hc⟩) fun o2 ho2 => ?_
  · obtain ⟨i, l, c⟩ := t
    obtain ⟨a1, a2, a3, a4⟩ := ht
    dsimp only at a1 a2 a3 a4
    unfold F_draw_Codes_doubts_L1
    dsimp only
    refine ok_dec (fun hi => ?_) (fun _ => ok_some a4)
    refine ok_bind (ok_getI a1 hi) fun x4 _ => ?_
    refine ok_bind (one_ok c 5 a4 (by decide)) fun x6 h6 => ?_
    refine ok_bind (Q := fun _ => True) (ok_bif (fun _ => ok_some trivial) (fun _ => ok_some trivial)) fun o8 _ => ?_
    rw [appI_ok (by simp; omega), bind_some, w64 (by omega) (by omega)]
    exact ok_some ⟨⟨by dsimp only; omega, by dsimp only; omega, by simp; omega, h6⟩, by dsimp only; omega⟩
  refine ok_bind (Q := fun o => CodesOk o.2) (ok_loop (fun t : Int × T_Setting × T_draw_Codes => 0 ≤ t.1 ∧ t.1 ≤ s.Doors.length ∧ (t.2.1.Doors.length : Int) = t.1 ∧ CodesOk t.2.2) (fun t => (s.Doors.length - t.1).toNat) _ (fun t ht => ?_) _ ⟨Int.le_refl _, by dsimp only; omega, rfl, ho2⟩) fun o13 ho13 => ok_some ho13
  obtain ⟨i, l, c⟩ := t
  obtain ⟨a1, a2, a3, a4⟩ := ht
  dsimp only at a1 a2 a3 a4
  unfold F_draw_Codes_doubts_L2
  dsimp only
  refine ok_dec (fun hi => ?_) (fun _ => ok_some a4)
  refine ok_bind (ok_getI a1 hi) fun x4 _ => ?_
  refine ok_bind (one_ok c 5 a4 (by decide)) fun x6 h6 => ?_
  refine ok_bind (Q := fun o => o.2 = l) (ok_bif (fun _ => ok_some rfl) (fun _ => ok_some rfl)) fun o8 h8 => ?_
  rw [h8, appI_ok (by simp; omega), bind_some, w64 (by omega) (by omega)]
  exact ok_some ⟨⟨by dsimp only; omega, by dsimp only; omega, by simp; omega, h6⟩, by dsimp only; omega⟩
end Go.L
