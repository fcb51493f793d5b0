/- Mines that are drawn are right: the whole. -/
import Derived.Test.YtaedmgkcmbhicaaP14I
namespace Go.L
open Go Go.Aml

def RV (r : T_Road) : Prop := r.From ≠ r.To ∧ RvOk r ∧ LvOk r
def PlV (l : List T_Place) : Prop := ∀ p ∈ l, plErr p = false
theorem plErr_of {p : T_Place} (h0 : -10000 ≤ p.Height) (h1 : p.Height ≤ 10000) : plErr p = false := by
  unfold plErr
  exact decide_eq_false (by omega)
theorem tmod_ne {a x : Int} {n : Nat} (ha : 0 ≤ a) (hx0 : 0 ≤ x) (hx1 : x < (n : Int) - 1) : (a + 1 + x).tmod n ≠ a := by
  intro h
  have e := Int.mul_tdiv_add_tmod (a + 1 + x) n
  rw [h] at e
  by_cases hq : (a + 1 + x).tdiv n ≤ 0
  · have := Int.mul_le_mul_of_nonneg_left hq (show (0 : Int) ≤ n by omega)
    rw [Int.mul_zero] at this
    omega
  · have := Int.mul_le_mul_of_nonneg_left (show (1 : Int) ≤ (a + 1 + x).tdiv n by omega) (show (0 : Int) ≤ n by omega)
    rw [Int.mul_one] at this
    omega
theorem rd_app' {P : T_Road → Prop} {l : List T_Road} {q : T_Road} (h : ∀ r ∈ l, P r) (hq : P q) : ∀ r ∈ l ++ [q], P r := fun x hx => by
  rcases mem_app1 hx with h' | h'
  · exact h x h'
  · subst h'; exact hq
structure MdV (pls : List T_Place) (net : List Int) (a : T_Air) (x : T_State) (c : T_draw_Codes) (b k : Nat) : Prop where
  s : MdS pls.length net a x c b k
  pe : a.Mine.Places = pls
  rv : ∀ r ∈ a.Mine.Roads, RV r
  pb : ∀ p ∈ x.Pressures, -4000 ≤ p ∧ p ≤ 4000
theorem vmade_L3 (o10 : List T_Place × T_draw_Codes) (hn : 2 ≤ o10.1.length) (hn2 : o10.1.length ≤ 12) (s : Int × List Int × T_Air × T_State × T_draw_Codes) (k0 : Nat) (hk : s.1 = (k0 : Int)) (hk5 : k0 ≤ 5) (hs : MdV o10.1 s.2.1 s.2.2.1 s.2.2.2.1 s.2.2.2.2 (5 - k0) (5 - k0)) :
    Ok (loopC (F_draw_Codes_Made_L3 o10) s) fun r => MdV o10.1 r.1 r.2.1 r.2.2.1 r.2.2.2 5 5 := by
  refine ok_loop (fun s : Int × List Int × T_Air × T_State × T_draw_Codes => ∃ k : Nat, s.1 = (k : Int) ∧ k ≤ 5 ∧ MdV o10.1 s.2.1 s.2.2.1 s.2.2.2.1 s.2.2.2.2 (5 - k) (5 - k)) (fun s => s.1.toNat) _ (fun s hs => ?_) _ ⟨k0, hk, hk5, hs⟩
  obtain ⟨k', net, a, x, c⟩ := s
  obtain ⟨k, hkk, hk5, ⟨hs, pe, rv, pb⟩⟩ := hs
  dsimp only at hkk hs pe rv pb
  subst hkk
  obtain ⟨m1, m2, m3, m4, m5, m6, m7, m8, m9⟩ := hs
  unfold F_draw_Codes_Made_L3
  dsimp only
  refine ok_dec (fun hk => ?_) (fun hk => ok_some ⟨⟨m1, fun q hq => by have := m2 q hq; omega, m3, by dsimp only; omega, m5, m6, m7, m8, m9⟩, pe, rv, pb⟩)
  refine ok_bind (next_lt c _ m9 (by omega)) fun x34 h34 => ?_
  rw [w64 (n := (o10.1.length : Int) - 1) (by omega) (by omega)]
  refine ok_bind (next_lt x34.1 _ h34.1 (by omega)) fun x36 h36 => ?_
  rw [w64 (n := x34.2 + 1) (by omega) (by omega), w64 (n := x34.2 + 1 + x36.2) (by omega) (by omega)]
  obtain ⟨q1, q2, q3⟩ := rem_lt (v := x34.2 + 1 + x36.2) (n := o10.1.length) (by omega) (by omega)
  have hne := tmod_ne (a := x34.2) (x := x36.2) (n := o10.1.length) h34.2.1 h36.2.1 h36.2.2
  rw [q1, bind_some]
  refine ok_bind (vroad_ok x36.1 _ _ h36.1) fun x40 h40 => ?_
  refine ok_bind (one_ok x40.1 7 h40.1 (by decide)) fun x42 h42 => ?_
  refine ok_bind (range_ok x42.1 (-60) 60 h42 (by decide) (by decide) (by decide)) fun x44 h44 => ?_
  refine ok_bind (Q := fun o : Int × T_Air × T_State => -60 ≤ o.1 ∧ o.1 ≤ 60 ∧ o.2.1.Mine = a.Mine ∧ o.2.2 = x) (ok_bif (fun _ => ok_some ⟨by show (-60 : Int) ≤ 0; decide, by show (0 : Int) ≤ 60; decide, rfl, rfl⟩) (fun _ => ok_some ⟨h44.2.1, h44.2.2, rfl, rfl⟩)) fun o46 h46 => ?_
  obtain ⟨b1, b2, b3, b4⟩ := h46
  have hRd : RdOk o10.1.length (T_Road.mk x40.2.From x40.2.To x40.2.Length x40.2.Area x40.2.Walk x42.2 x40.2.Rest x40.2.Lift) := ⟨by show 0 ≤ x40.2.From; rw [h40.2.1]; omega, by show x40.2.From < _; rw [h40.2.1]; omega, by show 0 ≤ x40.2.To; rw [h40.2.2.1]; omega, by show x40.2.To < _; rw [h40.2.2.1]; omega⟩
  have hRV : RV (T_Road.mk x40.2.From x40.2.To x40.2.Length x40.2.Area x40.2.Walk x42.2 x40.2.Rest x40.2.Lift) := ⟨by show x40.2.From ≠ x40.2.To; rw [h40.2.1, h40.2.2.1]; exact Ne.symm hne, h40.2.2.2.1, h40.2.2.2.2⟩
  obtain ⟨r1, r2, r3, r4⟩ := hRd
  dsimp only at r1 r2 r3 r4
  rw [b3, appI_ok (by simp; omega), bind_some, b4, appI_ok (by simp; omega), bind_some]
  refine ok_bind (ok_getI r1 (by omega)) fun x52 h52 => ?_
  refine ok_bind (ok_getI r1 (by omega)) fun x54 h54 => ?_
  have n52 := m2 x52 (mem_get h52)
  rw [w64 (n := x52 + o46.1) (by omega) (by omega)]
  refine ok_bind (ok_getI r3 (by rw [List.length_set]; omega)) fun x56 h56 => ?_
  refine ok_bind (ok_getI r3 (by rw [List.length_set]; omega)) fun x58 h58 => ?_
  have n1 : ∀ q ∈ net.set x40.2.From.toNat (x52 + o46.1), -(120 * ((5 - k : Nat) : Int) + 60) ≤ q ∧ q ≤ 120 * ((5 - k : Nat) : Int) + 60 := fun q hq => by
    rcases List.mem_or_eq_of_mem_set hq with h | h
    · have := m2 q h; omega
    · subst h; omega
  have n56 := n1 x56 (mem_get h56)
  rw [w64 (n := x56 - o46.1) (by omega) (by omega), w64 (n := (k : Int) - 1) (by omega) (by omega)]
  refine ok_some ⟨⟨k - 1, by dsimp only; omega, by omega, ⟨⟨by rw [List.length_set, List.length_set]; exact m1, fun q hq => ?_, m3, by simp; omega, rd_app m5 ⟨r1, r2, r3, r4⟩, by simp [m6], fl_app m7 (by omega), m8, h44.1⟩, pe, rd_app' rv hRV, pb⟩⟩, by dsimp only; omega⟩
  rcases List.mem_or_eq_of_mem_set hq with h | h
  · have := n1 q h; omega
  · subst h; omega
theorem vmade_L4 (o3 : List T_Place) (o10 : List T_Place × T_draw_Codes) (o27 : List Int × T_Air × T_State × T_draw_Codes) (h3 : 1 ≤ o3.length) (h32 : o3.length ≤ o10.1.length) (hn2 : o10.1.length ≤ 12) (hs : MdV o10.1 o27.1 o27.2.1 o27.2.2.1 o27.2.2.2 5 5) :
    Ok (loopC (F_draw_Codes_Made_L4 o3 o10 o27) ((o3.length : Int), (T_Air.mk o27.2.1.Mine [] []), o27.2.2.1, o27.2.2.2)) fun r => MdV o10.1 o27.1 r.1 r.2.1 r.2.2 5 17 := by
  obtain ⟨⟨m1, m2, m3, m4, m5, m6, m7, m8, m9⟩, pe, rv, pb⟩ := hs
  refine ok_loop (fun s : Int × T_Air × T_State × T_draw_Codes => ∃ i : Nat, s.1 = (i : Int) ∧ o3.length ≤ i ∧ i ≤ o10.1.length ∧ MdV o10.1 o27.1 s.2.1 s.2.2.1 s.2.2.2 5 (5 + i)) (fun s => (o10.1.length - s.1).toNat) _ (fun s hs => ?_) _ ⟨o3.length, rfl, Nat.le_refl _, h32, ⟨⟨m1, m2, m3, by dsimp only; omega, m5, m6, m7, m8, m9⟩, pe, rv, pb⟩⟩
  obtain ⟨i', a, x, c⟩ := s
  obtain ⟨i, hii, hi3, hil, ⟨hs, pe, rv, pb⟩⟩ := hs
  dsimp only at hii hs pe rv pb
  subst hii
  obtain ⟨m1, m2, m3, m4, m5, m6, m7, m8, m9⟩ := hs
  unfold F_draw_Codes_Made_L4
  dsimp only
  refine ok_dec (fun hk => ?_) (fun hk => ok_some ⟨⟨m1, m2, m3, by dsimp only; omega, m5, m6, m7, m8, m9⟩, pe, rv, pb⟩)
  refine ok_bind (next_lt c _ m9 (by omega)) fun x63 h63 => ?_
  refine ok_bind (vroad_ok x63.1 _ _ h63.1) fun x65 h65 => ?_
  refine ok_bind (ok_getI (by omega) (by omega)) fun x67 h67 => ?_
  have n67 := m2 x67 (mem_get h67)
  refine ok_bind (one_ok x65.1 2 h65.1 (by decide)) fun x69 h69 => ?_
  rw [w64 (n := 0 - x67) (by omega) (by omega), w64 (n := 0 - (0 - x67)) (by omega) (by omega)]
  have hR : RdOk o10.1.length x65.2 := ⟨by rw [h65.2.1]; omega, by rw [h65.2.1]; omega, by rw [h65.2.2.1]; omega, by rw [h65.2.2.1]; omega⟩
  have hV : RV x65.2 := ⟨by rw [h65.2.1, h65.2.2.1]; omega, h65.2.2.2.1, h65.2.2.2.2⟩
  refine ok_bind (Q := fun o : Int × T_Road × T_Air × T_State => -1000 ≤ o.1 ∧ o.1 ≤ 1000 ∧ RdOk o10.1.length o.2.1 ∧ RV o.2.1 ∧ o.2.2.1.Mine = a.Mine ∧ o.2.2.2 = x) (ok_bif (fun _ => ok_some ⟨by dsimp only; omega, by dsimp only; omega, ⟨hR.2.2.1, hR.2.2.2, hR.1, hR.2.1⟩, ⟨fun h => hV.1 h.symm, hV.2.1, hV.2.2⟩, rfl, rfl⟩) (fun _ => ok_some ⟨by dsimp only; omega, by dsimp only; omega, hR, hV, rfl, rfl⟩)) fun o71 h71 => ?_
  obtain ⟨b1, b2, b3, b3', b4, b5⟩ := h71
  rw [b4, appI_ok (by simp; omega), bind_some, b5, appI_ok (by simp; omega), bind_some, w64 (by omega) (by omega)]
  exact ok_some ⟨⟨i + 1, by dsimp only; omega, by omega, by omega, ⟨⟨m1, m2, m3, by simp; omega, rd_app m5 b3, by simp [m6], fl_app m7 ⟨b1, b2⟩, m8, h69⟩, pe, rd_app' rv b3', pb⟩⟩, by dsimp only; omega⟩
theorem vfit_ok (c : T_draw_Codes) (a : T_Air) (s : T_Setting) (x : T_State) (hc : CodesOk c) (he : EqV a s) (hm : MnOk a.Mine) (hf : x.Flows.length = a.Mine.Roads.length) (hp : x.Pressures.length = a.Mine.Places.length) (hfb : FlOk x.Flows) (hpb : ∀ p ∈ x.Pressures, -4000 ≤ p ∧ p ≤ 4000) (hrv : ∀ r ∈ a.Mine.Roads, RV r) :
    Ok (F_draw_Codes_fit c a s x) fun r => CodesOk r.1 ∧ MnOk r.2.Mine ∧ r.2.Mine.Roads.length = a.Mine.Roads.length ∧ r.2.Mine.Places = a.Mine.Places ∧ ∀ r' ∈ r.2.Mine.Roads, RV r' := by
  obtain ⟨e1, e2, e3, e4, e5, e6⟩ := he
  obtain ⟨m1, m2, m3, m4⟩ := hm
  unfold F_draw_Codes_fit
  refine ok_bind (Q := fun o => CodesOk o.1 ∧ o.2.length = a.Mine.Roads.length ∧ (∀ r ∈ o.2, RdOk a.Mine.Places.length r) ∧ ∀ r ∈ o.2, RV r) (ok_loop (fun t : Int × T_draw_Codes × List T_Road => 0 ≤ t.1 ∧ t.1 ≤ a.Mine.Roads.length ∧ t.2.2.length = a.Mine.Roads.length ∧ CodesOk t.2.1 ∧ (∀ r ∈ t.2.2, RdOk a.Mine.Places.length r) ∧ ∀ r ∈ t.2.2, RV r) (fun t => (a.Mine.Roads.length - t.1).toNat) _ (fun t ht => ?_) _ ⟨Int.le_refl _, by dsimp only; omega, rfl, hc, m4, hrv⟩) fun o ho => ok_some ⟨ho.1, ⟨m1, m2, by dsimp only; omega, ho.2.2.1⟩, ho.2.1, rfl, ho.2.2.2⟩
  obtain ⟨i, c, l⟩ := t
  obtain ⟨a1, a2, a3, a4, a5, a6⟩ := ht
  dsimp only at a1 a2 a3 a4 a5 a6
  unfold F_draw_Codes_fit_L1
  dsimp only
  refine ok_dec (fun hi => ?_) (fun hi => ok_some ⟨a4, a3, a5, a6⟩)
  refine ok_bind (ok_getI a1 hi) fun x7 h7 => ?_
  refine ok_bind (ok_getI a1 (by omega)) fun x9 h9 => ?_
  have hq := hfb x9 (mem_get h9)
  have hr := a5 x7 (mem_get h7)
  obtain ⟨v1, v2, v3⟩ := a6 x7 (mem_get h7)
  have v2' := v2
  obtain ⟨u1, u2, u3, u4, u5, u6, u7, u8⟩ := v2'
  rw [w64 (n := x7.Rest.High - x7.Rest.Low) (by omega) (by omega), w64 (n := x7.Rest.High - x7.Rest.Low + 1) (by omega) (by omega)]
  refine ok_bind (next_lt c _ a4 (by omega)) fun x11 h11 => ?_
  obtain ⟨r1, r2, r3, r4⟩ := hr
  rw [w64 (n := x7.Rest.Low + x11.2) (by omega) (by omega)]
  refine ok_bind (Q := fun o => 0 ≤ o ∧ o ≤ 1900) (ok_loop (fun t : Int × Int => 0 ≤ t.2 ∧ t.2 ≤ a.Doors.length ∧ 0 ≤ t.1 ∧ t.1 ≤ 23 + 900 * t.2) (fun t => (a.Doors.length - t.2).toNat) _ (fun t ht => ?_) _ ⟨Int.le_refl _, by dsimp only; omega, by dsimp only; omega, by dsimp only; omega⟩) fun o14 ho14 => ?_
  · unfold F_draw_Codes_fit_L2
    obtain ⟨v, k⟩ := t
    obtain ⟨t1, t2, t3, t4⟩ := ht
    dsimp only at t1 t2 t3 t4 ⊢
    refine ok_dec (fun hk => ?_) (fun _ => ok_some ⟨t3, by omega⟩)
    refine ok_bind (Q := fun o => 0 ≤ o ∧ o ≤ 23 + 900 * k + 900) (ok_bind (ok_getI t1 hk) fun x17 h17 => ok_dec (fun _ => ?_) (fun _ => ok_some ⟨t3, by omega⟩)) fun o ho => ?_
    · refine ok_bind (ok_getI t1 hk) fun x20 h20 => ?_
      refine ok_bind (ok_getI t1 (by omega)) fun x22 h22 => ?_
      refine ok_bind (vrest_ok x20 x22 (e6 x20 (mem_get h20))) fun z hz => ?_
      rw [w64 (by omega) (by omega)]
      exact ok_some ⟨by omega, by omega⟩
    · rw [w64 (n := k + 1) (by omega) (by omega)]
      exact ok_some ⟨⟨by dsimp only; omega, by dsimp only; omega, ho.1, by dsimp only; omega⟩, by dsimp only; omega⟩
  · rw [h7, bind_some]
    refine ok_bind (ok_getI r1 (by omega)) fun x28 h28 => ?_
    refine ok_bind (ok_getI r3 (by omega)) fun x30 h30 => ?_
    have p28 := hpb x28 (mem_get h28)
    have p30 := hpb x30 (mem_get h30)
    have hm1 := mul_bd (a := o14) (b := max x9 (0 - x9)) (A := 1900) (B := 1000) ho14.1 ho14.2 (by omega) (by omega) (by decide)
    have hm2 := mul_bd2 (a := o14 * max x9 (0 - x9)) (b := x9) (A := 1900000) (B := 1000) (by omega) (by omega) (by omega) (by omega) (by decide)
    rw [w64 (n := 0 - x9) (by omega) (by omega), w64 (n := o14 * max x9 (0 - x9)) (by omega) (by omega), w64 (n := o14 * max x9 (0 - x9) * x9) (by omega) (by omega), w64 (n := x28 - x30) (by omega) (by omega), w64 (n := o14 * max x9 (0 - x9) * x9 - (x28 - x30)) (by omega) (by omega)]
    refine ok_bind (Q := fun o => -2000000000 ≤ o ∧ o ≤ 2000000000) (ok_loop (fun t : Int × Int => 0 ≤ t.2 ∧ t.2 ≤ a.Fans.length ∧ -(1900008000 + 6010000 * t.2) ≤ t.1 ∧ t.1 ≤ 1900008000 + 6010000 * t.2) (fun t => (a.Fans.length - t.2).toNat) _ (fun t ht => ?_) _ ⟨Int.le_refl _, by dsimp only; omega, by dsimp only; omega, by dsimp only; omega⟩) fun o33 ho33 => ?_
    · unfold F_draw_Codes_fit_L3
      obtain ⟨v, k⟩ := t
      obtain ⟨t1, t2, t3, t4⟩ := ht
      dsimp only at t1 t2 t3 t4 ⊢
      refine ok_dec (fun hk => ?_) (fun _ => ok_some ⟨by omega, by omega⟩)
      refine ok_bind (Q := fun o => -(1900008000 + 6010000 * k + 6010000) ≤ o ∧ o ≤ 1900008000 + 6010000 * k + 6010000) (ok_bind (ok_getI t1 hk) fun x17 h17 => ok_dec (fun _ => ?_) (fun _ => ok_some ⟨by omega, by omega⟩)) fun o ho => ?_
      · refine ok_bind (ok_getI t1 hk) fun x20 h20 => ?_
        refine ok_bind (ok_getI t1 (by omega)) fun x22 h22 => ?_
        refine ok_bind (vstate_ok x20 x22 _ (e3 x20 (mem_get h20)) hq.1 hq.2) fun z hz => ?_
        rw [w64 (by omega) (by omega)]
        exact ok_some ⟨by omega, by omega⟩
      · rw [w64 (n := k + 1) (by omega) (by omega)]
        exact ok_some ⟨⟨by dsimp only; omega, by dsimp only; omega, by dsimp only; omega, by dsimp only; omega⟩, by dsimp only; omega⟩
    · refine ok_bind (next_lt x11.1 30 h11.1 (by decide)) fun x45 h45 => ?_
      refine ok_bind (next_lt x45.1 30 h45.1 (by decide)) fun x47 h47 => ?_
      rw [bind_some, w64 (n := i + 1) (by omega) (by omega), w64 (n := o33 - x45.2) (by omega) (by omega), w64 (n := o33 + x47.2) (by omega) (by omega)]
      refine ok_some ⟨⟨by dsimp only; omega, by dsimp only; omega, by rw [List.length_set]; exact a3, h47.1, fun r hr => ?_, fun r hr => ?_⟩, by dsimp only; omega⟩
      · rcases List.mem_or_eq_of_mem_set hr with h | h
        · exact a5 r h
        · subst h; exact ⟨r1, r2, r3, r4⟩
      · rcases List.mem_or_eq_of_mem_set hr with h | h
        · exact a6 r h
        · subst h; exact ⟨v1, v2, by dsimp only; omega, by dsimp only; omega, by dsimp only; omega⟩
/-- A mine that is right. -/
def MnV (m : T_Mine) : Prop := (PlV m.Places ∧ ∀ r ∈ m.Roads, RV r) ∧ m.Places.length ≤ 7
theorem vmade_ok (c : T_draw_Codes) (hc : CodesOk c) : Ok (F_draw_Codes_Made c) fun r => MnV r.2.1.Mine := by
  unfold F_draw_Codes_Made
  refine ok_bind (one_ok c 3 hc (by decide)) fun x1 h1 => ?_
  refine ok_bind (Q := fun o : List T_Place => 1 ≤ o.length ∧ o.length ≤ 2 ∧ PlV o) (ok_bif (fun _ => ?_) (fun _ => ok_some ⟨by simp, by simp, fun p hp => by simp at hp; subst hp; rfl⟩)) fun o3 h3 => ?_
  · rw [appI_ok (by simp), bind_some]
    refine ok_some ⟨by simp, by simp, fun p hp => ?_⟩
    simp at hp
    rcases hp with rfl | rfl <;> rfl
  refine ok_bind (next_lt x1.1 5 h1 (by decide)) fun x7 h7 => ?_
  refine ok_bind (Q := fun o : List T_Place × T_draw_Codes => o3.length ≤ o.1.length ∧ o.1.length ≤ 6 ∧ CodesOk o.2 ∧ PlV o.1) (ok_loop (fun s : Int × List T_Place × T_draw_Codes => 0 ≤ s.1 ∧ o3.length ≤ s.2.1.length ∧ (s.2.1.length : Int) + s.1 ≤ 6 ∧ CodesOk s.2.2 ∧ PlV s.2.1) (fun s => s.1.toNat) _ (fun s hs => ?_) _ ⟨h7.2.1, Nat.le_refl _, by dsimp only; omega, h7.1, h3.2.2⟩) fun o10 h10 => ?_
  · obtain ⟨k, l, c⟩ := s
    obtain ⟨a1, a2, a3, a4, a5⟩ := hs
    dsimp only at a1 a2 a3 a4 a5
    unfold F_draw_Codes_Made_L1
    dsimp only
    refine ok_dec (fun hk => ?_) (fun hk => ok_some ⟨a2, by dsimp only; omega, a4, a5⟩)
    refine ok_bind (next_lt c 100 a4 (by decide)) fun x12 h12 => ?_
    rw [appI_ok (by simp; omega), bind_some, w64 (n := k - 1) (by omega) (by omega), w64 (n := 0 - x12.2) (by omega) (by omega)]
    refine ok_some ⟨⟨by dsimp only; omega, by simp; omega, by simp; omega, h12.1, fun p hp => ?_⟩, by dsimp only; omega⟩
    rcases mem_app1 hp with h | h
    · exact a5 p h
    · subst h; exact plErr_of (by dsimp only; omega) (by dsimp only; omega)
  obtain ⟨p1, p2, p3, p4⟩ := h10
  rw [makI_ok (by omega) (by omega), bind_some, Int.toNat_natCast]
  refine ok_bind (Q := fun o : List Int × T_draw_Codes => o.1.length = o10.1.length ∧ CodesOk o.2 ∧ ∀ p ∈ o.1, -4000 ≤ p ∧ p ≤ 4000) (ok_loop (fun s : Int × List Int × T_draw_Codes => 0 ≤ s.1 ∧ s.2.1.length = o10.1.length ∧ CodesOk s.2.2 ∧ ∀ p ∈ s.2.1, -4000 ≤ p ∧ p ≤ 4000) (fun s => (o10.1.length - s.1).toNat) _ (fun s hs => ?_) _ ⟨by dsimp only; omega, by simp, p3, fun p hp => by have := List.eq_of_mem_replicate hp; omega⟩) fun o19 h19 => ?_
  · obtain ⟨k, l, c⟩ := s
    obtain ⟨a1, a2, a3, a4⟩ := hs
    dsimp only at a1 a2 a3 a4
    unfold F_draw_Codes_Made_L2
    dsimp only
    refine ok_dec (fun hk => ?_) (fun hk => ok_some ⟨a2, a3, a4⟩)
    refine ok_bind (range_ok c (-4000) 4000 a3 (by decide) (by decide) (by decide)) fun x21 h21 => ?_
    refine ok_bind (ok_getI a1 (by omega)) fun x23 h23 => ?_
    rw [w64 (by omega) (by omega)]
    refine ok_some ⟨⟨by dsimp only; omega, by rw [List.length_set]; exact a2, h21.1, fun p hp => ?_⟩, by dsimp only; omega⟩
    rcases List.mem_or_eq_of_mem_set hp with h | h
    · exact a4 p h
    · subst h; exact h21.2
  rw [bind_some]
  have hz : ∀ (b : Nat), ∀ q ∈ List.replicate o10.1.length (0 : Int), -(120 * (b : Int)) ≤ q ∧ q ≤ 120 * (b : Int) := fun b q hq => by
    have := List.eq_of_mem_replicate hq
    omega
  refine ok_bind (Q := fun o : List Int × T_Air × T_State × T_draw_Codes => MdV o10.1 o.1 o.2.1 o.2.2.1 o.2.2.2 5 5) (ok_dec (fun hn => ?_) (fun hn => ok_some ⟨⟨by simp, hz 5, rfl, by simp, (fun r hr => by cases hr), rfl, (fun q hq => by cases hq), h19.1, h19.2.1⟩, rfl, (fun r hr => by cases hr), h19.2.2⟩)) fun o27 h27 => ?_
  · refine ok_bind (next_lt o19.2 6 h19.2.1 (by decide)) fun x29 h29 => ?_
    obtain ⟨k, hk⟩ : ∃ k : Nat, x29.2 = (k : Int) := ⟨x29.2.toNat, by omega⟩
    refine ok_bind (vmade_L3 o10 (by omega) (by omega) _ k hk (by omega) ⟨⟨by simp, hz _, rfl, by simp, (fun r hr => by cases hr), rfl, (fun q hq => by cases hq), h19.1, h29.1⟩, rfl, (fun r hr => by cases hr), h19.2.2⟩) fun o32 h32 => ok_some ?_
    obtain ⟨⟨m1, m2, m3, m4, m5, m6, m7, m8, m9⟩, pe, rv, pb⟩ := h32
    exact ⟨⟨m1, m2, m3, m4, m5, m6, m7, m8, m9⟩, pe, rv, pb⟩
  refine ok_bind (vmade_L4 o3 o10 o27 h3.1 p1 (by omega) h27) fun o61 h61 => ?_
  obtain ⟨⟨m1, m2, m3, m4, m5, m6, m7, m8, m9⟩, pe, rv, pb⟩ := h61
  refine ok_bind (vequipped_ok o61.2.2 o61.1.Mine m9 (by omega)) fun x77 h77 => ?_
  have hM : MnOk x77.2.1.Mine := by rw [h77.2.1]; exact ⟨by omega, by omega, by omega, by rw [m3]; exact m5⟩
  refine ok_bind (vfit_ok x77.1 x77.2.1 x77.2.2 o61.2.1 h77.1 h77.2.2 hM (by rw [h77.2.1]; exact m6) (by rw [h77.2.1]; omega) m7 pb (by rw [h77.2.1]; exact rv)) fun x79 h79 => ?_
  have hE := h77.2.2
  refine ok_bind (doubts_ok x79.1 x79.2 x77.2.2 h79.1 (by have := hE.f1; have := hE.f2; omega) (by have := hE.d1; have := hE.d2; omega)) fun x81 h81 => ok_some ?_
  have e : x79.2.Mine.Places = o10.1 := by rw [h79.2.2.2.1, h77.2.1, pe]
  exact ⟨⟨by dsimp only; rw [e]; exact p4, h79.2.2.2.2⟩, by dsimp only; rw [e]; omega⟩
end Go.L
