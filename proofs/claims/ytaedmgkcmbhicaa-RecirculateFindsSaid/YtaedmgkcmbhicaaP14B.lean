/- Mines that are drawn, with flows and spans. -/
import Derived.Test.YtaedmgkcmbhicaaP14A
namespace Go.L
open Go Go.Aml

theorem rem_lt {v : Int} {n : Nat} (h0 : 0 ≤ v) (hn : 1 ≤ n) : remI v (n : Int) = some (v.tmod n) ∧ 0 ≤ v.tmod n ∧ v.tmod n < (n : Int) := by
  obtain ⟨h1, h2⟩ := tmod_lt (n := (n : Int)) h0 (by omega)
  exact ⟨remI_ok (by omega), h1, h2⟩
structure MdS (n : Nat) (net : List Int) (a : T_Air) (x : T_State) (c : T_draw_Codes) (b k : Nat) : Prop where
  ne : net.length = n
  nb : ∀ q ∈ net, -(120 * (b : Int)) ≤ q ∧ q ≤ 120 * (b : Int)
  pl : a.Mine.Places.length = n
  rl : a.Mine.Roads.length ≤ k
  rd : ∀ r ∈ a.Mine.Roads, RdOk n r
  fl : x.Flows.length = a.Mine.Roads.length
  fb : FlOk x.Flows
  pr : x.Pressures.length = n
  hc : CodesOk c
theorem fl_app {l : List Int} {q : Int} (h : FlOk l) (hq : -1000 ≤ q ∧ q ≤ 1000) : FlOk (l ++ [q]) := fun x hx => by
  rcases mem_app1 hx with h' | h'
  · exact h x h'
  · subst h'; exact hq
theorem rd_app {n : Nat} {l : List T_Road} {q : T_Road} (h : ∀ r ∈ l, RdOk n r) (hq : RdOk n q) : ∀ r ∈ l ++ [q], RdOk n r := fun x hx => by
  rcases mem_app1 hx with h' | h'
  · exact h x h'
  · subst h'; exact hq
theorem made_L3 (o10 : List T_Place × T_draw_Codes) (hn : 2 ≤ o10.1.length) (hn2 : o10.1.length ≤ 12) (s : Int × List Int × T_Air × T_State × T_draw_Codes) (k0 : Nat) (hk : s.1 = (k0 : Int)) (hk5 : k0 ≤ 5) (hs : MdS o10.1.length s.2.1 s.2.2.1 s.2.2.2.1 s.2.2.2.2 (5 - k0) (5 - k0)) :
    Ok (loopC (F_draw_Codes_Made_L3 o10) s) fun r => MdS o10.1.length r.1 r.2.1 r.2.2.1 r.2.2.2 5 5 := by
  refine ok_loop (fun s : Int × List Int × T_Air × T_State × T_draw_Codes => ∃ k : Nat, s.1 = (k : Int) ∧ k ≤ 5 ∧ MdS o10.1.length s.2.1 s.2.2.1 s.2.2.2.1 s.2.2.2.2 (5 - k) (5 - k)) (fun s => s.1.toNat) _ (fun s hs => ?_) _ ⟨k0, hk, hk5, hs⟩
  obtain ⟨k', net, a, x, c⟩ := s
  obtain ⟨k, hkk, hk5, hs⟩ := hs
  dsimp only at hkk hs
  subst hkk
  obtain ⟨m1, m2, m3, m4, m5, m6, m7, m8, m9⟩ := hs
  unfold F_draw_Codes_Made_L3
  dsimp only
  refine ok_dec (fun hk => ?_) (fun hk => ok_some ⟨m1, fun q hq => by have := m2 q hq; omega, m3, by dsimp only; omega, m5, m6, m7, m8, m9⟩)
  refine ok_bind (next_lt c _ m9 (by omega)) fun x34 h34 => ?_
  rw [w64 (n := (o10.1.length : Int) - 1) (by omega) (by omega)]
  refine ok_bind (next_lt x34.1 _ h34.1 (by omega)) fun x36 h36 => ?_
  rw [w64 (n := x34.2 + 1) (by omega) (by omega), w64 (n := x34.2 + 1 + x36.2) (by omega) (by omega)]
  obtain ⟨q1, q2, q3⟩ := rem_lt (v := x34.2 + 1 + x36.2) (n := o10.1.length) (by omega) (by omega)
  rw [q1, bind_some]
  refine ok_bind (road_ok x36.1 _ _ h36.1) fun x40 h40 => ?_
  refine ok_bind (one_ok x40.1 7 h40.1 (by decide)) fun x42 h42 => ?_
  refine ok_bind (range_ok x42.1 (-60) 60 h42 (by decide) (by decide) (by decide)) fun x44 h44 => ?_
  refine ok_bind (Q := fun o : Int × T_Air × T_State => -60 ≤ o.1 ∧ o.1 ≤ 60 ∧ o.2.1.Mine = a.Mine ∧ o.2.2 = x) (ok_bif (fun _ => ok_some ⟨by show (-60 : Int) ≤ 0; decide, by show (0 : Int) ≤ 60; decide, rfl, rfl⟩) (fun _ => ok_some ⟨h44.2.1, h44.2.2, rfl, rfl⟩)) fun o46 h46 => ?_
  obtain ⟨b1, b2, b3, b4⟩ := h46
  have hRd : RdOk o10.1.length (T_Road.mk x40.2.From x40.2.To x40.2.Length x40.2.Area x40.2.Walk x42.2 x40.2.Rest x40.2.Lift) := ⟨by show 0 ≤ x40.2.From; rw [h40.2.1]; omega, by show x40.2.From < _; rw [h40.2.1]; omega, by show 0 ≤ x40.2.To; rw [h40.2.2]; omega, by show x40.2.To < _; rw [h40.2.2]; omega⟩
  obtain ⟨r1, r2, r3, r4⟩ := hRd
  dsimp only at r1 r2 r3 r4
  rw [b3, appI_ok (by simp; omega), bind_some, b4, appI_ok (by simp; omega), bind_some]
  refine ok_bind (ok_getI r1 (by omega)) fun x52 h52 => ?_
  refine ok_bind (ok_getI r1 (by omega)) fun x54 h54 => ?_
  have n52 := m2 x52 (mem_get h52)
  rw [w64 (n := x52 + o46.1) (by omega) (by omega)]
  refine ok_bind (ok_getI r3 (by rw [List.length_set]; omega)) fun x56 h56 => ?_
  refine ok_bind (ok_getI r3 (by rw [List.length_set]; omega)) fun x58 h58 => ?_
  have n1 : ∀ q ∈ net.set x40.2.From.toNat (x52 + o46.1), -(120 * ((5 - k : Nat) : Int) + 60) ≤ q ∧ q ≤ 120 * ((5 - k : Nat) : Int) + 60 := fun q hq => by
    rcases List.mem_or_eq_of_mem_set hq with h | h
    · have := m2 q h; omega
    · subst h; omega
  have n56 := n1 x56 (mem_get h56)
  rw [w64 (n := x56 - o46.1) (by omega) (by omega), w64 (n := (k : Int) - 1) (by omega) (by omega)]
  refine ok_some ⟨⟨k - 1, by dsimp only; omega, by omega, ⟨by rw [List.length_set, List.length_set]; exact m1, fun q hq => ?_, m3, by simp; omega, rd_app m5 ⟨r1, r2, r3, r4⟩, by simp [m6], fl_app m7 (by omega), m8, h44.1⟩⟩, by dsimp only; omega⟩
  rcases List.mem_or_eq_of_mem_set hq with h | h
  · have := n1 q h; omega
  · subst h; omega
theorem made_L4 (o3 : List T_Place) (o10 : List T_Place × T_draw_Codes) (o27 : List Int × T_Air × T_State × T_draw_Codes) (h3 : 1 ≤ o3.length) (h32 : o3.length ≤ o10.1.length) (hn2 : o10.1.length ≤ 12) (hs : MdS o10.1.length o27.1 o27.2.1 o27.2.2.1 o27.2.2.2 5 5) :
    Ok (loopC (F_draw_Codes_Made_L4 o3 o10 o27) ((o3.length : Int), (T_Air.mk o27.2.1.Mine [] []), o27.2.2.1, o27.2.2.2)) fun r => MdS o10.1.length o27.1 r.1 r.2.1 r.2.2 5 17 ∧ r.1.Fans = [] ∧ r.1.Doors = [] := by
  obtain ⟨m1, m2, m3, m4, m5, m6, m7, m8, m9⟩ := hs
  refine ok_loop (fun s : Int × T_Air × T_State × T_draw_Codes => ∃ i : Nat, s.1 = (i : Int) ∧ i ≤ o10.1.length ∧ MdS o10.1.length o27.1 s.2.1 s.2.2.1 s.2.2.2 5 (5 + i)) (fun s => (o10.1.length - s.1).toNat) _ (fun s hs => ?_) _ ⟨o3.length, rfl, h32, ⟨m1, m2, m3, by dsimp only; omega, m5, m6, m7, m8, m9⟩⟩
  obtain ⟨i', a, x, c⟩ := s
  obtain ⟨i, hii, hil, hs⟩ := hs
  dsimp only at hii hs
  subst hii
  obtain ⟨m1, m2, m3, m4, m5, m6, m7, m8, m9⟩ := hs
  unfold F_draw_Codes_Made_L4
  dsimp only
  refine ok_dec (fun hk => ?_) (fun hk => ok_some ⟨⟨m1, m2, m3, by dsimp only; omega, m5, m6, m7, m8, m9⟩, rfl, rfl⟩)
  refine ok_bind (next_lt c _ m9 (by omega)) fun x63 h63 => ?_
  refine ok_bind (road_ok x63.1 _ _ h63.1) fun x65 h65 => ?_
  refine ok_bind (ok_getI (by omega) (by omega)) fun x67 h67 => ?_
  have n67 := m2 x67 (mem_get h67)
  refine ok_bind (one_ok x65.1 2 h65.1 (by decide)) fun x69 h69 => ?_
  rw [w64 (n := 0 - x67) (by omega) (by omega), w64 (n := 0 - (0 - x67)) (by omega) (by omega)]
  have hR : RdOk o10.1.length x65.2 := ⟨by rw [h65.2.1]; omega, by rw [h65.2.1]; omega, by rw [h65.2.2]; omega, by rw [h65.2.2]; omega⟩
  refine ok_bind (Q := fun o : Int × T_Road × T_Air × T_State => -1000 ≤ o.1 ∧ o.1 ≤ 1000 ∧ RdOk o10.1.length o.2.1 ∧ o.2.2.1.Mine = a.Mine ∧ o.2.2.2 = x) (ok_bif (fun _ => ok_some ⟨by dsimp only; omega, by dsimp only; omega, ⟨hR.2.2.1, hR.2.2.2, hR.1, hR.2.1⟩, rfl, rfl⟩) (fun _ => ok_some ⟨by dsimp only; omega, by dsimp only; omega, hR, rfl, rfl⟩)) fun o71 h71 => ?_
  obtain ⟨b1, b2, b3, b4, b5⟩ := h71
  rw [b4, appI_ok (by simp; omega), bind_some, b5, appI_ok (by simp; omega), bind_some, w64 (by omega) (by omega)]
  exact ok_some ⟨⟨i + 1, by dsimp only; omega, by omega, ⟨m1, m2, m3, by simp; omega, rd_app m5 b3, by simp [m6], fl_app m7 ⟨b1, b2⟩, m8, h69⟩⟩, by dsimp only; omega⟩
theorem made_ok (c : T_draw_Codes) (hc : CodesOk c) : Ok (F_draw_Codes_Made c) fun r => CodesOk r.1 ∧ MnOk r.2.1.Mine ∧ r.2.2.2.Flows.length = r.2.1.Mine.Roads.length ∧ FlOk r.2.2.2.Flows := by
  unfold F_draw_Codes_Made
  refine ok_bind (one_ok c 3 hc (by decide)) fun x1 h1 => ?_
  refine ok_bind (Q := fun o : List T_Place => 1 ≤ o.length ∧ o.length ≤ 2) (ok_bif (fun _ => ?_) (fun _ => ok_some ⟨by simp, by simp⟩)) fun o3 h3 => ?_
  · rw [appI_ok (by simp), bind_some]
    exact ok_some ⟨by simp, by simp⟩
  refine ok_bind (next_lt x1.1 5 h1 (by decide)) fun x7 h7 => ?_
  refine ok_bind (Q := fun o : List T_Place × T_draw_Codes => o3.length ≤ o.1.length ∧ o.1.length ≤ 6 ∧ CodesOk o.2) (ok_loop (fun s : Int × List T_Place × T_draw_Codes => 0 ≤ s.1 ∧ o3.length ≤ s.2.1.length ∧ (s.2.1.length : Int) + s.1 ≤ 6 ∧ CodesOk s.2.2) (fun s => s.1.toNat) _ (fun s hs => ?_) _ ⟨h7.2.1, Nat.le_refl _, by dsimp only; omega, h7.1⟩) fun o10 h10 => ?_
  · obtain ⟨k, l, c⟩ := s
    obtain ⟨a1, a2, a3, a4⟩ := hs
    dsimp only at a1 a2 a3 a4
    unfold F_draw_Codes_Made_L1
    dsimp only
    refine ok_dec (fun hk => ?_) (fun hk => ok_some ⟨a2, by dsimp only; omega, a4⟩)
    refine ok_bind (next_ok c 100 a4) fun x12 h12 => ?_
    rw [appI_ok (by simp; omega), bind_some, w64 (n := k - 1) (by omega) (by omega)]
    exact ok_some ⟨⟨by dsimp only; omega, by simp; omega, by simp; omega, h12.1⟩, by dsimp only; omega⟩
  obtain ⟨p1, p2, p3⟩ := h10
  rw [makI_ok (by omega) (by omega), bind_some, Int.toNat_natCast]
  refine ok_bind (Q := fun o : List Int × T_draw_Codes => o.1.length = o10.1.length ∧ CodesOk o.2) (ok_loop (fun s : Int × List Int × T_draw_Codes => 0 ≤ s.1 ∧ s.2.1.length = o10.1.length ∧ CodesOk s.2.2) (fun s => (o10.1.length - s.1).toNat) _ (fun s hs => ?_) _ ⟨by dsimp only; omega, by simp, p3⟩) fun o19 h19 => ?_
  · obtain ⟨k, l, c⟩ := s
    obtain ⟨a1, a2, a3⟩ := hs
    dsimp only at a1 a2 a3
    unfold F_draw_Codes_Made_L2
    dsimp only
    refine ok_dec (fun hk => ?_) (fun hk => ok_some ⟨a2, a3⟩)
    refine ok_bind (range_ok c (-4000) 4000 a3 (by decide) (by decide) (by decide)) fun x21 h21 => ?_
    refine ok_bind (ok_getI a1 (by omega)) fun x23 h23 => ?_
    rw [w64 (by omega) (by omega)]
    exact ok_some ⟨⟨by dsimp only; omega, by rw [List.length_set]; exact a2, h21.1⟩, by dsimp only; omega⟩
  rw [bind_some]
  have hz : ∀ (b : Nat), ∀ q ∈ List.replicate o10.1.length (0 : Int), -(120 * (b : Int)) ≤ q ∧ q ≤ 120 * (b : Int) := fun b q hq => by
    have := List.eq_of_mem_replicate hq
    omega
  refine ok_bind (Q := fun o : List Int × T_Air × T_State × T_draw_Codes => MdS o10.1.length o.1 o.2.1 o.2.2.1 o.2.2.2 5 5) (ok_dec (fun hn => ?_) (fun hn => ok_some ⟨by simp, hz 5, rfl, by simp, (fun r hr => by cases hr), rfl, (fun q hq => by cases hq), h19.1, h19.2⟩)) fun o27 h27 => ?_
  · refine ok_bind (next_lt o19.2 6 h19.2 (by decide)) fun x29 h29 => ?_
    obtain ⟨k, hk⟩ : ∃ k : Nat, x29.2 = (k : Int) := ⟨x29.2.toNat, by omega⟩
    refine ok_bind (made_L3 o10 (by omega) (by omega) _ k hk (by omega) ⟨by simp, hz _, rfl, by simp, (fun r hr => by cases hr), rfl, (fun q hq => by cases hq), h19.1, h29.1⟩) fun o32 h32 => ok_some ?_
    obtain ⟨m1, m2, m3, m4, m5, m6, m7, m8, m9⟩ := h32
    exact ⟨m1, m2, m3, m4, m5, m6, m7, m8, m9⟩
  refine ok_bind (made_L4 o3 o10 o27 h3.1 p1 (by omega) h27) fun o61 h61 => ?_
  obtain ⟨⟨m1, m2, m3, m4, m5, m6, m7, m8, m9⟩, _, _⟩ := h61
  refine ok_bind (equipped_ok o61.2.2 o61.1.Mine m9 (by omega)) fun x77 h77 => ?_
  have hM : MnOk x77.2.1.Mine := by rw [h77.2.1]; exact ⟨by omega, by omega, by omega, by rw [m3]; exact m5⟩
  refine ok_bind (fit_ok x77.1 x77.2.1 x77.2.2 o61.2.1 h77.1 h77.2.2 hM (by rw [h77.2.1]; exact m6) (by rw [h77.2.1]; omega)) fun x79 h79 => ?_
  have hE := h77.2.2
  refine ok_bind (doubts_ok x79.1 x79.2 x77.2.2 h79.1 (by have := hE.f1; have := hE.f2; omega) (by have := hE.d1; have := hE.d2; omega)) fun x81 h81 => ok_some ⟨h81, h79.2.1, ?_, m7⟩
  dsimp only
  rw [h79.2.2, h77.2.1]
  exact m6
theorem mine_ok (c : T_draw_Codes) (hc : CodesOk c) : Ok (F_draw_Codes_Mine c) fun r => CodesOk r.1 ∧ MnOk r.2 := by
  unfold F_draw_Codes_Mine
  refine ok_bind (next_lt c 6 hc (by decide)) fun x1 h1 => ?_
  rw [w64 (n := 1 + x1.2) (by omega) (by omega)]
  refine ok_bind (Q := fun o : List T_Place × T_draw_Codes => 1 ≤ o.1.length ∧ o.1.length ≤ 8 ∧ CodesOk o.2) (ok_loop (fun s : Int × List T_Place × T_draw_Codes => 0 ≤ s.1 ∧ 1 ≤ s.2.1.length ∧ (s.2.1.length : Int) + s.1 ≤ 8 ∧ CodesOk s.2.2) (fun s => s.1.toNat) _ (fun s hs => ?_) _ ⟨by dsimp only; omega, by simp, by simp; omega, h1.1⟩) fun o4 h4 => ?_
  · obtain ⟨k, l, c⟩ := s
    obtain ⟨a1, a2, a3, a4⟩ := hs
    dsimp only at a1 a2 a3 a4
    unfold F_draw_Codes_Mine_L1
    dsimp only
    refine ok_dec (fun hk => ?_) (fun hk => ok_some ⟨a2, by dsimp only; omega, a4⟩)
    refine ok_bind (range_ok c (-60) 60 a4 (by decide) (by decide) (by decide)) fun x6 h6 => ?_
    refine ok_bind (one_ok x6.1 5 h6.1 (by decide)) fun x8 h8 => ?_
    rw [appI_ok (by simp; omega), bind_some, w64 (n := k - 1) (by omega) (by omega)]
    exact ok_some ⟨⟨by dsimp only; omega, by simp, by simp; omega, h8⟩, by dsimp only; omega⟩
  obtain ⟨p1, p2, p3⟩ := h4
  refine ok_bind (next_lt o4.2 9 p3 (by decide)) fun x12 h12 => ?_
  refine ok_bind (Q := fun o : T_Mine × T_draw_Codes => CodesOk o.2 ∧ MnOk o.1) (ok_loop (fun s : Int × T_Mine × T_draw_Codes => 0 ≤ s.1 ∧ s.2.1.Places = o4.1 ∧ (s.2.1.Roads.length : Int) + s.1 ≤ 8 ∧ (∀ r ∈ s.2.1.Roads, RdOk o4.1.length r) ∧ CodesOk s.2.2) (fun s => s.1.toNat) _ (fun s hs => ?_) _ ⟨h12.2.1, rfl, by simp; omega, (fun r hr => by cases hr), h12.1⟩) fun o15 h15 => ok_some h15
  obtain ⟨k, m, c⟩ := s
  obtain ⟨a1, a2, a3, a4, a5⟩ := hs
  dsimp only at a1 a2 a3 a4 a5
  unfold F_draw_Codes_Mine_L2
  dsimp only
  refine ok_dec (fun hk => ?_) (fun hk => ok_some ⟨a5, by rw [a2]; exact p1, by rw [a2]; omega, by dsimp only; omega, by rw [a2]; exact a4⟩)
  refine ok_bind (next_lt c _ a5 (by omega)) fun x17 h17 => ?_
  rw [w64 (n := (o4.1.length : Int) - 1) (by omega) (by omega)]
  refine ok_bind (next_ok x17.1 _ h17.1) fun x19 h19 => ?_
  have h19b : x19.2 ≤ o4.1.length := by
    by_cases e : 1 ≤ (o4.1.length : Int) - 1
    · have := h19.2.2.1 e; omega
    · have := h19.2.2.2 (by omega); omega
  rw [w64 (n := x17.2 + 1) (by omega) (by omega), w64 (n := x17.2 + 1 + x19.2) (by omega) (by omega)]
  obtain ⟨q1, q2, q3⟩ := rem_lt (v := x17.2 + 1 + x19.2) (n := o4.1.length) (by omega) (by omega)
  rw [q1, bind_some]
  refine ok_bind (road_ok x19.1 _ _ h19.1) fun x23 h23 => ?_
  refine ok_bind (one_ok x23.1 6 h23.1 (by decide)) fun x25 h25 => ?_
  rw [appI_ok (by simp; omega), bind_some, w64 (n := k - 1) (by omega) (by omega)]
  refine ok_some ⟨⟨by dsimp only; omega, a2, by simp; omega, rd_app a4 ⟨by show 0 ≤ x23.2.From; rw [h23.2.1]; omega, by show x23.2.From < _; rw [h23.2.1]; omega, by show 0 ≤ x23.2.To; rw [h23.2.2]; omega, by show x23.2.To < _; rw [h23.2.2]; omega⟩, h25⟩, by dsimp only; omega⟩
/-- Spans of flows: each holds its flow. -/
def SpOk (l : List T_Span) (f : List Int) : Prop := l.length = f.length ∧ ∀ (i : Nat) (s : T_Span) (q : Int), l[i]? = some s → f[i]? = some q → s.Low ≤ q ∧ q ≤ s.High ∧ -2000 ≤ s.Low ∧ s.High ≤ 2000
theorem spans_ok (c : T_draw_Codes) (f : List Int) (hc : CodesOk c) (hf : FlOk f) (hl : f.length ≤ 100) : Ok (F_draw_Codes_Spans c f) fun r => SpOk r.2 f := by
  unfold F_draw_Codes_Spans
  refine ok_bind (Q := fun o : List T_Span × T_draw_Codes => SpOk o.1 f) (ok_loop (fun s : Int × List T_Span × T_draw_Codes => ∃ i : Nat, s.1 = (i : Int) ∧ i ≤ f.length ∧ SpOk s.2.1 (f.take i) ∧ CodesOk s.2.2) (fun s => (f.length - s.1).toNat) _ (fun s hs => ?_) _ ⟨0, rfl, Nat.zero_le _, ⟨by simp, fun i s q h => by simp at h⟩, hc⟩) fun o2 h2 => ok_some h2
  obtain ⟨i', l, c⟩ := s
  obtain ⟨i, rfl, hi, hs, a4⟩ := hs
  dsimp only at hs a4
  obtain ⟨s1, s2⟩ := hs
  have hll : l.length = i := by rw [s1, List.length_take]; omega
  unfold F_draw_Codes_Spans_L1
  dsimp only
  refine ok_dec (fun hk => ?_) (fun hk => ok_some ?_)
  · have hk' : i < f.length := by omega
    rw [getI_nat, List.getElem?_eq_getElem hk', bind_some]
    refine ok_bind (next_lt c 12 a4 (by decide)) fun x6 h6 => ?_
    rw [bind_some]
    refine ok_bind (next_lt x6.1 12 h6.1 (by decide)) fun x10 h10 => ?_
    have hq := hf f[i] (List.getElem_mem hk')
    rw [appI_ok (by simp; omega), bind_some, w64 (n := (i : Int) + 1) (by omega) (by omega), w64 (n := f[i] - x6.2) (by omega) (by omega), w64 (n := f[i] + x10.2) (by omega) (by omega)]
    refine ok_some ⟨⟨i + 1, rfl, hk', ⟨by simp [hll]; omega, fun j s q hj hq' => ?_⟩, h10.1⟩, by dsimp only; omega⟩
    dsimp only at hj
    by_cases hji : j < i
    · rw [List.getElem?_append_left (by omega)] at hj
      refine s2 j s q hj ?_
      rw [List.getElem?_take] at hq' ⊢
      rw [if_pos (by omega)] at hq'
      rw [if_pos hji]
      exact hq'
    · have hj1 : j < i + 1 := by
        have := (List.getElem?_eq_some_iff.1 hj).1
        simp at this
        omega
      have : j = i := by omega
      subst this
      rw [List.getElem?_append_right (by omega), hll, Nat.sub_self] at hj
      simp at hj
      subst hj
      rw [List.getElem?_take, if_pos (by omega), List.getElem?_eq_getElem hk'] at hq'
      injection hq' with hq'
      subst hq'
      dsimp only
      omega
  · have : i = f.length := by omega
    subst this
    rw [List.take_length] at s1 s2
    exact ⟨s1, s2⟩
structure AirOk (r : T_Air × List T_Span × List Int) : Prop where
  m : MnOk r.1.Mine
  f : r.2.2.length = r.1.Mine.Roads.length
  s : SpOk r.2.1 r.2.2
  b : FlOk r.2.2
theorem air_ok (p0 : List Int) (h0 : Bytes p0) : Ok (F_law14_air p0) AirOk := by
  unfold F_law14_air
  refine ok_bind (new_ok p0 h0) fun x1 h1 => ?_
  refine ok_bind (made_ok x1 h1) fun x3 h3 => ?_
  obtain ⟨c3, m3, f3, b3⟩ := h3
  refine ok_bind (one_ok x3.1 2 c3 (by decide)) fun x5 h5 => ?_
  refine ok_bind (Q := fun o : T_draw_Codes × T_Air × List Int => CodesOk o.1 ∧ MnOk o.2.1.Mine ∧ o.2.2.length = o.2.1.Mine.Roads.length ∧ FlOk o.2.2) (ok_bif (fun _ => ?_) (fun _ => ok_some ⟨h5, m3, f3, b3⟩)) fun o7 h7 => ?_
  · refine ok_bind (mine_ok x5.1 h5) fun x9 h9 => ?_
    have hr := h9.2.r1
    refine ok_bind (next_ok x9.1 3 h9.1) fun x11 h11 => ?_
    refine ok_bind (next_ok x11.1 3 h11.1) fun x13 h13 => ?_
    refine ok_bind (Q := fun o : T_draw_Codes × T_Air × List Int => CodesOk o.1 ∧ o.2.1.Mine = x9.2 ∧ o.2.2.length = x9.2.Roads.length ∧ FlOk o.2.2) (ok_loop (fun s : Int × T_draw_Codes × T_Air × List Int => 0 ≤ s.1 ∧ s.1 ≤ x9.2.Roads.length ∧ (s.2.2.2.length : Int) = s.1 ∧ CodesOk s.2.1 ∧ s.2.2.1.Mine = x9.2 ∧ FlOk s.2.2.2) (fun s => (x9.2.Roads.length - s.1).toNat) _ (fun s hs => ?_) _ ⟨Int.le_refl _, by dsimp only; omega, rfl, h13.1, rfl, fun q hq => by cases hq⟩) fun o16 h16 => ok_some ⟨h16.1, by dsimp only; rw [h16.2.1]; exact h9.2, by dsimp only; rw [h16.2.1]; exact h16.2.2.1, h16.2.2.2⟩
    obtain ⟨k, c, a, l⟩ := s
    obtain ⟨a1, a2, a3, a4, a5, a6⟩ := hs
    dsimp only at a1 a2 a3 a4 a5 a6
    unfold F_law14_air_L1
    dsimp only
    refine ok_dec (fun hk => ?_) (fun hk => ok_some ⟨a4, a5, by dsimp only; omega, a6⟩)
    refine ok_bind (range_ok c (-9) 9 a4 (by decide) (by decide) (by decide)) fun x18 h18 => ?_
    rw [appI_ok (by simp; omega), bind_some, w64 (by omega) (by omega)]
    exact ok_some ⟨⟨by dsimp only; omega, by dsimp only; omega, by simp; omega, h18.1, a5, fl_app a6 (by omega)⟩, by dsimp only; omega⟩
  obtain ⟨c7, m7, f7, b7⟩ := h7
  have := m7.r1
  exact ok_bind (spans_ok o7.1 o7.2.2 c7 b7 (by omega)) fun x22 h22 => ok_some ⟨m7, f7, h22, b7⟩
end Go.L
