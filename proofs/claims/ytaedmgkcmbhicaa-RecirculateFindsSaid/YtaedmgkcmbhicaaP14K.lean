/- RecirculateTrue. -/
import Derived.Test.YtaedmgkcmbhicaaP14J
namespace Go.L
open Go Go.Aml

theorem first_none {α : Type} {e : α → Int} : ∀ {l : List α}, (∀ x ∈ l, e x = 0) → firstE e l = 0
  | [], _ => rfl
  | y :: l, h => by
    unfold firstE
    rw [if_pos (h y (List.mem_cons_self ..))]
    exact first_none fun x hx => h x (List.mem_cons_of_mem _ hx)
theorem chk_of {m : T_Mine} (h : MnOk m) (hv : MnV m) : chkM m = 0 := by
  obtain ⟨h1, h2, h3, h4⟩ := h
  obtain ⟨⟨v1, v2⟩, _⟩ := hv
  unfold chkM
  rw [if_neg (by omega), if_pos (List.all_eq_true.2 fun p hp => by rw [v1 p hp]; rfl)]
  refine first_none fun r hr => ?_
  obtain ⟨a1, a2, a3, a4⟩ := h4 r hr
  obtain ⟨b1, ⟨u1, u2, u3, u4, u5, u6, u7, u8⟩, w1, w2, w3⟩ := v2 r hr
  have e1 : spIn r.Rest 1 262144 = true := decide_eq_true ⟨by omega, by omega, by omega⟩
  have e2 : spIn r.Lift (-2199023255552) 2199023255552 = true := decide_eq_true ⟨by omega, by omega, by omega⟩
  unfold rdErr
  rw [if_neg (by omega), if_neg (by rw [e1, e2]; simp; omega)]
def Sfs (m : T_Mine) : Prop := ∀ k : Int, 0 ≤ k → k < (m.Places.length : Int) → sf m k = true
theorem vmine_ok (c : T_draw_Codes) (hc : CodesOk c) : Ok (F_draw_Codes_Mine c) fun r => MnV r.2 ∨ Sfs r.2 := by
  unfold F_draw_Codes_Mine
  refine ok_bind (next_lt c 6 hc (by decide)) fun x1 h1 => ?_
  rw [w64 (n := 1 + x1.2) (by omega) (by omega)]
  refine ok_bind (Q := fun o : List T_Place × T_draw_Codes => 1 ≤ o.1.length ∧ o.1.length ≤ 7 ∧ CodesOk o.2 ∧ PlV o.1 ∧ o.1[0]? = some ⟨0, true⟩) (ok_loop (fun s : Int × List T_Place × T_draw_Codes => 0 ≤ s.1 ∧ 1 ≤ s.2.1.length ∧ (s.2.1.length : Int) + s.1 ≤ 7 ∧ CodesOk s.2.2 ∧ PlV s.2.1 ∧ s.2.1[0]? = some ⟨0, true⟩) (fun s => s.1.toNat) _ (fun s hs => ?_) _ ⟨by dsimp only; omega, by simp, by simp; omega, h1.1, (fun p hp => by simp at hp; subst hp; rfl), rfl⟩) fun o4 h4 => ?_
  · obtain ⟨k, l, c⟩ := s
    obtain ⟨a1, a2, a3, a4, a5, a6⟩ := hs
    dsimp only at a1 a2 a3 a4 a5 a6
    unfold F_draw_Codes_Mine_L1
    dsimp only
    refine ok_dec (fun hk => ?_) (fun hk => ok_some ⟨a2, by dsimp only; omega, a4, a5, a6⟩)
    refine ok_bind (range_ok c (-60) 60 a4 (by decide) (by decide) (by decide)) fun x6 h6 => ?_
    refine ok_bind (one_ok x6.1 5 h6.1 (by decide)) fun x8 h8 => ?_
    rw [appI_ok (by simp; omega), bind_some, w64 (n := k - 1) (by omega) (by omega)]
    refine ok_some ⟨⟨by dsimp only; omega, by simp, by simp; omega, h8, fun p hp => ?_, by dsimp only; rw [List.getElem?_append_left (by omega)]; exact a6⟩, by dsimp only; omega⟩
    rcases mem_app1 hp with h | h
    · exact a5 p h
    · subst h; exact plErr_of (by dsimp only; omega) (by dsimp only; omega)
  obtain ⟨p1, p2, p3, p4, p5⟩ := h4
  refine ok_bind (next_lt o4.2 9 p3 (by decide)) fun x12 h12 => ?_
  refine ok_bind (Q := fun o : T_Mine × T_draw_Codes => o.1.Places = o4.1 ∧ (2 ≤ o4.1.length → ∀ r ∈ o.1.Roads, RV r)) (ok_loop (fun s : Int × T_Mine × T_draw_Codes => 0 ≤ s.1 ∧ s.2.1.Places = o4.1 ∧ (s.2.1.Roads.length : Int) + s.1 ≤ 8 ∧ CodesOk s.2.2 ∧ (2 ≤ o4.1.length → ∀ r ∈ s.2.1.Roads, RV r)) (fun s => s.1.toNat) _ (fun s hs => ?_) _ ⟨h12.2.1, rfl, by simp; omega, h12.1, fun _ r hr => by cases hr⟩) fun o15 h15 => ok_some ?_
  · obtain ⟨k, m, c⟩ := s
    obtain ⟨a1, a2, a3, a5, a4⟩ := hs
    dsimp only at a1 a2 a3 a4 a5
    unfold F_draw_Codes_Mine_L2
    dsimp only
    refine ok_dec (fun hk => ?_) (fun hk => ok_some ⟨a2, a4⟩)
    refine ok_bind (next_lt c _ a5 (by omega)) fun x17 h17 => ?_
    rw [w64 (n := (o4.1.length : Int) - 1) (by omega) (by omega)]
    refine ok_bind (next_ok x17.1 _ h17.1) fun x19 h19 => ?_
    have h19b : x19.2 ≤ o4.1.length := by
      by_cases e : 1 ≤ (o4.1.length : Int) - 1
      · have := h19.2.2.1 e; omega
      · have := h19.2.2.2 (by omega); omega
    rw [w64 (n := x17.2 + 1) (by omega) (by omega), w64 (n := x17.2 + 1 + x19.2) (by omega) (by omega)]
    obtain ⟨q1, q2, q3⟩ := rem_lt (v := x17.2 + 1 + x19.2) (n := o4.1.length) (by omega) (by omega)
    rw [q1, bind_some]
    refine ok_bind (vroad_ok x19.1 _ _ h19.1) fun x23 h23 => ?_
    refine ok_bind (one_ok x23.1 6 h23.1 (by decide)) fun x25 h25 => ?_
    rw [appI_ok (by simp; omega), bind_some, w64 (n := k - 1) (by omega) (by omega)]
    refine ok_some ⟨⟨by dsimp only; omega, a2, by simp; omega, h25, fun h2 => rd_app' (a4 h2) ⟨?_, h23.2.2.2.1, h23.2.2.2.2⟩⟩, by dsimp only; omega⟩
    show x23.2.From ≠ x23.2.To
    rw [h23.2.1, h23.2.2.1]
    exact Ne.symm (tmod_ne h17.2.1 h19.2.1 (h19.2.2.1 (by omega)))
  · dsimp only
    by_cases h2 : 2 ≤ o4.1.length
    · exact .inl ⟨⟨by rw [h15.1]; exact p4, h15.2 h2⟩, by rw [h15.1]; exact p2⟩
    · refine .inr fun k hk0 hk1 => ?_
      rw [h15.1] at hk1
      have : k = 0 := by omega
      subst this
      unfold sf
      rw [h15.1]
      show ((o4.1[0]?).map _).getD true = true
      rw [p5]
      rfl
theorem ok_and {α : Type} {m : Option α} {Q R : α → Prop} (h1 : Ok m Q) (h2 : Ok m R) : Ok m fun a => Q a ∧ R a := by
  obtain ⟨a, e1, q1⟩ := h1
  obtain ⟨b, e2, q2⟩ := h2
  rw [e1] at e2
  injection e2 with e2
  subst e2
  exact ⟨a, e1, q1, q2⟩
theorem vair_ok (p0 : List Int) (h0 : Bytes p0) : Ok (F_law14_air p0) fun r => MnV r.1.Mine ∨ Sfs r.1.Mine := by
  unfold F_law14_air
  refine ok_bind (new_ok p0 h0) fun x1 h1 => ?_
  refine ok_bind (ok_and (made_ok x1 h1) (vmade_ok x1 h1)) fun x3 h3 => ?_
  obtain ⟨⟨c3, m3, f3, b3⟩, v3⟩ := h3
  refine ok_bind (one_ok x3.1 2 c3 (by decide)) fun x5 h5 => ?_
  refine ok_bind (Q := fun o : T_draw_Codes × T_Air × List Int => CodesOk o.1 ∧ FlOk o.2.2 ∧ o.2.2.length ≤ 100 ∧ (MnV o.2.1.Mine ∨ Sfs o.2.1.Mine)) (ok_bif (fun _ => ?_) (fun _ => ok_some ⟨h5, b3, by have := m3.r1; dsimp only; omega, .inl v3⟩)) fun o7 h7 => ?_
  · refine ok_bind (ok_and (mine_ok x5.1 h5) (vmine_ok x5.1 h5)) fun x9 h9 => ?_
    obtain ⟨⟨c9, m9⟩, v9⟩ := h9
    have hr := m9.r1
    refine ok_bind (next_ok x9.1 3 c9) fun x11 h11 => ?_
    refine ok_bind (next_ok x11.1 3 h11.1) fun x13 h13 => ?_
    refine ok_bind (Q := fun o : T_draw_Codes × T_Air × List Int => CodesOk o.1 ∧ o.2.1.Mine = x9.2 ∧ o.2.2.length = x9.2.Roads.length ∧ FlOk o.2.2) (ok_loop (fun s : Int × T_draw_Codes × T_Air × List Int => 0 ≤ s.1 ∧ s.1 ≤ x9.2.Roads.length ∧ (s.2.2.2.length : Int) = s.1 ∧ CodesOk s.2.1 ∧ s.2.2.1.Mine = x9.2 ∧ FlOk s.2.2.2) (fun s => (x9.2.Roads.length - s.1).toNat) _ (fun s hs => ?_) _ ⟨Int.le_refl _, by dsimp only; omega, rfl, h13.1, rfl, fun q hq => by cases hq⟩) fun o16 h16 => ok_some ⟨h16.1, h16.2.2.2, by dsimp only; omega, by dsimp only; rw [h16.2.1]; exact v9⟩
    obtain ⟨k, c, a, l⟩ := s
    obtain ⟨a1, a2, a3, a4, a5, a6⟩ := hs
    dsimp only at a1 a2 a3 a4 a5 a6
    unfold F_law14_air_L1
    dsimp only
    refine ok_dec (fun hk => ?_) (fun hk => ok_some ⟨a4, a5, by dsimp only; omega, a6⟩)
    refine ok_bind (range_ok c (-9) 9 a4 (by decide) (by decide) (by decide)) fun x18 h18 => ?_
    rw [appI_ok (by simp; omega), bind_some, w64 (by omega) (by omega)]
    exact ok_some ⟨⟨by dsimp only; omega, by dsimp only; omega, by simp; omega, h18.1, a5, fl_app a6 (by omega)⟩, by dsimp only; omega⟩
  obtain ⟨c7, b7, l7, v7⟩ := h7
  exact ok_bind (spans_ok o7.1 o7.2.2 c7 b7 l7) fun x22 h22 => ok_some v7

/-- The way that air goes along a road, by its flow. -/
def fl0 (q : List Int) (i : Nat) : Int := (q[i]?).getD 0
def fD (q : List Int) (i : Nat) : Bool := decide (fl0 q i < 0)
theorem fl0_get {q : List Int} {i : Nat} (h : i < q.length) : q[i]? = some (fl0 q i) := by
  unfold fl0
  rw [List.getElem?_eq_getElem h]
  rfl
theorem fl_can {x : T_Air × List T_Span × List Int} (h : AirOk x) {i : Nat} (hi : i < x.1.Mine.Roads.length) (hc : (rd0 x.1.Mine i).Closed = false) (hq : fl0 x.2.2 i ≠ 0) : can x.1.Mine x.2.1 i (fD x.2.2 i) = true := by
  obtain ⟨s1, s2⟩ := h.s
  have hf := h.f
  have := s2 i (sp0 x.2.1 i) (fl0 x.2.2 i) (sp0_get (by omega)) (fl0_get (by omega))
  unfold can fD
  rw [hc, cond_false]
  by_cases hn : fl0 x.2.2 i < 0
  · rw [decide_eq_true hn, cond_true]; exact decide_eq_true (by omega)
  · rw [decide_eq_false hn, cond_false]; exact decide_eq_true (by omega)
theorem fl_ends {q : List Int} {m : T_Mine} {i : Nat} : (bif decide (fl0 q i < 0) then some ((rd0 m i).To, (rd0 m i).From) else some ((rd0 m i).From, (rd0 m i).To) : Option (Int × Int)) = some ((arcD m i (fD q i)).from_, (arcD m i (fD q i)).to_) := by
  unfold arcD fD
  cases decide (fl0 q i < 0) <;> rfl
theorem fl_round {x : T_Air × List T_Span × List Int} (h : AirOk x) (hR : Rt x.1.Mine) {G : Int → Prop}
    (hG : ∀ j : Nat, j < x.1.Mine.Roads.length → (rd0 x.1.Mine j).Closed = false → fl0 x.2.2 j ≠ 0 → G (arcD x.1.Mine j (fD x.2.2 j)).from_ → sf x.1.Mine (arcD x.1.Mine j (fD x.2.2 j)).to_ = false → G (arcD x.1.Mine j (fD x.2.2 j)).to_)
    (o : List Bool) (ho : o.length = x.1.Mine.Places.length) (hb : ∀ k : Int, 0 ≤ k → bt o k = true → G k) :
    Ok (loopC (F_law14_RecirculateTrue_L2 x) (0, o)) fun r => r.length = x.1.Mine.Places.length ∧ ∀ k : Int, 0 ≤ k → bt r k = true → G k := by
  have hr := hR.r1
  have hp := hR.p2
  have hf := h.f
  refine ok_loop (fun s : Int × List Bool => 0 ≤ s.1 ∧ s.2.length = x.1.Mine.Places.length ∧ ∀ k : Int, 0 ≤ k → bt s.2 k = true → G k) (fun s => (x.1.Mine.Places.length - s.1).toNat) _ (fun s hs => ?_) _ ⟨Int.le_refl _, ho, hb⟩
  obtain ⟨n, o⟩ := s
  obtain ⟨a1, a2, a3⟩ := hs
  dsimp only at a1 a2 a3
  unfold F_law14_RecirculateTrue_L2
  dsimp only
  refine ok_dec (fun hn => ?_) (fun _ => ok_some ⟨a2, a3⟩)
  refine ok_bind (Q := fun r : List Bool => r.length = x.1.Mine.Places.length ∧ ∀ k : Int, 0 ≤ k → bt r k = true → G k) (ok_loop (fun s : Int × List Bool => (∃ j : Nat, s.1 = (j : Int)) ∧ s.2.length = x.1.Mine.Places.length ∧ ∀ k : Int, 0 ≤ k → bt s.2 k = true → G k) (fun s => (x.1.Mine.Roads.length - s.1).toNat) _ (fun s hs => ?_) _ ⟨⟨0, rfl⟩, a2, a3⟩) fun r hr' => ?_
  · obtain ⟨j', o⟩ := s
    obtain ⟨⟨j, rfl⟩, b2, b3⟩ := hs
    dsimp only at b2 b3
    unfold F_law14_RecirculateTrue_L3
    dsimp only
    refine ok_dec (fun hj => ?_) (fun _ => ok_some ⟨b2, b3⟩)
    have hj' : j < x.1.Mine.Roads.length := by omega
    have hA := arcD_ok hR hj' (fD x.2.2 j)
    obtain ⟨c1, c2, c3, c4⟩ := hA
    obtain ⟨p, hp1, hp2⟩ := sf_get (m := x.1.Mine) c1 c2
    obtain ⟨q, hq1, hq2⟩ := sf_get (m := x.1.Mine) c3 c4
    refine ok_bind (Q := fun r : List Bool => r.length = x.1.Mine.Places.length ∧ ∀ k : Int, 0 ≤ k → bt r k = true → G k) ?_ fun r hr'' => ?_
    · rw [getI_nat, rd0_get hj', bind_some, getI_nat, fl0_get (by omega), bind_some, fl_ends, bind_some, bind_some]
      dsimp only
      rw [bt_get c1 (by omega), bind_some, hp1, bind_some, hq1, bind_some, hp2, hq2, bt_get c3 (by omega), bind_some]
      refine ok_bind (Q := fun b => b = true → (rd0 x.1.Mine j).Closed = false ∧ fl0 x.2.2 j ≠ 0 ∧ bt o (arcD x.1.Mine j (fD x.2.2 j)).from_ = true ∧ sf x.1.Mine (arcD x.1.Mine j (fD x.2.2 j)).to_ = false) ?_ fun b hb => ?_
      · refine ok_bif (fun hc => ok_dec (fun hq => ok_bif (fun hs => ok_bif (fun ht => ok_some fun hu => ⟨by simpa using hc, hq, hs, by simpa using hu⟩) (fun _ => ok_some fun h => by cases h)) (fun _ => ok_some fun h => by cases h)) (fun _ => ok_some fun h => by cases h)) (fun _ => ok_some fun h => by cases h)
      · refine ok_bif (fun hbt => ok_some ⟨by rw [List.length_set]; exact b2, fun k hk hkb => ?_⟩) (fun _ => ok_some ⟨b2, b3⟩)
        obtain ⟨d1, d2, d3, d4⟩ := hb hbt
        rw [bt_set hk (by omega)] at hkb
        by_cases e : k = ((arcD x.1.Mine j (fD x.2.2 j)).to_.toNat : Int)
        · have : k = (arcD x.1.Mine j (fD x.2.2 j)).to_ := by omega
          rw [this]
          exact hG j hj' d1 d2 (b3 _ c1 d3) d4
        · rw [if_neg e] at hkb
          exact b3 k hk hkb
    · rw [w64 (by omega) (by omega)]
      exact ok_some ⟨⟨⟨j + 1, rfl⟩, hr''.1, hr''.2⟩, by dsimp only; omega⟩
  · rw [w64 (by omega) (by omega)]
    exact ok_some ⟨⟨by dsimp only; omega, hr'.1, hr'.2⟩, by dsimp only; omega⟩

theorem law_RecirculateTrue (p0 : List Int) (w0 : InL (In .u8) p0) (p1 : Int) (w1 : In .i64 p1) : F_law14_RecirculateTrue p0 p1 = some true := by
  refine Ok.val ?_
  unfold F_law14_RecirculateTrue
  refine ok_bind (ok_and (air_ok p0 (bytesOf w0)) (vair_ok p0 (bytesOf w0))) fun x h => ?_
  obtain ⟨h1, hV⟩ := h
  have hz := sz_of h1.m
  have hr := h1.m.r1
  have hp := h1.m.p2
  have hp1 := h1.m.p1
  have hf := h1.f
  have hsl := h1.s.1
  have hR : Rt x.1.Mine := ⟨by omega, by omega, h1.m.rd⟩
  have hcl := circlesF_len (m := x.1.Mine) (f := x.2.1)
  rw [circles_eq _ _ hz, bind_some]
  rw [all_loop x.1.Mine.Roads (fun _ => false) (fun i r hx => ?_) (by unfold F_law14_RecirculateTrue_L1; rw [bif_neg (by omega)]), bind_some]
  · have e : (x.1.Mine.Roads.all fun _ => !false) = true := List.all_eq_true.2 fun _ _ => rfl
    rw [e, if_pos rfl]
    exact ok_awake (ok_some rfl)
  · refine Ok.val ?_
    have hi := (List.getElem?_eq_some_iff.1 hx).1
    obtain ⟨c1, c2, c3, c4⟩ := arcD_ok hR hi (fD x.2.2 i)
    obtain ⟨p, hp1, hp2⟩ := sf_get (m := x.1.Mine) c1 c2
    obtain ⟨q, hq1, hq2⟩ := sf_get (m := x.1.Mine) c3 c4
    unfold F_law14_RecirculateTrue_L1
    rw [bif_pos (by omega), getI_nat, rd0_get hi, bind_some, getI_nat, fl0_get (by omega), bind_some, bind_some, fl_ends, bind_some, w64 (by omega) (by omega)]
    refine ok_bind (Q := fun o => o = .inr ()) ?_ fun o ho => by subst ho; exact ok_some rfl
    refine ok_bind (Q := fun b => b = false → (rd0 x.1.Mine i).Closed = false ∧ fl0 x.2.2 i ≠ 0) (ok_bif (fun _ => ok_some fun h => by cases h) (fun hc => ok_some fun h => ⟨hc, of_decide_eq_false h⟩)) fun b hb => ?_
    refine ok_bif (fun _ => ok_some rfl) (fun hbf => ?_)
    obtain ⟨hc, hq0⟩ := hb hbf
    dsimp only
    rw [hp1, bind_some, hq1, bind_some, hp2, hq2]
    refine ok_bind (Q := fun b => b = false → sf x.1.Mine (arcD x.1.Mine i (fD x.2.2 i)).from_ = false ∧ sf x.1.Mine (arcD x.1.Mine i (fD x.2.2 i)).to_ = false) (ok_bif (fun _ => ok_some fun h => by cases h) (fun hs => ok_some fun h => ⟨hs, h⟩)) fun b2 hb2 => ?_
    refine ok_bif (fun _ => ok_some rfl) (fun hbf2 => ?_)
    obtain ⟨s1, s2⟩ := hb2 hbf2
    have hVm : MnV x.1.Mine := by
      rcases hV with h | h
      · exact h
      · have := h _ c1 c2
        rw [s1] at this
        cases this
    have hrt : rtB x.1.Mine x.2.1 = true := by
      unfold rtB
      rw [decide_eq_true (chk_of h1.m hVm), decide_eq_true (by omega)]
      rfl
    rw [makI_ok (by omega) (by omega), bind_some, Int.toNat_natCast]
    refine ok_bind (ok_getI c3 (by simpa using c4)) fun _ _ => ?_
    have hon : Rch x.1.Mine (i : Int) (arcsF x.1.Mine x.2.1) (· = (arcD x.1.Mine i (fD x.2.2 i)).to_) (arcD x.1.Mine i (fD x.2.2 i)).from_ → ((i : Int) ∈ circlesF x.1.Mine x.2.1) := fun hrch => by
      refine circlesF_mem.2 ⟨hrt, i, fD x.2.2 i, hi, rfl, fl_can h1 hi hc hq0, (on_iff (arcsF_ok hR) (arcD_ok hR hi _)).2 ⟨s1, s2, ?_⟩⟩
      have : (arcD x.1.Mine i (fD x.2.2 i)).road = (i : Int) := by cases fD x.2.2 i <;> rfl
      rw [this]
      exact hrch
    refine ok_bind (fl_round h1 hR (G := fun k => Rch x.1.Mine (i : Int) (arcsF x.1.Mine x.2.1) (· = (arcD x.1.Mine i (fD x.2.2 i)).to_) k ∨ Rch x.1.Mine (i : Int) (arcsF x.1.Mine x.2.1) (· = (arcD x.1.Mine i (fD x.2.2 i)).to_) (arcD x.1.Mine i (fD x.2.2 i)).from_) (fun j hj hjc hjq hg hjs => ?_) (seed x.1.Mine.Places.length (arcD x.1.Mine i (fD x.2.2 i)).to_) (seed_len _ _) (fun k hk hb => ?_)) fun o36 ho36 => ?_
    · rcases hg with hg | hg
      · by_cases e : j = i
        · subst e; exact .inr hg
        · refine .inl (.step _ (arcsF_mem.2 ⟨j, fD x.2.2 j, hj, fl_can h1 hj hjc hjq, rfl⟩) ?_ hg hjs)
          have : (arcD x.1.Mine j (fD x.2.2 j)).road = (j : Int) := by cases fD x.2.2 j <;> rfl
          rw [this]
          omega
      · exact .inr hg
    · rw [seed_bt hk c3 c4] at hb
      exact .inl (.base k (of_decide_eq_true hb))
    · obtain ⟨l36, g36⟩ := ho36
      rw [bt_get c1 (by omega), bind_some, has_eq _ _ (by omega), bind_some]
      refine ok_bind (Q := fun b => b = false) (ok_bif (fun hbt => ok_some ?_) (fun _ => ok_some rfl)) fun b hb => by subst hb; exact ok_some rfl
      have := hon (by rcases g36 _ c1 hbt with h | h <;> exact h)
      rw [decide_eq_true this]
      rfl
end Go.L
