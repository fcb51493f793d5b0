/- RecirculateFinds: the law, joined. -/
import Derived.Test.YtaedmgkcmbhicaaP14M
namespace Go.L
open Go Go.Aml

theorem arcs_ends {m : T_Mine} {f : List T_Span} : ∀ x ∈ arcsF m f, ∀ y ∈ arcsF m f, x.road = y.road → (x.from_ = y.from_ ∧ x.to_ = y.to_) ∨ (x.from_ = y.to_ ∧ x.to_ = y.from_) := fun x hx y hy e => by
  obtain ⟨i, d, _, _, rfl⟩ := arcsF_mem.1 hx
  obtain ⟨j, c, _, _, rfl⟩ := arcsF_mem.1 hy
  have hr : ∀ i d, (arcD m i d).road = (i : Int) := fun i d => by cases d <;> rfl
  rw [hr, hr] at e
  have : i = j := by omega
  subst this
  cases d <;> cases c
  · exact .inl ⟨rfl, rfl⟩
  · exact .inr ⟨rfl, rfl⟩
  · exact .inr ⟨rfl, rfl⟩
  · exact .inl ⟨rfl, rfl⟩
theorem wk_iff {m : T_Mine} {f : List T_Span} (hR : Rt m) (hP : m.Places.length ≤ 7) {i : Nat} (hi : i < m.Roads.length) {s t : Int} (hs : sf m s = false) (ht : sf m t = false) (ht0 : 0 ≤ t) (ht1 : t < (m.Places.length : Int)) :
    Wk m (arcsF m f) t 6 s (seed m.Roads.length (i : Int)) ↔ Rch m (i : Int) (arcsF m f) (· = s) t := by
  have hr : ∀ i d, (arcD m i d).road = (i : Int) := fun i d => by cases d <;> rfl
  have hb : ∀ k : Int, 0 ≤ k → bt (seed m.Roads.length (i : Int)) k = decide (k = (i : Int)) := fun k hk => seed_bt hk (by omega) (by omega)
  constructor
  · intro h
    exact wk_rch ht 6 s _ (by rw [hb _ (by omega)]; exact decide_eq_true rfl) h (.base s rfl)
  · intro h
    obtain ⟨n, hn⟩ := rch_rn hs h 0 (show Rn m (arcsF m f) t (i : Int) 0 t from rfl)
    have h6 := rn_six hP (arcsF_ok hR) ⟨ht0, ht1⟩ hn
    have hroad : ∀ x ∈ arcsF m f, 0 ≤ x.road ∧ x.road < (m.Roads.length : Int) := fun x hx => by
      obtain ⟨j, d, hj, _, rfl⟩ := arcsF_mem.1 hx
      rw [hr]
      omega
    refine rn_wk arcs_ends (fun x hx => (hroad x hx).1) 6 s _ h6 (fun x hx => by rw [seed_len]; exact (hroad x hx).2) (fun x hx hne hbt => ?_)
    rw [hb _ (hroad x hx).1] at hbt
    exact absurd (of_decide_eq_true hbt) hne
theorem law_RecirculateFinds (p0 : List Int) (w0 : InL (In .u8) p0) : F_law14_RecirculateFinds p0 = some true := by
  refine Ok.val ?_
  unfold F_law14_RecirculateFinds
  refine ok_bind (ok_and (air_ok p0 (bytesOf w0)) (vair_ok p0 (bytesOf w0))) fun x h => ?_
  obtain ⟨h1, hV⟩ := h
  have hz := sz_of h1.m
  have hr := h1.m.r1
  have hp := h1.m.p2
  have hf := h1.f
  have hsl := h1.s.1
  have hR : Rt x.1.Mine := ⟨by omega, by omega, h1.m.rd⟩
  have hcl := circlesF_len (m := x.1.Mine) (f := x.2.1)
  rw [circles_eq _ _ hz, bind_some]
  rw [all_loop x.1.Mine.Roads (fun _ => false) (fun i r hx => ?_) (by unfold F_law14_RecirculateFinds_L1; rw [bif_neg (by omega)]), bind_some]
  · have e : (x.1.Mine.Roads.all fun _ => !false) = true := List.all_eq_true.2 fun _ _ => rfl
    rw [e, if_pos rfl]
    exact ok_awake (ok_some rfl)
  · refine Ok.val ?_
    have hi := (List.getElem?_eq_some_iff.1 hx).1
    obtain ⟨c1, c2, c3, c4⟩ := hR.rd (rd0 x.1.Mine i) (List.mem_of_getElem? (rd0_get hi))
    obtain ⟨p, hp1, hp2⟩ := sf_get (m := x.1.Mine) c1 c2
    obtain ⟨q, hq1, hq2⟩ := sf_get (m := x.1.Mine) c3 c4
    have hA := arcsF_ok (f := x.2.1) hR
    unfold F_law14_RecirculateFinds_L1
    rw [bif_pos (by omega), getI_nat (l := x.1.Mine.Roads), rd0_get hi, bind_some, hp1, bind_some, hq1, bind_some, hp2, hq2]
    refine ok_bind (Q := fun b => (b = true → (rd0 x.1.Mine i).Closed = false ∧ sf x.1.Mine (rd0 x.1.Mine i).From = false ∧ sf x.1.Mine (rd0 x.1.Mine i).To = false) ∧ (b = false → (rd0 x.1.Mine i).Closed = true ∨ sf x.1.Mine (rd0 x.1.Mine i).From = true ∨ sf x.1.Mine (rd0 x.1.Mine i).To = true)) ?_ fun b hb => ?_
    · cases (rd0 x.1.Mine i).Closed <;> cases sf x.1.Mine (rd0 x.1.Mine i).From <;> cases sf x.1.Mine (rd0 x.1.Mine i).To <;> exact ⟨_, rfl, by simp, by simp⟩
    refine ok_bind (Q := fun o => o = decide ((i : Int) ∈ circlesF x.1.Mine x.2.1)) ?_ fun o ho => ?_
    · have hmem : (i : Int) ∈ circlesF x.1.Mine x.2.1 ↔ rtB x.1.Mine x.2.1 = true ∧ ∃ d, can x.1.Mine x.2.1 i d = true ∧ onArc x.1.Mine (arcsF x.1.Mine x.2.1) (arcD x.1.Mine i d) = true := by
        rw [circlesF_mem]
        constructor
        · rintro ⟨h1, j, d, _, h3, h4, h5⟩
          have : j = i := by omega
          subst this
          exact ⟨h1, d, h4, h5⟩
        · rintro ⟨h1, d, h4, h5⟩
          exact ⟨h1, i, d, hi, rfl, h4, h5⟩
      refine ok_bif (fun hbt => ?_) (fun hbf => ok_some ?_)
      · obtain ⟨q1, q2, q3⟩ := hb.1 hbt
        have hVm : MnV x.1.Mine := by
          rcases hV with h | h
          · exact h
          · have := h _ c1 c2
            rw [q2] at this
            cases this
        have hrt : rtB x.1.Mine x.2.1 = true := by
          unfold rtB
          rw [decide_eq_true (chk_of h1.m hVm), decide_eq_true (by omega)]
          rfl
        have hgf : getI x.2.1 (i : Int) = some (sp0 x.2.1 i) := by rw [getI_nat]; exact sp0_get (by omega)
        rw [makI_ok (by omega) (by omega), bind_some, Int.toNat_natCast]
        refine ok_bind (ok_getI (by omega) (by simp; omega)) fun _ _ => ?_
        rw [Int.toNat_natCast, hgf, bind_some, bind_some]
        rw [show (List.replicate x.1.Mine.Roads.length false).set i true = seed x.1.Mine.Roads.length (i : Int) from by unfold seed; rw [Int.toNat_natCast]]
        have k1 := wk_iff (f := x.2.1) hR hVm.2 hi q3 q2 c1 c2
        have k2 := wk_iff (f := x.2.1) hR hVm.2 hi q2 q3 c3 c4
        have w1 := walks_ok hR (f := x.2.1) (by omega) (rd0 x.1.Mine i).From 6 40 (rd0 x.1.Mine i).To (seed x.1.Mine.Roads.length (i : Int)) (by decide) (by decide) c3 c4 (seed_len _ _)
        have w2 := walks_ok hR (f := x.2.1) (by omega) (rd0 x.1.Mine i).To 6 40 (rd0 x.1.Mine i).From (seed x.1.Mine.Roads.length (i : Int)) (by decide) (by decide) c1 c2 (seed_len _ _)
        have hD : ((i : Int) ∈ circlesF x.1.Mine x.2.1) ↔ (0 < (sp0 x.2.1 i).High ∧ Rch x.1.Mine (i : Int) (arcsF x.1.Mine x.2.1) (· = (rd0 x.1.Mine i).To) (rd0 x.1.Mine i).From) ∨ ((sp0 x.2.1 i).Low < 0 ∧ Rch x.1.Mine (i : Int) (arcsF x.1.Mine x.2.1) (· = (rd0 x.1.Mine i).From) (rd0 x.1.Mine i).To) := by
          rw [hmem]
          constructor
          · rintro ⟨_, d, h4, h5⟩
            have h6 := (on_iff hA (arcD_ok hR hi d)).1 h5
            cases d
            · simp [can, q1] at h4
              exact .inl ⟨h4, h6.2.2⟩
            · simp [can, q1] at h4
              exact .inr ⟨h4, h6.2.2⟩
          · rintro (⟨h4, h5⟩ | ⟨h4, h5⟩)
            · exact ⟨hrt, false, by simp [can, q1, h4], (on_iff hA (arcD_ok hR hi false)).2 ⟨q2, q3, h5⟩⟩
            · exact ⟨hrt, true, by simp [can, q1, h4], (on_iff hA (arcD_ok hR hi true)).2 ⟨q3, q2, h5⟩⟩
        have beq : ∀ {b : Bool} {P : Prop} [Decidable P], (b = true ↔ P) → b = decide P := fun {b P} _ h => by
          by_cases hp : P
          · rw [decide_eq_true hp]; exact h.2 hp
          · rw [decide_eq_false hp]
            cases b with
            | true => exact absurd (h.1 rfl) hp
            | false => rfl
        refine ok_dec (fun hH => ?_) (fun hH => ?_)
        · refine ok_bind w1 fun x28 h28 => ?_
          refine ok_bif (fun hb1 => ok_some (decide_eq_true (hD.2 (.inl ⟨hH, k1.1 (h28.2.1 hb1)⟩))).symm) (fun hb1 => ?_)
          have hn1 : ¬ Rch x.1.Mine (i : Int) (arcsF x.1.Mine x.2.1) (· = (rd0 x.1.Mine i).To) (rd0 x.1.Mine i).From := fun h => by
            rw [h28.2.2 (k1.2 h)] at hb1
            cases hb1
          refine ok_dec (fun hL => ?_) (fun hL => ok_some (decide_eq_false fun h => by rcases hD.1 h with h | h; exact hn1 h.2; exact hL h.1).symm)
          rw [h28.1]
          refine ok_bind w2 fun x34 h34 => ok_some (beq ?_)
          rw [hD, h34.2, k2]
          exact ⟨fun h => .inr ⟨hL, h⟩, fun h => by rcases h with h | h; exact absurd h.2 hn1; exact h.2⟩
        · refine ok_dec (fun hL => ?_) (fun hL => ok_some (decide_eq_false fun h => by rcases hD.1 h with h | h; exact hH h.1; exact hL h.1).symm)
          refine ok_bind w2 fun x34 h34 => ok_some (beq ?_)
          rw [hD, h34.2, k2]
          exact ⟨fun h => .inr ⟨hL, h⟩, fun h => by rcases h with h | h; exact absurd h.1 hH; exact h.2⟩
      · refine (decide_eq_false fun h => ?_).symm
        obtain ⟨_, d, h4, h5⟩ := hmem.1 h
        obtain ⟨o1, o2, _⟩ := (on_iff hA (arcD_ok hR hi d)).1 h5
        rcases hb.2 hbf with h | h | h
        · simp [can, h] at h4
        · cases d
          · rw [show (arcD x.1.Mine i false).from_ = (rd0 x.1.Mine i).From from rfl, h] at o1; cases o1
          · rw [show (arcD x.1.Mine i true).to_ = (rd0 x.1.Mine i).From from rfl, h] at o2; cases o2
        · cases d
          · rw [show (arcD x.1.Mine i false).to_ = (rd0 x.1.Mine i).To from rfl, h] at o2; cases o2
          · rw [show (arcD x.1.Mine i true).from_ = (rd0 x.1.Mine i).To from rfl, h] at o1; cases o1
    · subst ho
      rw [has_eq _ _ (by omega), bind_some, w64 (by omega) (by omega)]
      simp
      exact ok_some rfl
end Go.L
