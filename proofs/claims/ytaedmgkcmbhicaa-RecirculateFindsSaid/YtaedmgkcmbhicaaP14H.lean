/- RecirculateWider. -/
import Derived.Test.YtaedmgkcmbhicaaP14G
namespace Go.L
open Go Go.Aml

theorem mmod_ok (k : Int) (n : Nat) (hn : n ≤ 1000000) (h1 : 1 ≤ n) : Ok (F_draw_Mod k (n : Int)) fun r => 0 ≤ r ∧ r < (n : Int) :=
  ok_mono (mod_ok k n (by omega)) fun r h => ⟨h.1, h.2.1 (by omega)⟩
/-- Wider spans. -/
theorem can_wide {m : T_Mine} {f g : List T_Span} (h : ∀ i, (sp0 g i).Low ≤ (sp0 f i).Low ∧ (sp0 f i).High ≤ (sp0 g i).High) {i : Nat} {d : Bool} (hc : can m f i d = true) : can m g i d = true := by
  obtain ⟨h1, h2⟩ := h i
  cases hcl : (rd0 m i).Closed <;> cases d <;> simp [can, hcl] at hc ⊢ <;> omega
theorem arcs_wide {m : T_Mine} {f g : List T_Span} (h : ∀ i, (sp0 g i).Low ≤ (sp0 f i).Low ∧ (sp0 f i).High ≤ (sp0 g i).High) : ∀ a ∈ arcsF m f, a ∈ arcsF m g := fun a ha => by
  obtain ⟨i, d, h1, h2, rfl⟩ := arcsF_mem.1 ha
  exact arcsF_mem.2 ⟨i, d, h1, can_wide h h2, rfl⟩
theorem rtB_len {m : T_Mine} {f g : List T_Span} (h : f.length = g.length) : rtB m f = rtB m g := by unfold rtB; rw [h]
theorem circles_wide {m : T_Mine} {f g : List T_Span} (hl : f.length = g.length) (h : ∀ i, (sp0 g i).Low ≤ (sp0 f i).Low ∧ (sp0 f i).High ≤ (sp0 g i).High) {v : Int} (hv : v ∈ circlesF m f) : v ∈ circlesF m g := by
  obtain ⟨hr, i, d, h1, h2, h3, h4⟩ := circlesF_mem.1 hv
  obtain ⟨hR, _⟩ := rtB_is hr
  exact circlesF_mem.2 ⟨by rw [← rtB_len hl]; exact hr, i, d, h1, h2, can_wide h h3, on_mono (arcs_wide h) (arcsF_ok hR) (arcD_ok hR h1 d) h4⟩
theorem mixed_wide {m : T_Mine} {f g : List T_Span} (hl : f.length = g.length) (h : ∀ i, (sp0 g i).Low ≤ (sp0 f i).Low ∧ (sp0 f i).High ≤ (sp0 g i).High) {v : Int} (hv : v ∈ mixedF m f) : v ∈ mixedF m g ∧ sf m v = false ∧ 0 ≤ v ∧ v < (m.Places.length : Int) := by
  obtain ⟨hr, h1, h2, h3⟩ := mixed_mem.1 hv
  obtain ⟨hR, _⟩ := rtB_is hr
  refine ⟨mixed_mem.2 ⟨by rw [← rtB_len hl]; exact hr, h1, h2, h3.mono (arcs_wide h) fun k hk => .base k ?_⟩, h3.surf (mixS_surf (arcsF_ok hR)), h1, h2⟩
  obtain ⟨a, ha, hk⟩ := hk
  obtain ⟨q1, q2⟩ := circ_sub a ha
  exact ⟨a, circ_mem.2 ⟨arcs_wide h a q1, on_mono (arcs_wide h) (arcsF_ok hR) (arcsF_ok hR a q1) q2⟩, hk⟩
/-- A road is closed. -/
def shutM (m : T_Mine) (k : Nat) : T_Mine := ⟨m.Places, m.Roads.set k ⟨(rd0 m k).From, (rd0 m k).To, (rd0 m k).Length, (rd0 m k).Area, (rd0 m k).Walk, true, (rd0 m k).Rest, (rd0 m k).Lift⟩⟩
theorem shut_rd {m : T_Mine} {k i : Nat} (hk : k < m.Roads.length) : rd0 (shutM m k) i = if i = k then ⟨(rd0 m k).From, (rd0 m k).To, (rd0 m k).Length, (rd0 m k).Area, (rd0 m k).Walk, true, (rd0 m k).Rest, (rd0 m k).Lift⟩ else rd0 m i := by
  unfold shutM
  show ((m.Roads.set k _)[i]?).getD _ = _
  rw [List.getElem?_set]
  by_cases h : k = i
  · rw [if_pos h, if_pos (by omega), if_pos h.symm]; rfl
  · rw [if_neg h, if_neg (fun e => h e.symm)]; rfl
theorem first_set {α : Type} {e : α → Int} : ∀ (l : List α) (k : Nat) (x y : α), l[k]? = some x → e y = e x → firstE e (l.set k y) = firstE e l
  | [], k, x, y, h, _ => by simp at h
  | z :: l, 0, x, y, h, he => by
    have : z = x := by simpa using h
    subst this
    rw [List.set_cons_zero]
    unfold firstE
    rw [he]
  | z :: l, k + 1, x, y, h, he => by
    rw [List.set_cons_succ]
    unfold firstE
    rw [first_set l k x y (by simpa using h) he]
theorem shut_chk {m : T_Mine} {k : Nat} (hk : k < m.Roads.length) : chkM (shutM m k) = chkM m := by
  unfold chkM shutM
  dsimp only
  rw [List.length_set, first_set (e := rdErr m.Places.length) m.Roads k (rd0 m k) _ (rd0_get hk) (by rfl)]
theorem shut_can {m : T_Mine} {f : List T_Span} {k i : Nat} {d : Bool} (hk : k < m.Roads.length) (h : can (shutM m k) f i d = true) : can m f i d = true ∧ i ≠ k ∧ arcD (shutM m k) i d = arcD m i d := by
  unfold can at h
  rw [shut_rd hk] at h
  by_cases e : i = k
  · rw [if_pos e] at h; cases h
  · rw [if_neg e] at h
    refine ⟨h, e, ?_⟩
    unfold arcD
    rw [shut_rd hk, if_neg e]
theorem rch_shut {m : T_Mine} {w : Int} {l : List Arc} {S : Int → Prop} {k : Nat} {v : Int} (h : Rch (shutM m k) w l S v) : Rch m w l S v := by
  induction h with
  | base v h => exact .base v h
  | step a ha hw _ ht ih => exact .step a ha hw ih ht
theorem circles_shut {m : T_Mine} {f : List T_Span} {k : Nat} (hk : k < m.Roads.length) {v : Int} (hv : v ∈ circlesF (shutM m k) f) : v ∈ circlesF m f ∧ v ≠ (k : Int) := by
  obtain ⟨hr, i, d, h1, rfl, h3, h4⟩ := circlesF_mem.1 hv
  have hlen : (shutM m k).Roads.length = m.Roads.length := by unfold shutM; exact List.length_set
  have hr' : rtB m f = true := by
    unfold rtB at hr ⊢
    rw [shut_chk hk, hlen] at hr
    exact hr
  obtain ⟨hR, _⟩ := rtB_is hr
  obtain ⟨hR', _⟩ := rtB_is hr'
  obtain ⟨c1, c2, c3⟩ := shut_can hk h3
  rw [hlen] at h1
  refine ⟨circlesF_mem.2 ⟨hr', i, d, h1, rfl, c1, ?_⟩, by omega⟩
  obtain ⟨o1, o2, o3⟩ := (on_iff (arcsF_ok hR) (arcD_ok hR (by rw [hlen]; exact h1) d)).1 h4
  rw [c3] at o1 o2 o3
  refine (on_iff (arcsF_ok hR') (arcD_ok hR' h1 d)).2 ⟨o1, o2, (rch_shut o3).mono (fun a ha => ?_) (fun v h => .base v h)⟩
  obtain ⟨j, e, j1, j2, rfl⟩ := arcsF_mem.1 ha
  obtain ⟨b1, b2, b3⟩ := shut_can hk j2
  rw [b3]
  exact arcsF_mem.2 ⟨j, e, by rw [hlen] at j1; exact j1, b1, rfl⟩
/-- All of a row are in another. -/
theorem all_in {x y : List Int} {g : Int → Option (Int ⊕ (Unit ⊕ Unit))} (h : ∀ (i : Nat) (v : Int), x[i]? = some v → v ∈ x → g (i : Int) = some (.inl ((i : Int) + 1))) (hend : g (x.length : Int) = some (.inr (.inr ()))) : loopC g 0 = some (.inr ()) := by
  rw [all_loop x (fun _ => false) (fun i v hv => h i v hv (List.mem_of_getElem? hv)) hend]
  simp
theorem mixedF_len {m : T_Mine} {f : List T_Span} : (mixedF m f).length ≤ m.Places.length := by
  have hb : ∀ v ∈ mixedF m f, 0 ≤ v ∧ v < (m.Places.length : Int) := fun v hv => by
    obtain ⟨_, h1, h2, _⟩ := mixed_mem.1 hv
    exact ⟨h1, h2⟩
  unfold mixedF idx
  split
  · rw [List.length_map]
    refine Nat.le_trans (List.length_filter_le ..) ?_
    rw [List.length_range]
    unfold mixO
    rw [spreadC_len]
    have : ∀ (l : List Arc) (o : List Bool), (marks l o).length = o.length := by
      intro l
      induction l with
      | nil => intro o; rfl
      | cons a l ih => intro o; exact (ih _).trans (by rw [List.length_set, List.length_set])
    rw [this, List.length_replicate]
    exact Nat.le_refl _
  · simp

theorem law_RecirculateWider (p0 : List Int) (w0 : InL (In .u8) p0) (p1 : Int) (w1 : In .i64 p1) (p2 : Int) (w2 : In .u8 p2) : F_law14_RecirculateWider p0 p1 p2 = some true := by
  refine Ok.val ?_
  unfold F_law14_RecirculateWider
  refine ok_bind (air_ok p0 (bytesOf w0)) fun x1 h1 => ?_
  refine ok_dec (fun _ => ok_awake (ok_some rfl)) (fun hne => ?_)
  have hz := sz_of h1.m
  have hr := h1.m.r1
  have hp := h1.m.p2
  obtain ⟨s1, s2⟩ := h1.s
  have hf := h1.f
  have hu := In.u8 w2
  rw [appI_ok (by simp; omega), bind_some, List.nil_append]
  refine ok_bind (mmod_ok p1 x1.2.1.length (by omega) (by omega)) fun x8 h8 => ?_
  obtain ⟨k, rfl⟩ : ∃ k : Nat, x8 = (k : Int) := ⟨x8.toNat, by omega⟩
  have hk : k < x1.2.1.length := by omega
  have hsp := s2 k (sp0 x1.2.1 k) (x1.2.2[k]'(by omega)) (sp0_get hk) (List.getElem?_eq_getElem (by omega))
  rw [getI_nat, sp0_get hk, bind_some, bind_some, bind_some, Int.toNat_natCast, w64 (n := p2) (by omega) (by omega), w64 (n := (sp0 x1.2.1 k).Low - p2) (by omega) (by omega), w64 (n := (sp0 x1.2.1 k).High + p2) (by omega) (by omega), getI_nat, List.getElem?_set_self hk, bind_some, List.set_set]
  unfold F_ref01_Copy
  rw [appI_ok (by simp; omega), bind_some, appI_ok (by simp; omega), bind_some, bind_some, List.nil_append, List.nil_append]
  dsimp only
  have hkr : k < x1.1.Mine.Roads.length := by omega
  rw [getI_nat, rd0_get hkr, bind_some, circles_eq _ _ hz, bind_some, circles_eq _ _ hz, bind_some]
  generalize hG : x1.2.1.set k ⟨(sp0 x1.2.1 k).Low - p2, (sp0 x1.2.1 k).High + p2⟩ = G
  have hGl : x1.2.1.length = G.length := by rw [← hG, List.length_set]
  have hGw : ∀ i, (sp0 G i).Low ≤ (sp0 x1.2.1 i).Low ∧ (sp0 x1.2.1 i).High ≤ (sp0 G i).High := fun i => by
    rw [← hG]
    by_cases e : k = i
    · subst e
      have : sp0 (x1.2.1.set k ⟨(sp0 x1.2.1 k).Low - p2, (sp0 x1.2.1 k).High + p2⟩) k = ⟨(sp0 x1.2.1 k).Low - p2, (sp0 x1.2.1 k).High + p2⟩ := by
        show ((x1.2.1.set k _)[k]?).getD _ = _
        rw [List.getElem?_set_self hk]
        rfl
      rw [this]
      dsimp only
      omega
    · have : sp0 (x1.2.1.set k ⟨(sp0 x1.2.1 k).Low - p2, (sp0 x1.2.1 k).High + p2⟩) i = sp0 x1.2.1 i := by
        show ((x1.2.1.set k _)[i]?).getD _ = _
        rw [List.getElem?_set_ne e]
        rfl
      rw [this]
      omega
  have hsh : (T_Mine.mk x1.1.Mine.Places (x1.1.Mine.Roads.set k ⟨(rd0 x1.1.Mine k).From, (rd0 x1.1.Mine k).To, (rd0 x1.1.Mine k).Length, (rd0 x1.1.Mine k).Area, (rd0 x1.1.Mine k).Walk, true, (rd0 x1.1.Mine k).Rest, (rd0 x1.1.Mine k).Lift⟩)) = shutM x1.1.Mine k := rfl
  rw [hsh, circles_eq _ _ ⟨by unfold shutM; dsimp only; rw [List.length_set]; omega, by unfold shutM; dsimp only; omega⟩, bind_some]
  have c1 := circlesF_len (m := x1.1.Mine) (f := x1.2.1)
  have c2 := circlesF_len (m := x1.1.Mine) (f := G)
  have c3 := circlesF_len (m := shutM x1.1.Mine k) (f := x1.2.1)
  have c3' : (shutM x1.1.Mine k).Roads.length = x1.1.Mine.Roads.length := by unfold shutM; exact List.length_set
  have c4 := mixedF_len (m := x1.1.Mine) (f := x1.2.1)
  have c5 := mixedF_len (m := x1.1.Mine) (f := G)
  rw [all_in (x := circlesF x1.1.Mine x1.2.1) (y := []) (fun i v hv hm => by
    have hi := (List.getElem?_eq_some_iff.1 hv).1
    unfold F_law14_RecirculateWider_L1
    rw [bif_pos (by omega), getI_nat, hv, bind_some, has_eq _ _ (by omega), bind_some, decide_eq_true (circles_wide hGl hGw hm), Bool.not_true, cond_false, w64 (by omega) (by omega)]) (by unfold F_law14_RecirculateWider_L1; rw [bif_neg (by omega)]), bind_some]
  dsimp only [Sum.elim_inr]
  rw [all_in (x := circlesF (shutM x1.1.Mine k) x1.2.1) (y := []) (fun i v hv hm => by
    have hi := (List.getElem?_eq_some_iff.1 hv).1
    obtain ⟨q1, q2⟩ := circles_shut hkr hm
    unfold F_law14_RecirculateWider_L2
    rw [bif_pos (by omega), getI_nat, hv, bind_some, has_eq _ _ (by omega), bind_some, decide_eq_true q1, Bool.not_true, cond_false, bind_some, bind_some, bif_neg q2, w64 (by omega) (by omega)]) (by unfold F_law14_RecirculateWider_L2; rw [bif_neg (by omega)]), bind_some]
  dsimp only [Sum.elim_inr]
  rw [mixed_eq _ _ hz, bind_some, mixed_eq _ _ hz, bind_some]
  rw [all_in (x := mixedF x1.1.Mine x1.2.1) (y := []) (fun i v hv hm => by
    have hi := (List.getElem?_eq_some_iff.1 hv).1
    obtain ⟨q1, q2, q3, q4⟩ := mixed_wide hGl hGw hm
    obtain ⟨p, hp1, hp2⟩ := sf_get (m := x1.1.Mine) q3 q4
    unfold F_law14_RecirculateWider_L3
    rw [bif_pos (by omega), getI_nat, hv, bind_some, has_eq _ _ (by omega), bind_some, decide_eq_true q1, Bool.not_true, cond_false, bind_some, hp1, bind_some, hp2, q2, bind_some, cond_false, w64 (by omega) (by omega)]) (by unfold F_law14_RecirculateWider_L3; rw [bif_neg (by omega)]), bind_some]
  exact ok_awake (ok_some rfl)
end Go.L
