/- Doors: the laws. -/
import Derived.Test.YtnmimlcnifflbaaP08B
namespace Go.L
open Go Go.Aml
theorem speq (a : T_Span) : ((a.Low == a.Low) && ((a.High == a.High) && true)) = true := by simp
theorem law_DoorOpens (p0 : List Int) (w0 : InL (In .u8) p0) (p1 : List Int) (w1 : InL (In .i64) p1) (p2 : Int) (w2 : In .i64 p2) (p3 : Int) (w3 : In .i64 p3) : F_law08_DoorOpens p0 p1 p2 p3 = some true := by
  refine Ok.val ?_
  unfold F_law08_DoorOpens
  refine ok_bind (doors_ok p0 p2 p3 w0) fun x1 h1 => ?_
  rw [open_eq, bind_some, ropen_eq, bind_some, ints_same _ (by have := opn_len x1.1 x1.2; omega), bind_some, cond_true]
  rw [open_eq, bind_some, ropen_eq, bind_some, ints_same _ (by have := opn_len x1.1 p1; omega), bind_some, cond_true]
  exact ok_awake (ok_some rfl)
theorem law_DoorChecks (p0 : List Int) (w0 : InL (In .u8) p0) (p1 : List T_Door) (w1 : InL T_Door.Wf p1) (p2 : Int) (w2 : In .i64 p2) (p3 : Int) (w3 : In .i64 p3) (p4 : Int) (w4 : In .i64 p4) : F_law08_DoorChecks p0 p1 p2 p3 p4 = some true := by
  refine Ok.val ?_
  unfold F_law08_DoorChecks
  refine ok_dec (fun _ => ok_awake (ok_some rfl)) (fun hp => ?_)
  refine ok_bind (doors_ok p0 p2 p3 w0) fun x4 h4 => ?_
  refine ok_bind (Q := (· = .inr ())) (ok_loop (fun s : Int => 0 ≤ s ∧ s ≤ 2) (fun s => (2 - s).toNat) _ (fun s hs => ?_) 0 ⟨Int.le_refl 0, by decide⟩) fun o ho => ?_
  · unfold F_law08_DoorChecks_L1
    have hl2 : (([x4.1, p1].length : Nat) : Int) = 2 := rfl
    rw [hl2]
    refine ok_dec (fun hlt => ?_) (fun _ => ok_some rfl)
    have e : IntKind.i64.wrap (s + 1) = s + 1 := w64 (by omega) (by omega)
    rw [e]
    refine ok_bind (ok_getI hs.1 (by rw [hl2]; exact hlt)) fun x11 h11 => ?_
    have hx : x11.length ≤ 30 ∧ ∀ d ∈ x11, d.Rests.length ≤ 9223372036854775807 := by
      have hm := mem_get h11
      simp at hm
      rcases hm with rfl | rfl
      · exact ⟨by have := h4.1.1; omega, fun d hd => by have := (h4.1.2 d hd).2; omega⟩
      · refine ⟨by omega, fun d hd => ?_⟩
        have := (w1.2 d hd).2.2.1.1
        have hm : maxLen ≤ 9223372036854775807 := by decide
        omega
    rw [check_eq, bind_some, rcheck_eq, bind_some, bif_neg (fun h => h rfl)]
    refine ok_bind (Q := (· = .inr ())) (ok_loop (fun i : Int => 0 ≤ i ∧ i ≤ x11.length) (fun i => (x11.length - i).toNat) _ (fun i hi => ?_) 0 ⟨Int.le_refl 0, by omega⟩) fun o2 ho2 => ?_
    · unfold F_law08_DoorChecks_L2
      refine ok_dec (fun hlt => ?_) (fun _ => ok_some rfl)
      have e : IntKind.i64.wrap (i + 1) = i + 1 := w64 (by omega) (by omega)
      rw [e]
      refine ok_bind (mod_ok p4 9 (by decide)) fun x23 h23 => ?_
      have hg := getI_ok (l := x11) hi.1 hlt
      have hd := hx.2 _ (List.getElem_mem (show i.toNat < x11.length by omega))
      generalize x11[i.toNat]'(by omega) = d at *
      rw [hg, bind_some, rest_eq _ _ hd, bind_some, bind_some, rrest_eq _ _ hd, bind_some, speq, Bool.not_true, cond_false, bind_some, rest_eq _ _ hd, bind_some, bind_some, rrest_eq _ _ hd, bind_some, speq, Bool.not_true, bind_some, cond_false]
      exact ok_some ⟨⟨by omega, by omega⟩, by omega⟩
    · subst ho2
      exact ok_some ⟨⟨by omega, by omega⟩, by show (2 - (s + 1)).toNat < (2 - s).toNat; omega⟩
  · subst ho
    exact ok_awake (ok_some rfl)
theorem law_DoorCommands (p0 : List Int) (w0 : InL (In .u8) p0) (p1 : List Int) (w1 : InL (In .i64) p1) (p2 : Int) (w2 : In .i64 p2) (p3 : Int) (w3 : In .i64 p3) (p4 : Int) (w4 : In .i64 p4) (p5 : Int) (w5 : In .i64 p5) : F_law08_DoorCommands p0 p1 p2 p3 p4 p5 = some true := by
  refine Ok.val ?_
  unfold F_law08_DoorCommands
  refine ok_bind (doors_ok p0 p2 p3 w0) fun x1 h1 => ?_
  have hl := h1.1.1
  have e : IntKind.i64.wrap ((x1.1.length : Int) + 1) = x1.1.length + 1 := w64 (by omega) (by omega)
  rw [e]
  refine ok_bind (mod_ok p4 _ (by omega)) fun x3 h3 => ?_
  refine ok_bind (mod_ok p5 7 (by decide)) fun x5 h5 => ?_
  refine ok_bind (Q := (· = .inr ())) (ok_loop (fun s : Int => 0 ≤ s ∧ s ≤ 2) (fun s => (2 - s).toNat) _ (fun s hs => ?_) 0 ⟨Int.le_refl 0, by decide⟩) fun o ho => ?_
  · unfold F_law08_DoorCommands_L1
    have hl2 : (([x1.2, p1].length : Nat) : Int) = 2 := rfl
    rw [hl2]
    refine ok_dec (fun hlt => ?_) (fun _ => ok_some rfl)
    have e : IntKind.i64.wrap (s + 1) = s + 1 := w64 (by omega) (by omega)
    rw [e]
    refine ok_bind (ok_getI hs.1 (by rw [hl2]; exact hlt)) fun x12 h12 => ?_
    rw [command_eq, bind_some, rcommand_eq, bind_some, seen_eq, bind_some, rseen_eq, bind_some, bif_neg (fun h => h rfl), bif_neg (fun h => h rfl)]
    rw [ints_same _ (by have := cmd_len x1.1 x12 x3 (IntKind.i64.wrap (x5 - 2)); omega), bind_some, Bool.not_true, cond_false, ints_same _ (by have := see_len x1.1 x12 x3 (IntKind.i64.wrap (x5 - 2)); omega), bind_some, Bool.not_true, bind_some, cond_false]
    exact ok_some ⟨⟨by omega, by omega⟩, by show (2 - (s + 1)).toNat < (2 - s).toNat; omega⟩
  · subst ho
    show Ok ((F_door_Command x1.1 x1.2 p4 p5).bind _) _
    rw [command_eq, bind_some, rcommand_eq, bind_some, bif_pos rfl, ints_same _ (by have := cmd_len x1.1 x1.2 p4 p5; omega), bind_some, cond_true]
    exact ok_awake (ok_some rfl)

/-! ### locks -/
def Safe (l : List T_Door) (st : List Int) : Prop := ∀ i : Int, 0 ≤ i → i < (l.length : Int) → 0 ≤ oth l i → stv st i = 0 ∨ stv st (oth l i) = 0
theorem stv_set {st : List Int} {p i k : Int} (h0 : 0 ≤ p) (h1 : p < (st.length : Int)) (hi : 0 ≤ i) : stv (st.set p.toNat k) i = if i = p then k else stv st i := by
  unfold stv
  rw [List.getElem?_set]
  by_cases h : i = p
  · subst h
    rw [if_pos rfl, if_pos (by omega), if_pos rfl]; rfl
  · rw [if_neg (by omega), if_neg h]
theorem safe_cmd {l : List T_Door} {st : List Int} {p k : Int} (h : (cmdF l st p k).2 = 0) (hs : Safe l st) : Safe l (cmdF l st p k).1 ∧ (cmdF l st p k).1.length = l.length := by
  unfold cmdF at h ⊢
  by_cases h1 : chgF l st p k 0 ≠ 0
  · rw [if_pos h1] at h; exact absurd h h1
  rw [if_neg h1] at h ⊢
  by_cases h2 : lk l st p k
  · rw [if_pos h2] at h; cases h
  rw [if_neg h2]
  obtain ⟨a1, a2, a3, a4, a5, a6⟩ := chg_zero (Decidable.byContradiction h1)
  refine ⟨fun i hi hil ho => ?_, by simp [a2]⟩
  have hr := oth_range a1 hi hil
  have hp := oth_range a1 a3 a4
  have hlk : k = 0 ∨ oth l p < 0 ∨ stv st (oth l p) = 0 := by
    by_cases q1 : k = 0
    · exact .inl q1
    by_cases q2 : 0 ≤ oth l p
    · exact .inr (.inr (Decidable.byContradiction fun q3 => h2 ⟨q1, q2, q3⟩))
    · exact .inr (.inl (by omega))
  dsimp only
  rw [stv_set a3 (by omega) hi, stv_set a3 (by omega) ho]
  by_cases e1 : i = p
  · subst e1
    rw [if_pos rfl]
    rcases hlk with q | q | q
    · exact .inl q
    · omega
    · right
      split
      · omega
      · exact q
  · rw [if_neg e1]
    by_cases e2 : oth l i = p
    · rw [if_pos e2]
      rcases hlk with q | q | q
      · exact .inr q
      · have : oth l p = i := by rcases hr with hr | hr; omega; rw [← e2]; exact hr.2.2.2
        omega
      · have : oth l p = i := by rcases hr with hr | hr; omega; rw [← e2]; exact hr.2.2.2
        rw [this] at q
        exact .inl q
    · rw [if_neg e2]
      exact hs i hi hil ho
theorem safe_open {l : List T_Door} {st : List Int} (h : Safe l st) : opnF l st = [] := by
  unfold opnF
  split
  · rfl
  · rw [List.map_eq_nil_iff, List.filter_eq_nil_iff]
    intro i hi
    have hil : i < l.length := by
      have := List.mem_range'_1.1 hi
      omega
    unfold bo
    intro hb
    obtain ⟨b1, b2, b3⟩ := of_decide_eq_true hb
    rcases h i (by omega) (by omega) b1 with q | q
    · exact b2 q
    · exact b3 q
theorem law_DoorLocks (p0 : List Int) (w0 : InL (In .u8) p0) (p1 : List Int) (w1 : InL (In .u16) p1) : F_law08_DoorLocks p0 p1 = some true := by
  refine Ok.val ?_
  unfold F_law08_DoorLocks
  refine ok_bind (doors_ok p0 0 0 w0) fun x1 h1 => ?_
  have hl := h1.1.1
  rw [rcheck_eq, bind_some, or_bif rfl, bind_some]
  refine ok_dec (fun _ => ok_awake (ok_some rfl)) (fun hc => ?_)
  rw [makI_ok (by omega) (by omega), bind_some]
  refine ok_bind (Q := (· = .inr ())) (ok_loop (fun s : List Int × Int => 0 ≤ s.2 ∧ s.2 ≤ p1.length ∧ s.1.length = x1.1.length ∧ Safe x1.1 s.1) (fun s => (p1.length - s.2).toNat) _ (fun s hs => ?_) _ ⟨Int.le_refl 0, by dsimp only; omega, by simp, fun i hi hil ho => .inl ?_⟩) fun o ho => ?_
  · obtain ⟨st, i⟩ := s
    obtain ⟨a1, a2, a3, a4⟩ := hs
    dsimp only at a1 a2 a3 a4
    unfold F_law08_DoorLocks_L1
    dsimp only
    refine ok_dec (fun hlt => ?_) (fun _ => ok_some rfl)
    have e : IntKind.i64.wrap (i + 1) = i + 1 := w64 (by omega) (by omega)
    rw [e]
    refine ok_bind (Q := fun o : Unit ⊕ List Int => ∃ st', o = .inr st' ∧ st'.length = x1.1.length ∧ Safe x1.1 st') ?_ fun o17 h17 => ?_
    · rw [getI_ok a1 hlt, bind_some, bind_some, command_eq, bind_some]
      generalize hp : IntKind.i64.wrap (Int.tmod (p1[i.toNat]'(by omega)) 8) = p
      generalize hk : IntKind.i64.wrap (IntKind.i64.wrap (Int.tmod (IntKind.u16.wrap (Int.tdiv (p1[i.toNat]'(by omega)) 8)) 7) - 1) = k
      refine ok_dec (fun _ => ok_some ⟨st, rfl, a3, a4⟩) (fun h0 => ?_)
      obtain ⟨b1, b2⟩ := safe_cmd (Decidable.byContradiction h0) a4
      have e3 : opnF x1.1 (cmdF x1.1 st p k).1 = [] := safe_open b1
      rw [open_eq, bind_some, e3, bif_neg (by omega), bind_some, bif_neg (by decide)]
      exact ok_some ⟨_, rfl, b2, b1⟩
    · obtain ⟨st', rfl, b1, b2⟩ := h17
      exact ok_some ⟨⟨by dsimp only; omega, by dsimp only; omega, b1, b2⟩, by show ((p1.length : Int) - (i + 1)).toNat < ((p1.length : Int) - i).toNat; omega⟩
  · unfold stv
    dsimp only
    rw [List.getElem?_replicate]
    split <;> rfl
  · subst ho
    exact ok_awake (ok_some rfl)

/-! ### shutting -/
theorem foldmin_le : ∀ (r : List Int) (a : Int), r.foldl min a ≤ a ∧ ∀ x ∈ r, r.foldl min a ≤ x
  | [], a => ⟨Int.le_refl a, fun x h => by cases h⟩
  | y :: t, a => by
    obtain ⟨h1, h2⟩ := foldmin_le t (min a y)
    refine ⟨?_, fun x hx => ?_⟩
    · show t.foldl min (min a y) ≤ a; omega
    · show t.foldl min (min a y) ≤ x
      rcases List.mem_cons.1 hx with rfl | hx
      · omega
      · exact h2 x hx
theorem foldmax_ge : ∀ (r : List Int) (a : Int), a ≤ r.foldl max a ∧ ∀ x ∈ r, x ≤ r.foldl max a
  | [], a => ⟨Int.le_refl a, fun x h => by cases h⟩
  | y :: t, a => by
    obtain ⟨h1, h2⟩ := foldmax_ge t (max a y)
    refine ⟨?_, fun x hx => ?_⟩
    · show a ≤ t.foldl max (max a y); omega
    · show x ≤ t.foldl max (max a y)
      rcases List.mem_cons.1 hx with rfl | hx
      · omega
      · exact h2 x hx
theorem law_DoorShuts (p0 : List Int) (w0 : InL (In .u8) p0) (p1 : Int) (w1 : In .i64 p1) : F_law08_DoorShuts p0 p1 = some true := by
  refine Ok.val ?_
  unfold F_law08_DoorShuts
  refine ok_bind (doors_ok p0 0 0 w0) fun x1 h1 => ?_
  have hl := h1.1.1
  rw [rcheck_eq, bind_some, or_bif (or_bif rfl), bind_some]
  refine ok_dec (fun _ => ok_awake (ok_some rfl)) (fun hc => ?_)
  have c1 : chkD x1.1 = 0 := Decidable.byContradiction fun h => hc (.inl h)
  have c2 : 0 < x1.1.length := Nat.pos_of_ne_zero fun h => hc (.inr (.inl (by omega)))
  have c3 : x1.2.length = x1.1.length := Decidable.byContradiction fun h => hc (.inr (.inr (by omega)))
  refine ok_bind (mod_ok p1 _ (by omega)) fun x11 h11 => ?_
  have hk := h11.2.1 (by omega)
  have hg := getI_ok (l := x1.1) h11.1 hk
  have hd := (chkD_zero c1).2 _ _ (getI_some hg).2
  have hrl := rl_get hg
  generalize x1.1[x11.toNat]'(by omega) = d at *
  have ec : cmdF x1.1 x1.2 x11 0 = (x1.2.set x11.toNat 0, 0) := by
    unfold cmdF
    have e1 : chgF x1.1 x1.2 x11 0 0 = 0 := by
      unfold chgF
      rw [if_neg (fun h => h c1), if_neg (by omega), if_neg (by omega), if_neg (by omega)]
    rw [e1, if_neg (fun h => h rfl), if_neg (fun h => h.1 rfl)]
  rw [command_eq, bind_some, ec]
  dsimp only
  rw [bif_neg (fun h => h rfl), List.length_set, bif_neg (by omega), getI_ok (l := x1.2.set x11.toNat 0) h11.1 (by rw [List.length_set]; omega), bind_some, List.getElem_set_self, bind_some, bif_neg (by decide)]
  have hdl : d.Rests.length ≤ 9223372036854775807 := by omega
  rw [hg, bind_some, rest_eq d _ hdl, bind_some]
  have er : rstS d (-1) = ⟨mnI d.Rests, mxI d.Rests⟩ := by
    unfold rstS
    rw [if_neg (by omega), if_pos rfl]
  rw [er]
  refine ok_bind (Q := (· = .inr ())) (ok_loop (fun i : Int => 0 ≤ i ∧ i ≤ d.Rests.length) (fun i => (d.Rests.length - i).toNat) _ (fun i hi => ?_) 0 ⟨Int.le_refl 0, by omega⟩) fun o ho => ?_
  · unfold F_law08_DoorShuts_L1
    rw [hg, bind_some]
    refine ok_dec (fun hlt => ?_) (fun _ => ok_some rfl)
    have e : IntKind.i64.wrap (i + 1) = i + 1 := w64 (by omega) (by omega)
    have hgi := getI_ok (l := d.Rests) hi.1 hlt
    have hm : d.Rests[i.toNat]'(by omega) ∈ d.Rests := List.getElem_mem _
    generalize d.Rests[i.toNat]'(by omega) = x at *
    have ei : rstS d i = ⟨x, x⟩ := by
      unfold rstS
      rw [if_neg (by omega), if_neg (by omega), (getI_some hgi).2]
      rfl
    rw [e, bind_some, rest_eq d _ hdl, bind_some, bind_some, hgi, bind_some, ei]
    dsimp only
    have q1 := (foldmin_le d.Rests (d.Rests.headD 0)).2 x hm
    have q2 := (foldmax_ge d.Rests (d.Rests.headD 0)).2 x hm
    unfold mnI mxI
    rw [bif_neg (fun h => h rfl), bif_neg (fun h => h rfl), bif_neg (by omega), decide_eq_false (by omega), bind_some, cond_false]
    exact ok_some ⟨⟨by omega, by omega⟩, by omega⟩
  · subst ho
    exact ok_awake (ok_some rfl)
end Go.L
