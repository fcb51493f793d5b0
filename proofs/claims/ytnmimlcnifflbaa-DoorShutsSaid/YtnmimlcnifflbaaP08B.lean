/- Doors: drawn doors; commands, what was seen, and open doors: program and reference agree. The laws. -/
import Derived.Test.YtnmimlcnifflbaaP08A
namespace Go.L
open Go Go.Aml
theorem ints_same (l : List Int) (hl : l.length ≤ 1000000) : F_ref01_Ints l l = some true := by
  unfold F_ref01_Ints
  rw [bif_neg (fun h => h rfl), loop_fun (fun s : Int => 0 ≤ s ∧ s ≤ l.length) (fun s => (l.length - s).toNat) (fun _ => .inr ()) (fun i hs => ?_) 0 ⟨Int.le_refl 0, by omega⟩]
  · rfl
  · unfold F_ref01_Ints_L1
    by_cases hlt : i < (l.length : Int)
    · rw [bif_pos hlt, getI_ok hs.1 hlt, bind_some, bind_some, bif_neg (fun h => h rfl), w64 (by omega) (by omega)]
      exact .inl ⟨i + 1, rfl, ⟨by omega, by omega⟩, by omega, rfl⟩
    · rw [bif_neg hlt]
      exact .inr rfl

/-! ### drawn doors -/
def RB (d : T_Door) : Prop := 1 ≤ d.Rests.length ∧ d.Rests.length ≤ 4
theorem door_ok (c : T_draw_Codes) (road : Int) (hc : CodesOk c) : Ok (F_draw_Codes_Door c road) fun r => CodesOk r.1 ∧ RB r.2 := by
  unfold F_draw_Codes_Door
  refine ok_bind (range_ok c 200 900 hc (by decide) (by decide) (by decide)) fun x1 h1 => ?_
  refine ok_bind (range_ok x1.1 1 3 h1.1 (by decide) (by decide) (by decide)) fun x3 h3 => ?_
  refine ok_bind (Q := fun o : List Int × T_draw_Codes => CodesOk o.2 ∧ 1 ≤ o.1.length ∧ o.1.length ≤ 4) (ok_loop (fun s : Int × List Int × T_draw_Codes => 0 ≤ s.1 ∧ CodesOk s.2.2 ∧ 1 ≤ s.2.1.length ∧ (s.2.1.length : Int) + s.1 ≤ 4) (fun s => s.1.toNat) _ (fun s hs => ?_) _ ⟨by dsimp only; omega, h3.1, by simp, by simp; omega⟩) fun o ho => ok_some ⟨ho.1, ho.2⟩
  obtain ⟨n, l, c⟩ := s
  dsimp only at hs
  unfold F_draw_Codes_Door_L1
  dsimp only
  refine ok_dec (fun hlt => ?_) (fun _ => ok_some ⟨hs.2.1, hs.2.2.1, by dsimp only; omega⟩)
  have e : IntKind.i64.wrap ((l.length : Int) - 1) = l.length - 1 := w64 (by omega) (by omega)
  have e2 : IntKind.i64.wrap (n - 1) = n - 1 := w64 (by omega) (by omega)
  rw [e, e2, getI_ok (by omega) (by omega), bind_some]
  refine ok_bind (range_ok c 1 60 hs.2.1 (by decide) (by decide) (by decide)) fun x10 h10 => ?_
  rw [appI_ok (by simp; omega), bind_some]
  refine ok_some ⟨⟨by dsimp only; omega, h10.1, by simp, by simp; omega⟩, by dsimp only; omega⟩
theorem ddoor_ok (c : T_draw_Codes) (f a b : Int) (hc : CodesOk c) : Ok (F_draw_Codes_DoubleDoor c f a b) fun r => CodesOk r.1 ∧ r.2.length = 2 ∧ ∀ d ∈ r.2, RB d := by
  unfold F_draw_Codes_DoubleDoor
  refine ok_bind (door_ok c a hc) fun x1 h1 => ?_
  refine ok_bind (door_ok x1.1 b h1.1) fun x3 h3 => ok_some ⟨h3.1, rfl, fun d hd => ?_⟩
  simp at hd
  rcases hd with rfl | rfl
  · exact h1.2
  · exact h3.2
def DrB (l : List T_Door) : Prop := l.length ≤ 6 ∧ ∀ d ∈ l, RB d
theorem DrB.set {l : List T_Door} (h : DrB l) (k : Nat) {d : T_Door} (hd : RB d) : DrB (l.set k d) := by
  refine ⟨by simpa using h.1, fun x hx => ?_⟩
  rcases List.mem_or_eq_of_mem_set hx with h1 | rfl
  · exact h.2 x h1
  · exact hd
theorem doors_ok (p0 : List Int) (p1 p2 : Int) (w0 : InL (In .u8) p0) : Ok (F_law08_doors p0 p1 p2) fun r => DrB r.1 ∧ r.2.length ≤ 6 := by
  unfold F_law08_doors
  refine ok_bind (new_ok p0 (fun x hx => In.u8 (w0.2 x hx))) fun x1 h1 => ?_
  refine ok_bind (next_lt x1 4 h1 (by decide)) fun x3 h3 => ?_
  refine ok_bind (Q := fun o : T_draw_Codes × List T_Door => CodesOk o.1 ∧ DrB o.2) (ok_loop (fun s : Int × T_draw_Codes × List T_Door => 0 ≤ s.1 ∧ CodesOk s.2.1 ∧ (s.2.2.length : Int) + 2 * s.1 ≤ 6 ∧ ∀ d ∈ s.2.2, RB d) (fun s => s.1.toNat) _ (fun s hs => ?_) _ ⟨by dsimp only; omega, h3.1, by simp; omega, fun d hd => by cases hd⟩) fun o6 h6 => ?_
  · obtain ⟨n, c, l⟩ := s
    obtain ⟨a1, a2, a3, a4⟩ := hs
    dsimp only at a1 a2 a3 a4
    unfold F_law08_doors_L1
    dsimp only
    refine ok_dec (fun hlt => ?_) (fun _ => ok_some ⟨a2, by dsimp only; omega, a4⟩)
    have e2 : IntKind.i64.wrap (n - 1) = n - 1 := w64 (by omega) (by omega)
    rw [e2]
    refine ok_bind (Q := fun o : T_draw_Codes × List T_Door => CodesOk o.1 ∧ (o.2.length : Int) ≤ l.length + 2 ∧ ∀ d ∈ o.2, RB d) ?_ fun o8 h8 => ok_some ⟨⟨by dsimp only; omega, h8.1, by dsimp only; omega, h8.2.2⟩, by dsimp only; omega⟩
    refine ok_bind (one_ok c 2 a2 (by decide)) fun x9 h9 => ?_
    refine ok_bif (fun _ => ?_) (fun _ => ?_)
    · refine ok_bind (next_lt x9.1 3 h9 (by decide)) fun x12 h12 => ?_
      refine ok_bind (next_lt x12.1 3 h12.1 (by decide)) fun x14 h14 => ?_
      refine ok_bind (ddoor_ok x14.1 _ x12.2 x14.2 h14.1) fun x16 h16 => ?_
      rw [appI_ok (by rw [h16.2.1]; omega), bind_some]
      refine ok_some ⟨h16.1, by rw [List.length_append, h16.2.1]; omega, fun d hd => ?_⟩
      rcases List.mem_append.1 hd with hd | hd
      · exact a4 d hd
      · exact h16.2.2 d hd
    · refine ok_bind (next_lt x9.1 3 h9 (by decide)) fun x20 h20 => ?_
      refine ok_bind (door_ok x20.1 x20.2 h20.1) fun x22 h22 => ?_
      rw [appI_ok (by simp; omega), bind_some]
      refine ok_some ⟨h22.1, by simp, fun d hd => ?_⟩
      rcases List.mem_append.1 hd with hd | hd
      · exact a4 d hd
      · simp at hd; subst hd; exact h22.2
  obtain ⟨h6a, h6b, h6c⟩ := h6
  refine ok_bind (Q := fun o : List Int × T_draw_Codes => CodesOk o.2 ∧ o.1.length = o6.2.length) (ok_loop (fun s : Int × List Int × T_draw_Codes => 0 ≤ s.1 ∧ CodesOk s.2.2 ∧ (s.2.1.length : Int) = s.1 ∧ s.1 ≤ o6.2.length) (fun s => (o6.2.length - s.1).toNat) _ (fun s hs => ?_) _ ⟨by dsimp only; omega, h6a, rfl, by dsimp only; omega⟩) fun o27 h27 => ?_
  · obtain ⟨i, st, c⟩ := s
    obtain ⟨a1, a2, a3, a4⟩ := hs
    dsimp only at a1 a2 a3 a4
    unfold F_law08_doors_L2
    dsimp only
    refine ok_dec (fun hlt => ?_) (fun _ => ok_some ⟨a2, by dsimp only; omega⟩)
    refine ok_bind (ok_getI a1 hlt) fun x29 h29 => ?_
    have hb := h6c x29 (mem_get h29)
    have e : IntKind.i64.wrap ((x29.Rests.length : Int) + 1) = x29.Rests.length + 1 := w64 (by omega) (by have := hb.2; omega)
    have e2 : IntKind.i64.wrap (i + 1) = i + 1 := w64 (by omega) (by omega)
    rw [e, e2]
    refine ok_bind (next_lt c _ a2 (by omega)) fun x31 h31 => ?_
    rw [appI_ok (by simp; omega), bind_some]
    exact ok_some ⟨⟨by dsimp only; omega, h31.1, by simp; omega, by dsimp only; omega⟩, by dsimp only; omega⟩
  refine ok_bind (Q := fun o : List Int × List T_Door => DrB o.2 ∧ o.1.length ≤ 6) ?_ fun o35 h35 => ok_some h35
  have base : DrB o6.2 ∧ o27.1.length ≤ 6 := ⟨⟨h6b, h6c⟩, by omega⟩
  refine ok_dec (fun hlt => ?_) (fun _ => ok_some base)
  refine ok_bind (mod_ok p1 _ (by omega)) fun x37 h37 => ?_
  have := h37.2.1 (by omega)
  refine ok_bind (ok_getI h37.1 this) fun x39 h39 => ?_
  have hb := h6c x39 (mem_get h39)
  refine ok_bind (next_lt o27.2 10 h27.1 (by decide)) fun x41 h41 => ?_
  refine ok_dec (fun _ => ok_some ⟨base.1.set _ hb, base.2⟩) (fun _ => ?_)
  refine ok_dec (fun _ => ?_) (fun _ => ?_)
  · refine ok_bind (mod_ok p1 _ (by have := hb.2; omega)) fun x45 h45 => ?_
    refine ok_bind (ok_getI h45.1 (h45.2.1 (by have := hb.1; omega))) fun x47 h47 => ok_some ⟨base.1.set _ ?_, base.2⟩
    unfold RB
    dsimp only
    rw [List.length_set]
    exact hb
  refine ok_dec (fun _ => ok_some ⟨base.1.set _ hb, base.2⟩) (fun _ => ?_)
  refine ok_dec (fun _ => ?_) (fun _ => ok_some base)
  refine ok_bind (ok_sliI (by decide) (by omega) (by omega)) fun x51 h51 => ok_some ⟨base.1, ?_⟩
  subst h51
  dsimp only
  simp
  omega

/-! ### commands -/
def stv (st : List Int) (i : Int) : Int := (st[i.toNat]?).getD 0
theorem stv_get {st : List Int} {i : Int} (h0 : 0 ≤ i) (h1 : i < (st.length : Int)) : getI st i = some (stv st i) := by
  have := getI_ok h0 h1
  rw [this]
  unfold stv
  rw [(getI_some this).2]; rfl
def rl (l : List T_Door) (p : Int) : Int := ((l[p.toNat]?).map fun d => (d.Rests.length : Int)).getD 0
theorem rl_get {l : List T_Door} {p : Int} {d : T_Door} (h : getI l p = some d) : rl l p = d.Rests.length := by
  unfold rl
  rw [(getI_some h).2]; rfl
def chgF (l : List T_Door) (st : List Int) (p k least : Int) : Int :=
  if chkD l ≠ 0 then chkD l else if (st.length : Int) ≠ (l.length : Int) then 11 else if p < 0 ∨ (l.length : Int) ≤ p then 15 else if k < least ∨ rl l p ≤ k then 1 else 0
theorem change_eq (l : List T_Door) (st : List Int) (p k least : Int) : F_door_change l st p k least = some (chgF l st p k least) := by
  unfold F_door_change chgF
  rw [check_eq, bind_some]
  by_cases h1 : chkD l ≠ 0
  · rw [bif_pos h1, if_pos h1]
  rw [bif_neg h1, if_neg h1]
  by_cases h2 : (st.length : Int) ≠ (l.length : Int)
  · rw [bif_pos h2, if_pos h2]
  rw [bif_neg h2, if_neg h2, or_bif rfl, bind_some]
  by_cases h3 : p < 0 ∨ (l.length : Int) ≤ p
  · rw [bif_pos h3, if_pos h3]
  rw [bif_neg h3, if_neg h3]
  have hg := getI_ok (l := l) (i := p) (by omega) (by omega)
  rw [hg, bind_some, or_bif rfl, bind_some, ← rl_get hg]
  by_cases h4 : k < least ∨ rl l p ≤ k
  · rw [bif_pos h4, if_pos h4]
  · rw [bif_neg h4, if_neg h4]
theorem chg_zero {l : List T_Door} {st : List Int} {p k least : Int} (h : chgF l st p k least = 0) : chkD l = 0 ∧ st.length = l.length ∧ 0 ≤ p ∧ p < (l.length : Int) ∧ least ≤ k ∧ k < rl l p := by
  unfold chgF at h
  split at h
  · rename_i h1; exact absurd h h1
  split at h
  · cases h
  split at h
  · cases h
  split at h
  · cases h
  · rename_i a b c d
    have : chkD l = 0 := Decidable.byContradiction a
    exact ⟨this, by omega, by omega, by omega, by omega, by omega⟩
theorem with_eq (st : List Int) (p k : Int) (h0 : 0 ≤ p) (h1 : p < (st.length : Int)) (h2 : st.length ≤ 1000) : F_door_with st p k = some (st.set p.toNat k) := by
  unfold F_door_with
  rw [appI_ok (by simp; omega), bind_some, List.nil_append, getI_ok h0 h1, bind_some]
theorem oth_range {l : List T_Door} (h : chkD l = 0) {p : Int} (h0 : 0 ≤ p) (h1 : p < (l.length : Int)) : oth l p = -1 ∨ (0 ≤ oth l p ∧ oth l p < (l.length : Int) ∧ oth l p ≠ p ∧ oth l (oth l p) = p) := by
  have hg := getI_ok (l := l) h0 h1
  have hk := (getI_some hg).2
  have := ((chkD_zero h).2 p.toNat _ hk).2.2.2
  rw [oth_get hg]
  generalize l[p.toNat]'(by omega) = d at *
  rw [show ((p.toNat : Nat) : Int) = p by omega] at this
  unfold oBad at this
  by_cases e : d.Other = -1
  · exact .inl e
  · refine .inr ?_
    have hh : ¬ (d.Other < 0 ∨ (l.length : Int) ≤ d.Other ∨ d.Other = p ∨ oth l d.Other ≠ p) := fun hh => this ⟨e, hh⟩
    refine ⟨by omega, by omega, by omega, Decidable.byContradiction fun hn => hh (.inr (.inr (.inr hn)))⟩
def lk (l : List T_Door) (st : List Int) (p k : Int) : Prop := k ≠ 0 ∧ 0 ≤ oth l p ∧ stv st (oth l p) ≠ 0
instance (l : List T_Door) (st : List Int) (p k : Int) : Decidable (lk l st p k) := by unfold lk; infer_instance
def cmdF (l : List T_Door) (st : List Int) (p k : Int) : List Int × Int :=
  if chgF l st p k 0 ≠ 0 then ([], chgF l st p k 0) else if lk l st p k then ([], 10) else (st.set p.toNat k, 0)
def seeF (l : List T_Door) (st : List Int) (p k : Int) : List Int × Int :=
  if chgF l st p k (-1) ≠ 0 then ([], chgF l st p k (-1)) else (st.set p.toNat k, 0)
theorem lk_eq {l : List T_Door} {st : List Int} {p k : Int} (h : chkD l = 0) (hs : st.length = l.length) (h0 : 0 ≤ p) (h1 : p < (l.length : Int)) : ((bif (decide (k ≠ 0)) then
      bif (decide (0 ≤ oth l p)) then
        (getI st (oth l p)).bind fun x9 =>
        some (decide (x9 ≠ 0))
      else
        some false
    else
      some false) : Option Bool) = some (decide (lk l st p k)) := by
  by_cases h2 : k ≠ 0
  · rw [bif_pos h2]
    by_cases h3 : 0 ≤ oth l p
    · rw [bif_pos h3, stv_get h3 (by have := oth_range h h0 h1; omega), bind_some]
      congr 1
      exact decide_eq_decide.2 ⟨fun h => ⟨h2, h3, h⟩, fun h => h.2.2⟩
    · rw [bif_neg h3, decide_eq_false (fun h => h3 h.2.1)]
  · rw [bif_neg h2, decide_eq_false (fun h => h2 h.1)]
theorem command_eq (l : List T_Door) (st : List Int) (p k : Int) : F_door_Command l st p k = some (cmdF l st p k) := by
  unfold F_door_Command cmdF
  rw [change_eq, bind_some]
  by_cases h1 : chgF l st p k 0 ≠ 0
  · rw [bif_pos h1, if_pos h1]
  rw [bif_neg h1, if_neg h1]
  obtain ⟨a1, a2, a3, a4, a5, a6⟩ := chg_zero (Decidable.byContradiction h1)
  have hg := getI_ok (l := l) a3 a4
  have := (chkD_zero a1).1
  rw [hg, bind_some, ← oth_get hg, lk_eq a1 a2 a3 a4, bind_some]
  by_cases h2 : lk l st p k
  · rw [bif_pos h2, if_pos h2]
  · rw [bif_neg h2, if_neg h2, with_eq _ _ _ a3 (by omega) (by omega), bind_some]
theorem seen_eq (l : List T_Door) (st : List Int) (p k : Int) : F_door_Seen l st p k = some (seeF l st p k) := by
  unfold F_door_Seen seeF
  rw [change_eq, bind_some]
  by_cases h1 : chgF l st p k (-1) ≠ 0
  · rw [bif_pos h1, if_pos h1]
  rw [bif_neg h1, if_neg h1]
  obtain ⟨a1, a2, a3, a4, a5, a6⟩ := chg_zero (Decidable.byContradiction h1)
  have := (chkD_zero a1).1
  rw [with_eq _ _ _ a3 (by omega) (by omega), bind_some]
theorem rset_eq (l : List T_Door) (st : List Int) (p k : Int) (b : Bool) : F_ref08_set l st p k b = some (if b = true then cmdF l st p k else seeF l st p k) := by
  unfold F_ref08_set
  rw [rcheck_eq, bind_some]
  by_cases h1 : chkD l ≠ 0
  · rw [bif_pos h1]
    have e : ∀ least, chgF l st p k least = chkD l := fun least => by unfold chgF; rw [if_pos h1]
    unfold cmdF seeF
    rw [e, e, if_pos h1, if_pos h1]
    cases b <;> rfl
  rw [bif_neg h1]
  by_cases h2 : (st.length : Int) ≠ (l.length : Int)
  · rw [bif_pos h2]
    have e : ∀ least, chgF l st p k least = 11 := fun least => by unfold chgF; rw [if_neg h1, if_pos h2]
    unfold cmdF seeF
    rw [e, e]
    cases b <;> rfl
  rw [bif_neg h2, or_bif rfl, bind_some]
  by_cases h3 : p < 0 ∨ (l.length : Int) ≤ p
  · rw [bif_pos h3]
    have e : ∀ least, chgF l st p k least = 15 := fun least => by unfold chgF; rw [if_neg h1, if_neg h2, if_pos h3]
    unfold cmdF seeF
    rw [e, e]
    cases b <;> rfl
  rw [bif_neg h3]
  have hg := getI_ok (l := l) (i := p) (by omega) (by omega)
  have hr : 0 ≤ rl l p := by rw [rl_get hg]; omega
  have h1' : chkD l = 0 := Decidable.byContradiction h1
  have hl := (chkD_zero h1').1
  have e0 : ((bif (decide (k < 0)) then
          bif b then
            some true
          else
            bif (decide (k ≠ (-1))) then
              some true
            else
              (getI l p).bind fun x12 =>
              some (decide (((x12.Rests).length : Int) ≤ k))
        else
          (getI l p).bind fun x14 =>
          some (decide (((x14.Rests).length : Int) ≤ k))) : Option Bool) = some (decide (k < (if b = true then 0 else -1) ∨ rl l p ≤ k)) := by
    rw [hg, bind_some, ← rl_get hg]
    cases b with
    | true =>
      by_cases hk : k < 0
      · rw [bif_pos hk, decide_eq_true (Or.inl (by simpa using hk))]; rfl
      · rw [bif_neg hk]; congr 1; refine decide_eq_decide.2 ⟨.inr, fun h => h.resolve_left (by simpa using hk)⟩
    | false =>
      by_cases hk : k < 0
      · rw [bif_pos hk, cond_false]
        by_cases hk1 : k ≠ -1
        · rw [bif_pos hk1, decide_eq_true (Or.inl (by simp; omega))]
        · rw [bif_neg hk1]; congr 1; refine decide_eq_decide.2 ⟨.inr, fun h => h.resolve_left (by simp; omega)⟩
      · rw [bif_neg hk]; congr 1; refine decide_eq_decide.2 ⟨.inr, fun h => h.resolve_left (by simp; omega)⟩
  rw [e0, bind_some]
  have ec : ∀ least, chgF l st p k least = if k < least ∨ rl l p ≤ k then 1 else 0 := fun least => by unfold chgF; rw [if_neg h1, if_neg h2, if_neg h3]
  by_cases h4 : k < (if b = true then 0 else -1) ∨ rl l p ≤ k
  · rw [bif_pos h4]
    unfold cmdF seeF
    rw [ec, ec]
    cases b with
    | true => rw [if_pos rfl] at h4; rw [if_pos rfl, if_pos h4]; rfl
    | false => rw [if_neg (by decide)] at h4; rw [if_neg (by decide), if_pos h4]; rfl
  rw [bif_neg h4, hg, bind_some, ← oth_get hg]
  have eset : ((appI 8 ([] : List Int) st).bind fun x26 => (getI x26 p).bind fun x28 => some ((x26.set (p.toNat) k), (0 : Int))) = some (st.set p.toNat k, 0) := by
    rw [appI_ok (by simp; omega), bind_some, List.nil_append, getI_ok (by omega) (by omega), bind_some]
  rw [eset]
  unfold cmdF seeF
  rw [ec, ec]
  cases b with
  | true =>
    rw [if_pos rfl] at h4
    rw [cond_true, lk_eq h1' (by omega) (by omega) (by omega), bind_some, if_pos rfl, if_neg h4, if_neg (by decide)]
    by_cases h5 : lk l st p k
    · rw [bif_pos h5, if_pos h5]
    · rw [bif_neg h5, if_neg h5]
  | false =>
    rw [if_neg (by decide)] at h4
    rw [cond_false, bind_some, cond_false, if_neg (by decide), if_neg h4, if_neg (by decide)]
theorem rcommand_eq (l : List T_Door) (st : List Int) (p k : Int) : F_ref08_Command l st p k = some (cmdF l st p k) := by
  unfold F_ref08_Command
  rw [rset_eq, bind_some, if_pos rfl]
theorem rseen_eq (l : List T_Door) (st : List Int) (p k : Int) : F_ref08_Seen l st p k = some (seeF l st p k) := by
  unfold F_ref08_Seen
  rw [rset_eq, bind_some, if_neg (by decide)]
theorem cmd_len (l : List T_Door) (st : List Int) (p k : Int) : (cmdF l st p k).1.length ≤ 16 := by
  unfold cmdF
  split
  · simp
  · split
    · simp
    · rename_i h _
      have h := chg_zero (Decidable.byContradiction h)
      have := (chkD_zero h.1).1
      simp; omega
theorem see_len (l : List T_Door) (st : List Int) (p k : Int) : (seeF l st p k).1.length ≤ 16 := by
  unfold seeF
  split
  · simp
  · rename_i h
    have h := chg_zero (Decidable.byContradiction h)
    have := (chkD_zero h.1).1
    simp; omega

/-! ### open doors -/
def bo (l : List T_Door) (st : List Int) (i : Nat) : Bool := decide (0 ≤ oth l i ∧ stv st i ≠ 0 ∧ stv st (oth l i) ≠ 0)
def opnF (l : List T_Door) (st : List Int) : List Int :=
  if chkD l ≠ 0 ∨ (st.length : Int) ≠ (l.length : Int) then [] else ((List.range' 0 l.length).filter (bo l st)).map (fun i : Nat => (i : Int))
theorem openL (l : List T_Door) (st : List Int) (h : chkD l = 0) (hs : st.length = l.length) : loopC (F_door_Open_L1 l st) (0, []) = some (((List.range' 0 l.length).filter (bo l st)).map (fun i : Nat => (i : Int))) := by
  have hl := (chkD_zero h).1
  rw [loop_fun (fun s : Int × List Int => 0 ≤ s.1 ∧ s.1 ≤ l.length ∧ (s.2.length : Int) ≤ s.1) (fun s => (l.length - s.1).toNat) (fun s => s.2 ++ ((List.range' s.1.toNat (l.length - s.1.toNat)).filter (bo l st)).map (fun i : Nat => (i : Int))) (fun s hh => ?_) _ ⟨by dsimp only; omega, by dsimp only; omega, by simp⟩]
  · rfl
  · obtain ⟨i, o⟩ := s
    obtain ⟨a1, a2, a3⟩ := hh
    dsimp only at a1 a2 a3
    unfold F_door_Open_L1
    dsimp only
    by_cases hlt : i < (l.length : Int)
    · have hg := getI_ok (l := l) a1 hlt
      have e : IntKind.i64.wrap (i + 1) = i + 1 := w64 (by omega) (by omega)
      rw [bif_pos hlt, hg, bind_some, ← oth_get hg, e]
      have er : List.range' i.toNat (l.length - i.toNat) = i.toNat :: List.range' (i + 1).toNat (l.length - (i + 1).toNat) := by
        rw [show l.length - i.toNat = (l.length - (i + 1).toNat) + 1 by omega, List.range'_succ]
        congr 2
        omega
      have eb : ((bif (decide (0 ≤ oth l i)) then
      (getI st i).bind fun x14 =>
      bif (decide (x14 ≠ 0)) then
        (getI st (oth l i)).bind fun x17 =>
        some (decide (x17 ≠ 0))
      else
        some false
    else
      some false) : Option Bool) = some (bo l st i.toNat) := by
        unfold bo
        rw [show ((i.toNat : Nat) : Int) = i by omega]
        by_cases h3 : 0 ≤ oth l i
        · rw [bif_pos h3, stv_get a1 (by omega), bind_some]
          by_cases h4 : stv st i ≠ 0
          · rw [bif_pos h4, stv_get h3 (by have := oth_range h a1 hlt; omega), bind_some]
            congr 1
            exact decide_eq_decide.2 ⟨fun h => ⟨h3, h4, h⟩, fun h => h.2.2⟩
          · rw [bif_neg h4, decide_eq_false (fun h => h4 h.2.1)]
        · rw [bif_neg h3, decide_eq_false (fun h => h3 h.1)]
      rw [eb, bind_some]
      refine .inl ⟨(i + 1, if bo l st i.toNat = true then o ++ [i] else o), ?_, ⟨by dsimp only; omega, by dsimp only; omega, ?_⟩, by dsimp only; omega, ?_⟩
      · cases bo l st i.toNat with
        | true =>
          rw [cond_true, appI_ok (by simp; omega), bind_some, bind_some]; rfl
        | false => rfl
      · dsimp only; split
        · simp; omega
        · omega
      · dsimp only
        rw [er, List.filter_cons]
        cases bo l st i.toNat with
        | true =>
          rw [if_pos rfl, if_pos rfl, List.map_cons, List.append_assoc]
          rw [show ((i.toNat : Nat) : Int) = i by omega]
          rfl
        | false => rfl
    · rw [bif_neg hlt]
      refine .inr ?_
      rw [show l.length - i.toNat = 0 by omega]
      simp
theorem open_eq (l : List T_Door) (st : List Int) : F_door_Open l st = some (opnF l st) := by
  unfold F_door_Open opnF
  rw [check_eq, bind_some, or_bif rfl, bind_some]
  by_cases h : chkD l ≠ 0 ∨ (st.length : Int) ≠ (l.length : Int)
  · rw [bif_pos h, if_pos h]
  rw [bif_neg h, if_neg h, openL l st (Decidable.byContradiction fun h1 => h (.inl h1)) (by omega), bind_some]
theorem ropen_eq (l : List T_Door) (st : List Int) : F_ref08_Open l st = some (opnF l st) := by
  rw [← open_eq]
  unfold F_door_Open F_ref08_Open
  rw [check_eq, rcheck_eq]
  rfl
theorem opn_len (l : List T_Door) (st : List Int) : (opnF l st).length ≤ 16 := by
  unfold opnF
  split
  · simp
  · rename_i h
    have := (chkD_zero (Decidable.byContradiction fun h1 => h (.inl h1) : chkD l = 0)).1
    rw [List.length_map]
    have h2 := List.length_filter_le (bo l st) (List.range' 0 l.length)
    simp at h2
    omega

theorem awake08 : F_law08_awake = some true := by
  unfold F_law08_awake
  rw [command_eq, bind_some, command_eq, bind_some, check_eq, bind_some, show getI [(T_Door.mk 0 1 [5000, 10]), (T_Door.mk 0 0 [400, 2])] 0 = some (T_Door.mk 0 1 [5000, 10]) from rfl, bind_some, rest_eq _ _ (by simp), bind_some, open_eq, bind_some]
  have e1 : cmdF [(T_Door.mk 0 1 [5000, 10]), (T_Door.mk 0 0 [400, 2])] [0, 0] 0 1 = ([1, 0], 0) := by decide +kernel
  have e2 : cmdF [(T_Door.mk 0 1 [5000, 10]), (T_Door.mk 0 0 [400, 2])] [1, 0] 1 1 = ([], 10) := by decide +kernel
  have e3 : chkD [(T_Door.mk 0 1 [5000, 10]), (T_Door.mk 0 0 [400, 2])] = 0 := by decide +kernel
  have e4 : rstS (T_Door.mk 0 1 [5000, 10]) (-1) = ⟨10, 5000⟩ := by decide +kernel
  have e5 : opnF [(T_Door.mk 0 1 [5000, 10]), (T_Door.mk 0 0 [400, 2])] [1, -1] = [0, 1] := by decide +kernel
  rw [e1, e2, e3, e4, e5, ints_same [1, 0] (by simp), bind_some, ints_same [0, 1] (by simp)]
  rfl
theorem ok_awake {k : Bool → Option Bool} {R : Bool → Prop} (h : Ok (k true) R) : Ok (F_law08_awake.bind k) R := ok_bindE awake08 h
end Go.L
