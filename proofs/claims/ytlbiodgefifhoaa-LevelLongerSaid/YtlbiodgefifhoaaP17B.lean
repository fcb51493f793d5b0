/- LevelSteps, LevelNext, LevelStories: program and reference do the same. -/
import Derived.Test.YtlbiodgefifhoaaP17A
namespace Go.L
open Go Go.Aml
theorem bytesOf {l : List Int} (h : InL (In .u8) l) : Bytes l := fun x hx => In.u8 (h.2 x hx)
theorem wne (a : T_Watch) : (!((a.Over == a.Over) && ((a.Since == a.Since) && ((a.Last == a.Last) && true)))) = false := by rw [weq]; rfl
theorem ne_self (a : Int) : decide (a ≠ a) = false := decide_eq_false fun h => h rfl

theorem law_LevelNext (p0 : List Int) (w0 : InL (In .u8) p0) (p1 : T_Level) (w1 : p1.Wf) (p2 : T_Watch) (w2 : p2.Wf) : F_law17_LevelNext p0 p1 p2 = some true := by
  refine Ok.val ?_
  unfold F_law17_LevelNext
  refine ok_dec (fun _ => ok_awake (ok_some rfl)) (fun _ => ?_)
  refine ok_bind (new_ok p0 (bytesOf w0)) fun c hc => ?_
  refine ok_bind (level_ok c hc) fun x hx => ?_
  refine ok_bind (range_ok _ (-1) 30 hx.1 (by decide) (by decide) (by decide)) fun y hy => ?_
  simp only [nextv_eq, rnextv_eq, bind_some, decide_true, cond_true]
  exact ok_awake (ok_some rfl)

theorem steps_L3 (x3 : T_draw_Codes × T_Level) (x11 : Int) (x18 : T_Level) (x27 : T_Watch) : Ok (loopC (F_law17_LevelSteps_L3 x3 x11 x18 x27) (-1)) (· = .inr ()) := by
  refine ok_loop (fun s => -1 ≤ s ∧ s ≤ 3) (fun s => (3 - s).toNat) _ (fun s hs => ?_) _ ⟨by decide, by decide⟩
  unfold F_law17_LevelSteps_L3
  refine ok_dec (fun hlt => ?_) (fun _ => ok_some rfl)
  rw [step_eq, bind_some, rstep_eq, bind_some, wne, ne_self]
  have e : IntKind.i64.wrap (s + 1) = s + 1 := w64 (by omega) (by omega)
  rw [e]
  refine ok_some ⟨⟨by omega, by omega⟩, ?_⟩
  show (3 - (s + 1)).toNat < (3 - s).toNat
  omega
theorem steps_L2 (p2 : T_Watch) (p3 : T_Span) (p4 : Int) (x3 : T_draw_Codes × T_Level) (x5 : T_draw_Codes × Bool) (x7 : T_draw_Codes × Int) (x9 : T_draw_Codes × Int) (x11 : Int) (x18 : T_Level) (x20 : T_Watch) : Ok (loopC (F_law17_LevelSteps_L2 p2 p3 p4 x3 x5 x7 x9 x11 x18 x20) 0) (· = .inr ()) := by
  refine ok_loop (fun s => 0 ≤ s ∧ s ≤ 3) (fun s => (3 - s).toNat) _ (fun s hs => ?_) _ ⟨by decide, by decide⟩
  unfold F_law17_LevelSteps_L2
  refine ok_dec (fun hlt => ?_) (fun _ => ok_some rfl)
  refine ok_bind (ok_getI hs.1 hlt) fun x27 _ => ?_
  rw [step_eq, bind_some, rstep_eq, bind_some]
  refine ok_bind (steps_L3 x3 x11 x18 x27) fun o ho => ?_
  subst ho
  dsimp only [Sum.elim_inr]
  rw [wne, ne_self]
  have hl : s < 3 := hlt
  have e : IntKind.i64.wrap (s + 1) = s + 1 := w64 (by omega) (by omega)
  rw [e]
  refine ok_some ⟨⟨by omega, by omega⟩, ?_⟩
  show (3 - (s + 1)).toNat < (3 - s).toNat
  omega
theorem steps_L1 (p1 : T_Level) (p2 : T_Watch) (p3 : T_Span) (p4 : Int) (x3 : T_draw_Codes × T_Level) (x5 : T_draw_Codes × Bool) (x7 : T_draw_Codes × Int) (x9 : T_draw_Codes × Int) (x11 : Int) : Ok (loopC (F_law17_LevelSteps_L1 p1 p2 p3 p4 x3 x5 x7 x9 x11) 0) (· = .inr ()) := by
  refine ok_loop (fun s => 0 ≤ s ∧ s ≤ 2) (fun s => (2 - s).toNat) _ (fun s hs => ?_) _ ⟨by decide, by decide⟩
  unfold F_law17_LevelSteps_L1
  refine ok_dec (fun hlt => ?_) (fun _ => ok_some rfl)
  refine ok_bind (ok_getI hs.1 hlt) fun x18 _ => ?_
  show Ok ((loopC _ 0).bind _) _
  refine ok_bind (steps_L2 p2 p3 p4 x3 x5 x7 x9 x11 x18 _) fun o ho => ?_
  subst ho
  dsimp only [Sum.elim_inr]
  rw [check_eq, bind_some, rcheck_eq, bind_some, ne_self]
  have hl : s < 2 := hlt
  have e : IntKind.i64.wrap (s + 1) = s + 1 := w64 (by omega) (by omega)
  rw [e]
  refine ok_some ⟨⟨by omega, by omega⟩, ?_⟩
  show (2 - (s + 1)).toNat < (2 - s).toNat
  omega
theorem law_LevelSteps (p0 : List Int) (w0 : InL (In .u8) p0) (p1 : T_Level) (w1 : p1.Wf) (p2 : T_Watch) (w2 : p2.Wf) (p3 : T_Span) (w3 : p3.Wf) (p4 : Int) (w4 : In .i64 p4) : F_law17_LevelSteps p0 p1 p2 p3 p4 = some true := by
  refine Ok.val ?_
  unfold F_law17_LevelSteps
  refine ok_bind (new_ok p0 (bytesOf w0)) fun c hc => ?_
  refine ok_bind (level_ok c hc) fun x3 h3 => ?_
  refine ok_bind (one_ok _ 2 h3.1 (by decide)) fun x5 h5 => ?_
  refine ok_bind (range_ok _ (-1) 9 h5 (by decide) (by decide) (by decide)) fun x7 h7 => ?_
  refine ok_bind (range_ok _ 0 9 h7.1 (by decide) (by decide) (by decide)) fun x9 h9 => ?_
  refine ok_bind (mod_ok p4 30 (by decide)) fun x11 h11 => ?_
  refine ok_bind (steps_L1 p1 p2 p3 p4 x3 x5 x7 x9 x11) fun o ho => ?_
  subst ho
  exact ok_awake (ok_some rfl)

/-! ### stories -/
def SeenOk (s : T_law17_seen) : Prop := 0 ≤ s.wait ∧ s.wait ≤ 5 ∧ -1125899906842624 ≤ s.low ∧ s.low ≤ s.high ∧ s.high ≤ 1125899906842624
theorem story_ok (c : T_draw_Codes) (l : T_Level) (hc : CodesOk c) (h0 : 0 ≤ l.Clear) (h1 : l.Clear ≤ 1000) : Ok (F_law17_story c l) fun r => CodesOk r.1 ∧ r.2.length ≤ 13 ∧ ∀ s ∈ r.2, SeenOk s := by
  unfold F_law17_story
  refine ok_bind (next_lt c 14 hc (by decide)) fun x hx => ?_
  refine ok_bind (Q := fun r => CodesOk r.2 ∧ r.1.length ≤ 13 ∧ ∀ s ∈ r.1, SeenOk s) ?_ fun r hr => ok_some hr
  refine ok_loop (fun (s : Int × List T_law17_seen × T_draw_Codes) => 0 ≤ s.1 ∧ s.1 ≤ 13 ∧ (s.2.1.length : Int) + s.1 ≤ 13 ∧ CodesOk s.2.2 ∧ ∀ x ∈ s.2.1, SeenOk x) (fun s => s.1.toNat) _ (fun s hs => ?_) _ ⟨hx.2.1, by dsimp only; omega, by dsimp only [List.length_nil]; omega, hx.1, fun x h => by cases h⟩
  obtain ⟨k, L, c⟩ := s
  obtain ⟨a1, a2, a3, a4, a5⟩ := hs
  dsimp only at a1 a2 a3 a4 a5
  unfold F_law17_story_L1
  dsimp only
  refine ok_dec (fun hlt => ?_) (fun _ => ok_some ⟨a4, by dsimp only; omega, a5⟩)
  refine ok_bind (next_lt c 6 a4 (by decide)) fun x6 h6 => ?_
  refine ok_bind (range_ok _ (-5) 130 h6.1 (by decide) (by decide) (by decide)) fun x8 h8 => ?_
  refine ok_bind (one_ok _ 3 h8.1 (by decide)) fun x10 h10 => ?_
  refine ok_bind (Q := fun r => -5 ≤ r.1 ∧ r.1 ≤ 1000 ∧ CodesOk r.2) (ok_bif (fun _ => ?_) (fun _ => ok_some ⟨h8.2.1, by dsimp only; omega, h10⟩)) fun o12 h12 => ?_
  · refine ok_bind (next_lt _ 3 h10 (by decide)) fun x14 h14 => ?_
    rw [w64 (by omega) (by omega)]
    exact ok_some ⟨by dsimp only; omega, by dsimp only; omega, h14.1⟩
  refine ok_bind (next_lt _ 5 h12.2.2 (by decide)) fun x16 h16 => ?_
  refine ok_bind (one_ok _ 9 h16.1 (by decide)) fun x18 h18 => ?_
  refine ok_bind (Q := SeenOk) (ok_bif (fun _ => ok_some ⟨h6.2.1, by dsimp only; omega, by dsimp only; decide, by dsimp only; decide, by dsimp only; decide⟩) (fun _ => ?_)) fun o20 h20 => ?_
  · rw [w64 (by omega) (by omega)]
    exact ok_some ⟨h6.2.1, by dsimp only; omega, by dsimp only; omega, by dsimp only; omega, by dsimp only; omega⟩
  rw [appI_ok (by simp; omega), bind_some, w64 (by omega) (by omega)]
  refine ok_some ⟨⟨by dsimp only; omega, by dsimp only; omega, ?_, h18, ?_⟩, ?_⟩
  · dsimp only; rw [List.length_append, List.length_singleton]; omega
  · intro y hy
    rcases List.mem_append.1 hy with h | h
    · exact a5 y h
    · rw [List.mem_singleton] at h; subst h; exact h20
  · show (k - 1).toNat < k.toNat; omega

theorem law_LevelStories (p0 : List Int) (w0 : InL (In .u8) p0) : F_law17_LevelStories p0 = some true := by
  refine Ok.val ?_
  unfold F_law17_LevelStories
  refine ok_bind (new_ok p0 (bytesOf w0)) fun c hc => ?_
  refine ok_bind (level_ok c hc) fun x3 h3 => ?_
  show Ok ((F_law17_story x3.1 x3.2).bind _) _
  refine ok_bind (story_ok _ _ h3.1 h3.2.2.2.1 (by omega)) fun x9 h9 => ?_
  refine ok_bind (Q := (· = .inr ())) (ok_loop (fun (s : Int × Int × T_Watch × T_Watch) => 0 ≤ s.2.1 ∧ s.2.1 ≤ x9.2.length ∧ s.2.2.1 = s.2.2.2) (fun s => (x9.2.length - s.2.1).toNat) _ (fun s hs => ?_) _ ⟨Int.le_refl 0, by dsimp only; omega, rfl⟩) fun o ho => ?_
  · obtain ⟨t, i, a, b⟩ := s
    obtain ⟨a1, a2, a3⟩ := hs
    dsimp only at a1 a2 a3
    subst a3
    unfold F_law17_LevelStories_L1
    dsimp only
    refine ok_dec (fun hlt => ?_) (fun _ => ok_some rfl)
    refine ok_bind (ok_getI a1 hlt) fun x16 _ => ?_
    rw [step_eq, bind_some, rstep_eq, bind_some, wne, ne_self, w64 (n := i + 1) (by omega) (by omega)]
    refine ok_some ⟨⟨by dsimp only; omega, by dsimp only; omega, rfl⟩, ?_⟩
    show ((x9.2.length : Int) - (i + 1)).toNat < ((x9.2.length : Int) - i).toNat
    omega
  · subst ho
    exact ok_awake (ok_some rfl)
end Go.L
