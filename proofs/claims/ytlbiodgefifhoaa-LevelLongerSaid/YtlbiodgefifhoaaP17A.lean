/- Thresholds: what a step does, plain; program and reference do the same. -/
import Derived.Test.YtlbiodgefifhoaaPDrawB17
namespace Go.L
open Go Go.Aml

def LvBad (l : T_Level) : Prop := 1000000 < l.Cut ∨ l.Clear < 0 ∨ l.Cut ≤ l.Clear ∨ l.Delay < 0 ∨ 100000 < l.Delay
instance (l : T_Level) : Decidable (LvBad l) := by unfold LvBad; infer_instance
theorem check_eq (l : T_Level) : F_level_Check l = some (if LvBad l then 1 else 0) := by
  unfold F_level_Check
  rw [or_bif (or_bif (or_bif (or_bif rfl))), bind_some]
  by_cases h : LvBad l
  · rw [if_pos h]
    unfold LvBad at h
    rw [bif_pos h]
  · rw [if_neg h]
    unfold LvBad at h
    rw [bif_neg h]
theorem rcheck_eq (l : T_Level) : F_ref17_Check l = some (if LvBad l then 1 else 0) := by
  unfold F_ref17_Check
  rw [or_bif (or_bif (or_bif (or_bif rfl))), bind_some]
  by_cases h : LvBad l
  · rw [if_pos h]
    unfold LvBad at h
    rw [bif_pos (by omega)]
  · rw [if_neg h]
    unfold LvBad at h
    rw [bif_neg (by omega)]

def above (s : T_Span) (c : Int) : Int := if s.High < s.Low then 0 else if c ≤ s.Low then 1 else if s.High < c then -1 else 0
theorem above_eq (s : T_Span) (c : Int) : F_window_Above s c = some (above s c) := by
  unfold F_window_Above above
  simp only [bif_ite]
  split
  · rfl
  split
  · rfl
  split <;> rfl
theorem rabove_eq (s : T_Span) (c : Int) : F_ref06_Above s c = some (above s c) := by
  unfold F_ref06_Above above
  simp only [bif_ite]
  split
  · rfl
  split
  · rfl
  split <;> rfl

def stepW (l : T_Level) (w : T_Watch) (s : T_Span) (t : Int) : T_Watch :=
  if above s l.Cut ≠ -1 then ⟨true, -1, t⟩
  else if w.Over = false then ⟨w.Over, w.Since, t⟩
  else if l.Clear < s.High then ⟨w.Over, -1, t⟩
  else if l.Delay ≤ IntKind.i64.wrap (t - (if w.Since < 0 then t else w.Since)) then ⟨false, -1, t⟩
  else ⟨w.Over, if w.Since < 0 then t else w.Since, t⟩
def BadTime (w : T_Watch) (t : Int) : Prop := t < 0 ∨ 2147483648 < t ∨ t < w.Last
instance (w : T_Watch) (t : Int) : Decidable (BadTime w t) := by unfold BadTime; infer_instance
def BadWatch (w : T_Watch) : Prop := w.Last < 0 ∨ w.Since < -1 ∨ w.Last < w.Since ∨ (w.Since ≠ -1 ∧ w.Over = false)
instance (w : T_Watch) : Decidable (BadWatch w) := by unfold BadWatch; infer_instance
def stepS (l : T_Level) (w : T_Watch) (s : T_Span) (t : Int) : T_Watch × Int :=
  if LvBad l then (⟨false, 0, 0⟩, 1) else if BadTime w t then (⟨false, 0, 0⟩, 8) else if BadWatch w then (⟨false, 0, 0⟩, 10) else (stepW l w s t, 0)

theorem step_eq (l : T_Level) (w : T_Watch) (s : T_Span) (t : Int) : F_level_Step l w s t = some (stepS l w s t) := by
  unfold F_level_Step stepS
  rw [check_eq, bind_some]
  by_cases h1 : LvBad l
  · rw [if_pos h1, bif_pos (by decide), if_pos h1]
  rw [if_neg h1, bif_neg (by decide), if_neg h1, or_bif (or_bif rfl), bind_some]
  by_cases h2 : BadTime w t
  · rw [if_pos h2]
    unfold BadTime at h2
    rw [bif_pos h2]
  rw [if_neg h2]
  have h2' := h2
  unfold BadTime at h2'
  rw [bif_neg h2', or_bif (or_bif (or_bif (or_bif (and_bif not_dec)))), bind_some]
  by_cases h3 : BadWatch w
  · rw [if_pos h3]
    unfold BadWatch at h3
    rw [bif_pos (by rcases h3 with h | h | h | h <;> first | exact .inl h | exact .inr (.inr (.inl h)) | exact .inr (.inr (.inr (.inl h))) | exact .inr (.inr (.inr (.inr h))))]
  · rw [if_neg h3]
    unfold BadWatch at h3
    rw [bif_neg (by
      rintro (h | h | h | h | h)
      · exact h3 (.inl h)
      · omega
      · exact h3 (.inr (.inl h))
      · exact h3 (.inr (.inr (.inl h)))
      · exact h3 (.inr (.inr (.inr h))))]
    rw [above_eq, bind_some]
    unfold stepW
    by_cases h4 : above s l.Cut ≠ -1
    · rw [bif_pos h4, if_pos h4]; rfl
    rw [bif_neg h4, if_neg h4]
    cases ho : w.Over with
    | false => rfl
    | true =>
      simp only [Bool.not_true, cond_false, Bool.true_eq_false, if_false]
      by_cases h5 : l.Clear < s.High
      · rw [bif_pos h5, if_pos h5]; rfl
      rw [bif_neg h5, if_neg h5]
      have e : ((bif decide (w.Since < 0) then some t else some w.Since) : Option Int) = some (if w.Since < 0 then t else w.Since) := by
        rw [bif_ite]; split <;> rfl
      rw [e, bind_some]
      by_cases h6 : l.Delay ≤ IntKind.i64.wrap (t - (if w.Since < 0 then t else w.Since))
      · rw [bif_pos h6, if_pos h6]; rfl
      · rw [bif_neg h6, if_neg h6]; rfl
theorem rstep_eq (l : T_Level) (w : T_Watch) (s : T_Span) (t : Int) : F_ref17_Step l w s t = some (stepS l w s t) := by
  unfold F_ref17_Step stepS
  rw [rcheck_eq, bind_some]
  by_cases h1 : LvBad l
  · rw [if_pos h1, bif_pos (by decide), if_pos h1]
  rw [if_neg h1, bif_neg (by decide), if_neg h1, or_bif (or_bif rfl), bind_some]
  by_cases h2 : BadTime w t
  · rw [if_pos h2]
    unfold BadTime at h2
    rw [bif_pos h2]
  rw [if_neg h2]
  have h2' := h2
  unfold BadTime at h2'
  rw [bif_neg h2', or_bif (or_bif (or_bif (and_bif not_dec))), bind_some]
  by_cases h3 : BadWatch w
  · rw [if_pos h3]
    unfold BadWatch at h3
    rw [bif_pos h3]
  · rw [if_neg h3]
    unfold BadWatch at h3
    rw [bif_neg h3]
    rw [rabove_eq, bind_some]
    unfold stepW
    by_cases h4 : above s l.Cut ≠ -1
    · rw [bif_pos h4, if_pos h4]
    rw [bif_neg h4, if_neg h4]
    cases ho : w.Over with
    | false => rfl
    | true =>
      simp only [Bool.not_true, cond_false, Bool.true_eq_false, if_false]
      by_cases h5 : l.Clear < s.High
      · rw [bif_pos h5, if_pos h5]
      rw [bif_neg h5, if_neg h5]
      have e : ((bif decide (w.Since = -1) then some t else some w.Since) : Option Int) = some (if w.Since < 0 then t else w.Since) := by
        rw [bif_ite]
        by_cases h : w.Since = -1
        · rw [if_pos h, if_pos (by omega)]
        · rw [if_neg h, if_neg (by omega)]
      rw [e, bind_some]
      by_cases h6 : l.Delay ≤ IntKind.i64.wrap (t - (if w.Since < 0 then t else w.Since))
      · rw [bif_pos h6, if_pos h6]; rfl
      · rw [bif_neg h6, if_neg h6]; rfl

def nextS (l : T_Level) (w : T_Watch) : Int := if LvBad l ∨ w.Since < 0 then 1099511627776 else IntKind.i64.wrap (w.Since + l.Delay)
theorem nextv_eq (l : T_Level) (w : T_Watch) : F_level_Next l w = some (nextS l w) := by
  unfold F_level_Next nextS
  rw [check_eq, bind_some]
  by_cases h : LvBad l
  · rw [if_pos h, bif_pos (by decide), bind_some, if_pos (.inl h)]; rfl
  · rw [if_neg h, bif_neg (by decide), bind_some]
    by_cases h2 : w.Since < 0
    · rw [bif_pos h2, if_pos (.inr h2)]
    · rw [bif_neg h2, if_neg (by rintro (x | x); exact h x; exact h2 x)]
theorem rnextv_eq (l : T_Level) (w : T_Watch) : F_ref17_Next l w = some (nextS l w) := by
  unfold F_ref17_Next nextS
  rw [rcheck_eq, bind_some]
  by_cases h : LvBad l
  · rw [if_pos h, bif_pos (by decide), bind_some, if_pos (.inl h)]; rfl
  · rw [if_neg h, bif_neg (by decide), bind_some]
    by_cases h2 : w.Since < 0
    · rw [bif_pos h2, if_pos (.inr h2)]
    · rw [bif_neg h2, if_neg (by rintro (x | x); exact h x; exact h2 x)]

theorem awake17 : F_law17_awake = some true := by
  unfold F_law17_awake F_level_Begin
  simp only [bind_some, step_eq, nextv_eq, check_eq]
  decide +kernel
theorem ok_awake {k : Bool → Option Bool} {R : Bool → Prop} (h : Ok (k true) R) : Ok (F_law17_awake.bind k) R := ok_bindE awake17 h
theorem weq (a : T_Watch) : ((a.Over == a.Over) && ((a.Since == a.Since) && ((a.Last == a.Last) && true))) = true := by simp

theorem level_ok (c : T_draw_Codes) (hc : CodesOk c) : Ok (F_draw_Codes_Level c) fun r => CodesOk r.1 ∧ 1 ≤ r.2.Cut ∧ r.2.Cut ≤ 120 ∧ 0 ≤ r.2.Clear ∧ r.2.Clear < r.2.Cut ∧ 0 ≤ r.2.Delay ∧ r.2.Delay ≤ 11 := by
  unfold F_draw_Codes_Level
  refine ok_bind (range_ok c 1 120 hc (by decide) (by decide) (by decide)) fun x1 h1 => ?_
  refine ok_bind (next_lt _ 12 h1.1 (by decide)) fun x3 h3 => ?_
  refine ok_bind (next_lt _ x1.2 h3.1 (by omega)) fun x5 h5 => ok_some ⟨h5.1, h1.2.1, h1.2.2, h5.2.1, h5.2.2, h3.2.1, ?_⟩
  show x3.2 ≤ 11
  omega
end Go.L
