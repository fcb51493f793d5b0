/- LevelSafe, LevelWider, LevelLonger: what a step of a watch keeps. -/
import Derived.Test.YtlbiodgefifhoaaP17B
namespace Go.L
open Go Go.Aml

def GoodW (w : T_Watch) (t : Int) : Prop := w.Last = t ∧ -1 ≤ w.Since ∧ w.Since ≤ t ∧ (w.Since = -1 ∨ w.Over = true)
theorem stepS_good {l : T_Level} {w : T_Watch} {s : T_Span} {t t' : Int} (hl : ¬ LvBad l) (hw : GoodW w t) (h0 : 0 ≤ t) (h1 : t ≤ t') (h2 : t' ≤ 1000000) : stepS l w s t' = (stepW l w s t', 0) := by
  obtain ⟨a1, a2, a3, a4⟩ := hw
  have hb : ¬ BadTime w t' := by unfold BadTime; omega
  have hc : ¬ BadWatch w := by
    unfold BadWatch
    rintro (h | h | h | ⟨h, h'⟩)
    · omega
    · omega
    · omega
    · rcases a4 with h4 | h4
      · exact h h4
      · rw [h4] at h'; cases h'
  unfold stepS
  rw [if_neg hl, if_neg hb, if_neg hc]
/-- The moment since which a watch stands clear. -/
def sinceOf (w : T_Watch) (t : Int) : Int := if w.Since < 0 then t else w.Since
theorem stepW_over {l : T_Level} {w : T_Watch} {s : T_Span} {t : Int} (hs : s.Low ≤ s.High) (h : l.Cut ≤ s.High) : stepW l w s t = ⟨true, -1, t⟩ := by
  unfold stepW above
  rw [if_pos ?_]
  rw [if_neg (by omega)]
  split
  · decide
  · rw [if_neg (by omega)]; decide
theorem above_under {c : Int} {s : T_Span} (hs : s.Low ≤ s.High) (h : s.High < c) : above s c = -1 := by
  unfold above
  rw [if_neg (by omega), if_neg (by omega), if_pos h]
theorem stepW_off {l : T_Level} {w : T_Watch} {s : T_Span} {t : Int} (hs : s.Low ≤ s.High) (h : s.High < l.Cut) (ho : w.Over = false) : stepW l w s t = ⟨false, w.Since, t⟩ := by
  unfold stepW
  rw [above_under hs h, if_neg (by decide), if_pos ho, ho]
theorem stepW_mid {l : T_Level} {w : T_Watch} {s : T_Span} {t : Int} (hs : s.Low ≤ s.High) (h : s.High < l.Cut) (ho : w.Over = true) (hc : l.Clear < s.High) : stepW l w s t = ⟨true, -1, t⟩ := by
  unfold stepW
  rw [above_under hs h, if_neg (by decide), if_neg (by rw [ho]; decide), if_pos hc, ho]
theorem stepW_clear {l : T_Level} {w : T_Watch} {s : T_Span} {t : Int} (hs : s.Low ≤ s.High) (h : s.High < l.Cut) (ho : w.Over = true) (hc : s.High ≤ l.Clear) (hw : IntKind.i64.wrap (t - sinceOf w t) = t - sinceOf w t) :
    stepW l w s t = if l.Delay ≤ t - sinceOf w t then ⟨false, -1, t⟩ else ⟨true, sinceOf w t, t⟩ := by
  unfold stepW
  rw [above_under hs h, if_neg (by decide), if_neg (by rw [ho]; decide), if_neg (by omega)]
  show (if l.Delay ≤ IntKind.i64.wrap (t - sinceOf w t) then _ else (⟨w.Over, sinceOf w t, t⟩ : T_Watch)) = _
  rw [hw, ho]
theorem since_bd {w : T_Watch} {t t' : Int} (hw : GoodW w t) (h0 : 0 ≤ t) (h1 : t ≤ t') : 0 ≤ sinceOf w t' ∧ sinceOf w t' ≤ t' ∧ (w.Since < 0 → sinceOf w t' = t') ∧ (0 ≤ w.Since → sinceOf w t' = w.Since) := by
  obtain ⟨a1, a2, a3, a4⟩ := hw
  unfold sinceOf
  split
  · omega
  · omega
theorem stepW_good {l : T_Level} {w : T_Watch} {s : T_Span} {t t' : Int} (hs : s.Low ≤ s.High) (hw : GoodW w t) (h0 : 0 ≤ t) (h1 : t ≤ t') (h2 : t' ≤ 1000000) : GoodW (stepW l w s t') t' := by
  have hb := since_bd hw h0 h1
  have e := w64 (n := t' - sinceOf w t') (by omega) (by omega)
  have hg : GoodW ⟨true, -1, t'⟩ t' := ⟨rfl, Int.le_refl _, by dsimp only; omega, .inl rfl⟩
  have hg' : GoodW ⟨false, -1, t'⟩ t' := ⟨rfl, Int.le_refl _, by dsimp only; omega, .inl rfl⟩
  by_cases c1 : l.Cut ≤ s.High
  · rw [stepW_over hs c1]; exact hg
  cases ho : w.Over with
  | false =>
    rw [stepW_off hs (by omega) ho]
    obtain ⟨a1, a2, a3, a4⟩ := hw
    refine ⟨rfl, a2, by dsimp only; omega, .inl ?_⟩
    rcases a4 with h | h
    · exact h
    · rw [ho] at h; cases h
  | true =>
    by_cases c2 : l.Clear < s.High
    · rw [stepW_mid hs (by omega) ho c2]; exact hg
    rw [stepW_clear hs (by omega) ho (by omega) e]
    split
    · exact hg'
    · exact ⟨rfl, by dsimp only; omega, by dsimp only; omega, .inr rfl⟩

/-- The second watch is the more careful. -/
def MoreW (a b : T_Watch) : Prop := a.Over = true → b.Over = true ∧ (0 ≤ b.Since → 0 ≤ a.Since ∧ a.Since ≤ b.Since)
theorem more_step {la lb : T_Level} {a b : T_Watch} {sa sb : T_Span} {t t' : Int} (h1 : sa.Low ≤ sa.High) (h2 : sb.Low ≤ sb.High) (h3 : sa.High ≤ sb.High) (k1 : lb.Cut ≤ la.Cut) (k2 : lb.Clear ≤ la.Clear) (k3 : la.Delay ≤ lb.Delay)
    (ga : GoodW a t) (gb : GoodW b t) (t0 : 0 ≤ t) (t1 : t ≤ t') (t2 : t' ≤ 1000000) (h : MoreW a b) : MoreW (stepW la a sa t') (stepW lb b sb t') := by
  have ba := since_bd ga t0 t1
  have bb := since_bd gb t0 t1
  have ea := w64 (n := t' - sinceOf a t') (by omega) (by omega)
  have eb := w64 (n := t' - sinceOf b t') (by omega) (by omega)
  have top : ∀ x : T_Watch, MoreW x ⟨true, -1, t'⟩ := fun x _ => ⟨rfl, fun hh => absurd hh (by dsimp only; decide)⟩
  by_cases cb : lb.Cut ≤ sb.High
  · rw [stepW_over h2 cb]; exact top _
  cases hoa : a.Over with
  | false => rw [stepW_off h1 (by omega) hoa]; intro hh; cases hh
  | true =>
    obtain ⟨hob, hsi⟩ := h hoa
    by_cases c2 : lb.Clear < sb.High
    · rw [stepW_mid h2 (by omega) hob c2]; exact top _
    rw [stepW_clear h2 (by omega) hob (by omega) eb, stepW_clear h1 (by omega) hoa (by omega) ea]
    by_cases ca : la.Delay ≤ t' - sinceOf a t'
    · rw [if_pos ca]; intro hh; cases hh
    · have hle : sinceOf a t' ≤ sinceOf b t' := by
        by_cases hb0 : b.Since < 0
        · rw [bb.2.2.1 hb0]; exact ba.2.1
        · have hs := hsi (by omega)
          rw [bb.2.2.2 (by omega), ba.2.2.2 hs.1]
          exact hs.2
      rw [if_neg ca, if_neg (by omega)]
      exact fun _ => ⟨rfl, fun _ => ⟨ba.1, hle⟩⟩
theorem lv_good {l : T_Level} (h1 : l.Cut ≤ 1000000) (h2 : 0 ≤ l.Clear) (h3 : l.Clear < l.Cut) (h4 : 0 ≤ l.Delay) (h5 : l.Delay ≤ 100000) : ¬ LvBad l := by unfold LvBad; omega
theorem good0 : GoodW ⟨true, -1, 0⟩ 0 := ⟨rfl, Int.le_refl _, by decide, .inl rfl⟩
theorem more0 : MoreW ⟨true, -1, 0⟩ ⟨true, -1, 0⟩ := fun _ => ⟨rfl, fun h => absurd h (by decide)⟩
theorem more_bif {a b : T_Watch} (h : MoreW a b) : ((bif decide ((0 : Int) ≠ 0) then some true else bif decide ((0 : Int) ≠ 0) then some true else bif a.Over then some (!b.Over) else some false) : Option Bool) = some false := by
  rw [bif_neg (by decide), bif_neg (by decide)]
  cases ho : a.Over with
  | false => rfl
  | true => rw [(h ho).1]; rfl

theorem law_LevelWider (p0 : List Int) (w0 : InL (In .u8) p0) (p1 : List Int) (w1 : InL (In .u8) p1) : F_law17_LevelWider p0 p1 = some true := by
  refine Ok.val ?_
  unfold F_law17_LevelWider
  refine ok_bind (new_ok p0 (bytesOf w0)) fun c hc => ?_
  refine ok_bind (level_ok c hc) fun x3 h3 => ?_
  have hg : ¬ LvBad x3.2 := lv_good (by omega) (by omega) (by omega) (by omega) (by omega)
  show Ok ((F_law17_story x3.1 x3.2).bind _) _
  refine ok_bind (story_ok _ _ h3.1 h3.2.2.2.1 (by omega)) fun x9 h9 => ?_
  refine ok_bind (Q := (· = .inr ())) (ok_loop (fun (s : Int × Int × T_Watch × T_Watch) => 0 ≤ s.1 ∧ s.1 ≤ 5 * s.2.1 ∧ 0 ≤ s.2.1 ∧ s.2.1 ≤ x9.2.length ∧ GoodW s.2.2.1 s.1 ∧ GoodW s.2.2.2 s.1 ∧ MoreW s.2.2.1 s.2.2.2) (fun s => (x9.2.length - s.2.1).toNat) _ (fun s hs => ?_) _ ⟨Int.le_refl 0, Int.le_refl 0, Int.le_refl 0, by dsimp only; omega, good0, good0, more0⟩) fun o ho => ?_
  · obtain ⟨t, i, a, b⟩ := s
    obtain ⟨a1, a2, a3, a4, a5, a6, a7⟩ := hs
    dsimp only at a1 a2 a3 a4 a5 a6 a7
    unfold F_law17_LevelWider_L1
    dsimp only
    refine ok_dec (fun hlt => ?_) (fun _ => ok_some rfl)
    refine ok_bind (ok_getI a3 hlt) fun x16 hx => ?_
    obtain ⟨s1, s2, s3, s4, s5⟩ := h9.2.2 x16 (mem_get hx)
    refine ok_bind (Q := fun o => 0 ≤ o ∧ o ≤ 255) (ok_dec (fun hl2 => ?_) (fun _ => ok_some ⟨by decide, by decide⟩)) fun o18 h18 => ?_
    · refine ok_bind (ok_getI a3 hl2) fun x20 hx2 => ?_
      have := bytesOf w1 x20 (mem_get hx2)
      rw [w64 (by omega) (by omega)]
      exact ok_some this
    have e1 : IntKind.i64.wrap (t + x16.wait) = t + x16.wait := w64 (by omega) (by omega)
    have e2 : IntKind.i64.wrap (x16.low - o18) = x16.low - o18 := w64 (by omega) (by omega)
    have e3 : IntKind.i64.wrap (x16.high + o18) = x16.high + o18 := w64 (by omega) (by omega)
    have e4 : IntKind.i64.wrap (i + 1) = i + 1 := w64 (by omega) (by omega)
    rw [e1, e2, e3, e4, step_eq, bind_some, step_eq, bind_some, stepS_good hg a5 a1 (by omega) (by omega), stepS_good hg a6 a1 (by omega) (by omega)]
    have hm := more_step (la := x3.2) (lb := x3.2) (sa := ⟨x16.low, x16.high⟩) (sb := ⟨x16.low - o18, x16.high + o18⟩) (t' := t + x16.wait) s4 (by dsimp only; omega) (by dsimp only; omega) (Int.le_refl _) (Int.le_refl _) (Int.le_refl _) a5 a6 a1 (by omega) (by omega) a7
    rw [more_bif hm, bind_some]
    refine ok_some ⟨⟨by dsimp only; omega, by dsimp only; omega, by dsimp only; omega, by dsimp only; omega, ?_, ?_, hm⟩, ?_⟩
    · exact stepW_good s4 a5 a1 (by omega) (by omega)
    · exact stepW_good (by dsimp only; omega) a6 a1 (by omega) (by omega)
    · show ((x9.2.length : Int) - (i + 1)).toNat < ((x9.2.length : Int) - i).toNat
      omega
  · subst ho
    exact ok_awake (ok_some rfl)

theorem law_LevelLonger (p0 : List Int) (w0 : InL (In .u8) p0) (p1 : Int) (w1 : In .u8 p1) (p2 : Int) (w2 : In .u8 p2) : F_law17_LevelLonger p0 p1 p2 = some true := by
  refine Ok.val ?_
  unfold F_law17_LevelLonger
  refine ok_bind (new_ok p0 (bytesOf w0)) fun c hc => ?_
  refine ok_bind (level_ok c hc) fun x3 h3 => ?_
  have hg : ¬ LvBad x3.2 := lv_good (by omega) (by omega) (by omega) (by omega) (by omega)
  have u1 := In.u8 w1
  have u2 := In.u8 w2
  have m1 := tmod_lt (n := 9) u1.1 (by decide)
  have m2 := tmod_lt (n := 20) u2.1 (by decide)
  have f1 : IntKind.i64.wrap p1 = p1 := w64 (by omega) (by omega)
  have f2 : IntKind.i64.wrap p2 = p2 := w64 (by omega) (by omega)
  generalize hd : IntKind.i64.wrap (x3.2.Delay + (Int.tmod (IntKind.i64.wrap p1) 9)) = D
  generalize hcl : max 0 (IntKind.i64.wrap (x3.2.Clear - (Int.tmod (IntKind.i64.wrap p2) 20))) = C
  have hD : x3.2.Delay ≤ D ∧ D ≤ 100 := by rw [← hd, f1, w64 (by omega) (by omega)]; omega
  have hC : 0 ≤ C ∧ C ≤ x3.2.Clear := by rw [← hcl, f2, w64 (by omega) (by omega)]; omega
  refine ok_bind (Q := fun o => C < o ∧ o ≤ x3.2.Cut) (ok_dec (fun _ => ?_) (fun _ => ok_some ⟨by omega, Int.le_refl _⟩)) fun o5 h5 => ?_
  · rw [w64 (by omega) (by omega)]; exact ok_some ⟨by omega, by omega⟩
  have hg2 : ¬ LvBad ⟨o5, C, D⟩ := lv_good (by dsimp only; omega) hC.1 h5.1 (by dsimp only; omega) (by dsimp only; omega)
  show Ok ((F_law17_story x3.1 x3.2).bind _) _
  refine ok_bind (story_ok _ _ h3.1 h3.2.2.2.1 (by omega)) fun x9 h9 => ?_
  refine ok_bind (Q := (· = .inr ())) (ok_loop (fun (s : Int × Int × T_Watch × T_Watch) => 0 ≤ s.1 ∧ s.1 ≤ 5 * s.2.1 ∧ 0 ≤ s.2.1 ∧ s.2.1 ≤ x9.2.length ∧ GoodW s.2.2.1 s.1 ∧ GoodW s.2.2.2 s.1 ∧ MoreW s.2.2.1 s.2.2.2) (fun s => (x9.2.length - s.2.1).toNat) _ (fun s hs => ?_) _ ⟨Int.le_refl 0, Int.le_refl 0, Int.le_refl 0, by dsimp only; omega, good0, good0, more0⟩) fun o ho => ?_
  · obtain ⟨t, i, a, b⟩ := s
    obtain ⟨a1, a2, a3, a4, a5, a6, a7⟩ := hs
    dsimp only at a1 a2 a3 a4 a5 a6 a7
    unfold F_law17_LevelLonger_L1
    rw [hd, hcl]
    dsimp only
    refine ok_dec (fun hlt => ?_) (fun _ => ok_some rfl)
    refine ok_bind (ok_getI a3 hlt) fun x16 hx => ?_
    obtain ⟨s1, s2, s3, s4, s5⟩ := h9.2.2 x16 (mem_get hx)
    have e1 : IntKind.i64.wrap (t + x16.wait) = t + x16.wait := w64 (by omega) (by omega)
    have e4 : IntKind.i64.wrap (i + 1) = i + 1 := w64 (by omega) (by omega)
    rw [e1, e4, step_eq, bind_some, step_eq, bind_some, stepS_good hg a5 a1 (by omega) (by omega), stepS_good hg2 a6 a1 (by omega) (by omega)]
    have hm := more_step (la := x3.2) (lb := ⟨o5, C, D⟩) (sa := ⟨x16.low, x16.high⟩) (sb := ⟨x16.low, x16.high⟩) (t' := t + x16.wait) s4 s4 (Int.le_refl _) h5.2 hC.2 hD.1 a5 a6 a1 (by omega) (by omega) a7
    rw [more_bif hm, bind_some]
    refine ok_some ⟨⟨by dsimp only; omega, by dsimp only; omega, by dsimp only; omega, by dsimp only; omega, ?_, ?_, hm⟩, ?_⟩
    · exact stepW_good s4 a5 a1 (by omega) (by omega)
    · exact stepW_good s4 a6 a1 (by omega) (by omega)
    · show ((x9.2.length : Int) - (i + 1)).toNat < ((x9.2.length : Int) - i).toNat
      omega
  · subst ho
    exact ok_awake (ok_some rfl)

theorem law_LevelSafe (p0 : List Int) (w0 : InL (In .u8) p0) : F_law17_LevelSafe p0 = some true := by
  refine Ok.val ?_
  unfold F_law17_LevelSafe
  refine ok_bind (new_ok p0 (bytesOf w0)) fun c hc => ?_
  refine ok_bind (level_ok c hc) fun x3 h3 => ?_
  have hg : ¬ LvBad x3.2 := lv_good (by omega) (by omega) (by omega) (by omega) (by omega)
  show Ok ((F_law17_story x3.1 x3.2).bind _) _
  refine ok_bind (story_ok _ _ h3.1 h3.2.2.2.1 (by omega)) fun x9 h9 => ?_
  refine ok_bind (Q := (· = .inr ())) (ok_loop (fun (s : Int × Int × Bool × Int × T_Watch) => 0 ≤ s.1 ∧ s.1 ≤ 5 * s.2.2.2.1 ∧ 0 ≤ s.2.2.2.1 ∧ s.2.2.2.1 ≤ x9.2.length ∧ GoodW s.2.2.2.2 s.1 ∧ s.2.2.2.2.Over = (!s.2.2.1) ∧ (s.2.2.1 = false → s.2.2.2.2.Since = s.2.1)) (fun s => (x9.2.length - s.2.2.2.1).toNat) _ (fun s hs => ?_) _ ⟨Int.le_refl 0, Int.le_refl 0, Int.le_refl 0, by dsimp only; omega, good0, rfl, fun _ => rfl⟩) fun o ho => ?_
  · obtain ⟨t, bg, cl, i, w⟩ := s
    obtain ⟨a1, a2, a3, a4, a5, a6, a7⟩ := hs
    dsimp only at a1 a2 a3 a4 a5 a6 a7
    unfold F_law17_LevelSafe_L1
    dsimp only
    refine ok_dec (fun hlt => ?_) (fun _ => ok_some rfl)
    refine ok_bind (ok_getI a3 hlt) fun x16 hx => ?_
    obtain ⟨s1, s2, s3, s4, s5⟩ := h9.2.2 x16 (mem_get hx)
    have e1 : IntKind.i64.wrap (t + x16.wait) = t + x16.wait := w64 (by omega) (by omega)
    have e4 : IntKind.i64.wrap (i + 1) = i + 1 := w64 (by omega) (by omega)
    have bd := since_bd a5 a1 (show t ≤ t + x16.wait by omega)
    have e5 : IntKind.i64.wrap (t + x16.wait - sinceOf w (t + x16.wait)) = t + x16.wait - sinceOf w (t + x16.wait) := w64 (by omega) (by omega)
    rw [e1, e4, step_eq, bind_some, stepS_good hg a5 a1 (by omega) (by omega)]
    dsimp only
    rw [bif_neg (by decide)]
    have hgw := stepW_good (l := x3.2) (s := ⟨x16.low, x16.high⟩) (t' := t + x16.wait) s4 a5 a1 (by omega) (by omega)
    generalize hW : stepW x3.2 w ⟨x16.low, x16.high⟩ (t + x16.wait) = W at *
    refine ok_bind (Q := fun o : Int × Bool => W.Over = (!o.2) ∧ (o.2 = false → W.Since = o.1)) ?_ fun o19 h19 => ?_
    · refine ok_dec (fun c1 => ?_) (fun c1 => ?_)
      · rw [stepW_over s4 c1] at hW
        subst hW
        exact ok_some ⟨rfl, fun _ => rfl⟩
      · cases hcl : cl with
        | true =>
          rw [hcl] at a6
          rw [stepW_off s4 (by dsimp only; omega) a6] at hW
          subst hW
          refine ok_dec (fun c2 => ?_) (fun c2 => ok_some ⟨rfl, fun h => by cases h⟩)
          refine ok_bind (Q := fun _ => True) (ok_dec (fun _ => ok_some trivial) (fun _ => ok_some trivial)) fun _ _ => ok_some ⟨rfl, fun h => by cases h⟩
        | false =>
          rw [hcl] at a6
          have a7' := a7 hcl
          refine ok_dec (fun c2 => ?_) (fun c2 => ?_)
          · rw [stepW_clear s4 (by dsimp only; omega) a6 c2 e5] at hW
            refine ok_bind (Q := fun r => r = sinceOf w (t + x16.wait)) (ok_dec (fun h => ok_some ?_) (fun h => ok_some ?_)) fun o22 h22 => ?_
            · exact (bd.2.2.1 (by omega)).symm
            · have := a5.2.1
              rw [bd.2.2.2 (by omega), a7']
            · subst h22
              rw [e5]
              by_cases c3 : x3.2.Delay ≤ t + x16.wait - sinceOf w (t + x16.wait)
              · rw [if_pos c3] at hW
                subst hW
                rw [decide_eq_true c3]
                exact ok_some ⟨rfl, fun h => by cases h⟩
              · rw [if_neg c3] at hW
                subst hW
                rw [decide_eq_false c3]
                exact ok_some ⟨rfl, fun _ => rfl⟩
          · rw [stepW_mid s4 (by dsimp only; omega) a6 (by dsimp only; omega)] at hW
            subst hW
            exact ok_some ⟨rfl, fun _ => rfl⟩
    · have e6 : (W.Over == o19.2) = false := by rw [h19.1]; cases o19.2 <;> rfl
      rw [e6]
      refine ok_some ⟨⟨by dsimp only; omega, by dsimp only; omega, by dsimp only; omega, by dsimp only; omega, hgw, h19.1, h19.2⟩, ?_⟩
      show ((x9.2.length : Int) - (i + 1)).toNat < ((x9.2.length : Int) - i).toNat
      omega
  · subst ho
    exact ok_awake (ok_some rfl)
end Go.L
