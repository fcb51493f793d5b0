/- RecirculateFinds: the law. -/
import Derived.Test.YtaedmgkcmbhicaaP14L
namespace Go.L
open Go Go.Aml

def Hit (m : T_Mine) (f : List T_Span) (t : Int) (n : Nat) (a : Int) (u : List Bool) (i : Nat) : Prop := ∃ d, can m f i d = true ∧ bt u (i : Int) = false ∧ (arcD m i d).from_ = a ∧ Wk m (arcsF m f) t n (arcD m i d).to_ (u.set i true)
theorem hit_wk {m : T_Mine} {f : List T_Span} {t : Int} {n : Nat} {a : Int} {u : List Bool} : (∃ i, i < m.Roads.length ∧ Hit m f t n a u i) ↔ ∃ x ∈ arcsF m f, bt u x.road = false ∧ x.from_ = a ∧ Wk m (arcsF m f) t n x.to_ (u.set x.road.toNat true) := by
  have hr : ∀ i d, (arcD m i d).road = (i : Int) := fun i d => by cases d <;> rfl
  constructor
  · rintro ⟨i, hi, d, h1, h2, h3, h4⟩
    exact ⟨arcD m i d, arcsF_mem.2 ⟨i, d, hi, h1, rfl⟩, by rw [hr]; exact h2, h3, by rw [hr, Int.toNat_natCast]; exact h4⟩
  · rintro ⟨x, hx, h2, h3, h4⟩
    obtain ⟨i, d, hi, h1, rfl⟩ := arcsF_mem.1 hx
    rw [hr] at h2 h4
    rw [Int.toNat_natCast] at h4
    exact ⟨i, hi, d, h1, h2, h3, h4⟩
theorem set_back {u : List Bool} {j : Nat} (hj : j < u.length) (hb : bt u (j : Int) = false) : (u.set j true).set j false = u := by
  rw [List.set_set]
  have : u[j] = false := by
    unfold bt at hb
    rw [Int.toNat_natCast, List.getElem?_eq_getElem hj] at hb
    exact hb
  rw [← this, List.set_getElem_self]
theorem walks_ok {m : T_Mine} {f : List T_Span} (hR : Rt m) (hf : f.length = m.Roads.length) (t : Int) : ∀ (n fu : Nat) (a : Int) (u : List Bool), n < fu → n ≤ 1000 → 0 ≤ a → a < (m.Places.length : Int) → u.length = m.Roads.length →
    Ok (F_law14_walks fu m f a t u (n : Int)) fun r => r.1 = u ∧ (r.2 = true ↔ Wk m (arcsF m f) t n a u) := by
  intro n
  have hr := hR.r1
  induction n with
  | zero =>
    intro fu a u hfu _ ha0 ha1 hu
    obtain ⟨fu, rfl⟩ : ∃ k, fu = k + 1 := ⟨fu - 1, by omega⟩
    unfold F_law14_walks F_law14_walks_S
    refine ok_dec (fun h => ok_some ⟨rfl, fun _ => h, fun _ => rfl⟩) (fun h => ?_)
    rw [bif_pos (by rfl), bind_some, cond_true]
    exact ok_some ⟨rfl, (fun h' => by cases h'), fun h' => absurd h' h⟩
  | succ n ih =>
    intro fu a u hfu hn ha0 ha1 hu
    obtain ⟨fu, rfl⟩ : ∃ k, fu = k + 1 := ⟨fu - 1, by omega⟩
    unfold F_law14_walks F_law14_walks_S
    refine ok_dec (fun h => ok_some ⟨rfl, fun _ => .inl h, fun _ => rfl⟩) (fun hat => ?_)
    obtain ⟨p, hp1, hp2⟩ := sf_get (m := m) ha0 ha1
    rw [bif_neg (by omega), hp1, bind_some, hp2, bind_some]
    refine ok_bif (fun hs => ok_some ⟨rfl, (fun h' => by cases h'), fun h' => ?_⟩) (fun hs => ?_)
    · rcases h' with h' | ⟨h', _⟩
      · exact absurd h' hat
      · rw [hs] at h'; cases h'
    refine ok_bind (Q := fun r : List Bool ⊕ List Bool => match r with | .inl u' => u' = u ∧ ∃ i, i < m.Roads.length ∧ Hit m f t n a u i | .inr u' => u' = u ∧ ∀ i, i < m.Roads.length → ¬ Hit m f t n a u i) (ok_loop (fun s : Int × List Bool => ∃ j : Nat, s.1 = (j : Int) ∧ j ≤ m.Roads.length ∧ s.2 = u ∧ ∀ i, i < j → ¬ Hit m f t n a u i) (fun s => (m.Roads.length - s.1).toNat) _ (fun s hs' => ?_) _ ⟨0, rfl, Nat.zero_le _, rfl, fun i hi => by omega⟩) fun r hr' => ?_
    · obtain ⟨j', u'⟩ := s
      obtain ⟨j, hj0, hj, hu', hno⟩ := hs'
      dsimp only at hj0 hu'
      subst hj0
      subst hu'
      unfold F_law14_walks_S_L1
      dsimp only
      refine ok_dec (fun hlt => ?_) (fun hge => ok_some ⟨rfl, fun i hi => hno i (by omega)⟩)
      have hj' : j < m.Roads.length := by omega
      refine ok_bind (Q := fun r : List Bool ⊕ List Bool => match r with | .inl u2 => u2 = u' ∧ Hit m f t n a u' j | .inr u2 => u2 = u' ∧ ¬ Hit m f t n a u' j) ?_ fun r hr2 => ?_
      · have hg : getI u' (j : Int) = some (bt u' (j : Int)) := bt_get (by omega) (by omega)
        rw [getI_nat (l := m.Roads), rd0_get hj', bind_some, hg, bind_some, bind_some, Int.toNat_natCast]
        refine ok_bind (Q := fun b => (b = false → bt u' (j : Int) = false ∧ (rd0 m j).Closed = false) ∧ (b = true → bt u' (j : Int) = true ∨ (rd0 m j).Closed = true)) (ok_bif (fun hb => ok_some ⟨(fun h => by cases h), fun _ => .inl hb⟩) (fun hb => ok_some ⟨fun h => ⟨hb, h⟩, fun h => .inr h⟩)) fun b hb => ?_
        refine ok_bif (fun hbt => ok_some ⟨rfl, fun hh => ?_⟩) (fun hbf => ?_)
        · obtain ⟨d, h1, h2, _⟩ := hh
          rcases hb.2 hbt with h | h
          · rw [h2] at h; cases h
          · simp [can, h] at h1
        · obtain ⟨hub, hcl⟩ := hb.1 hbf
          obtain ⟨q1, q2, q3, q4⟩ := hR.rd (rd0 m j) (List.mem_of_getElem? (rd0_get hj'))
          have IH : ∀ b, 0 ≤ b → b < (m.Places.length : Int) → Ok (F_law14_walks fu m f b t (u'.set j true) (IntKind.i64.wrap (((n + 1 : Nat) : Int) - 1))) fun r => r.1 = u'.set j true ∧ (r.2 = true ↔ Wk m (arcsF m f) t n b (u'.set j true)) := fun b b0 b1 => by
            rw [w64 (by omega) (by omega), show ((n + 1 : Nat) : Int) - 1 = (n : Int) by omega]
            exact ih fu b _ (by omega) (by omega) b0 b1 (by rw [List.length_set]; exact hu)
          have hI : Hit m f t n a u' j ↔ ((rd0 m j).From = a ∧ 0 < (sp0 f j).High ∧ Wk m (arcsF m f) t n (rd0 m j).To (u'.set j true)) ∨ ((rd0 m j).To = a ∧ (sp0 f j).Low < 0 ∧ Wk m (arcsF m f) t n (rd0 m j).From (u'.set j true)) := by
            constructor
            · rintro ⟨d, h1, h2, h3, h4⟩
              cases d
              · simp [can, hcl] at h1
                exact .inl ⟨h3, h1, h4⟩
              · simp [can, hcl] at h1
                exact .inr ⟨h3, h1, h4⟩
            · rintro (⟨h1, h2, h3⟩ | ⟨h1, h2, h3⟩)
              · exact ⟨false, by simp [can, hcl, h2], hub, h1, h3⟩
              · exact ⟨true, by simp [can, hcl, h2], hub, h1, h3⟩
          have hgf : getI f (j : Int) = some (sp0 f j) := by rw [getI_nat]; exact sp0_get (by omega)
          have sec : Ok (bif decide ((rd0 m j).To = a) then (getI f (j : Int)).bind fun x34 => bif decide (x34.Low < 0) then (F_law14_walks fu m f (rd0 m j).From t (u'.set j true) (IntKind.i64.wrap (((n + 1 : Nat) : Int) - 1))).bind fun x37 => some (x37.2, x37.1) else some (false, u'.set j true) else some (false, u'.set j true)) (fun o : Bool × List Bool => o.2 = u'.set j true ∧ (o.1 = true ↔ ((rd0 m j).To = a ∧ (sp0 f j).Low < 0 ∧ Wk m (arcsF m f) t n (rd0 m j).From (u'.set j true)))) := by
            refine ok_dec (fun h1 => ?_) (fun h1 => ok_some ⟨rfl, (fun h => by cases h), fun h => absurd h.1 h1⟩)
            refine ok_bindE hgf (ok_dec (fun h2 => ?_) (fun h2 => ok_some ⟨rfl, (fun h => by cases h), fun h => absurd h.2.1 h2⟩))
            exact ok_bind (IH _ q1 q2) fun x hx => ok_some ⟨hx.1, fun h => ⟨h1, h2, hx.2.1 h⟩, fun h => hx.2.2 h.2.2⟩
          refine ok_bind (Q := fun o : Bool × List Bool => o.2 = u'.set j true ∧ (o.1 = true ↔ Hit m f t n a u' j)) ?_ fun o25 h25 => ?_
          · refine ok_dec (fun hF => ?_) (fun hF => ok_mono sec fun o ho => ⟨ho.1, ho.2.trans ⟨fun h => hI.2 (.inr h), fun h => (hI.1 h).resolve_left fun h' => hF h'.1⟩⟩)
            refine ok_bindE hgf (ok_dec (fun hH => ?_) (fun hH => ok_mono sec fun o ho => ⟨ho.1, ho.2.trans ⟨fun h => hI.2 (.inr h), fun h => (hI.1 h).resolve_left fun h' => hH h'.2.1⟩⟩))
            refine ok_bind (IH _ q3 q4) fun x30 h30 => ?_
            obtain ⟨x1, b1⟩ := x30
            obtain ⟨e, hiff⟩ := h30
            dsimp only at e hiff
            subst e
            dsimp only
            exact ok_bif (fun hb1 => ok_some ⟨rfl, fun _ => hI.2 (.inl ⟨hF, hH, hiff.1 hb1⟩), fun _ => rfl⟩) (fun hb1 => ok_mono sec fun o ho => ⟨ho.1, ho.2.trans ⟨fun h => hI.2 (.inr h), fun h => (hI.1 h).resolve_left fun h' => by rw [hiff.2 h'.2.2] at hb1; cases hb1⟩⟩)
          · obtain ⟨b, u2⟩ := o25
            obtain ⟨e, hiff⟩ := h25
            dsimp only at e hiff
            subst e
            dsimp only
            have hg2 : getI (u'.set j true) (j : Int) = some (bt (u'.set j true) (j : Int)) := bt_get (by omega) (by rw [List.length_set]; omega)
            rw [hg2, bind_some, bind_some, set_back (by omega) hub]
            exact ok_bif (fun hb1 => ok_some ⟨rfl, hiff.1 hb1⟩) (fun hb1 => ok_some ⟨rfl, fun hh => by rw [hiff.2 hh] at hb1; cases hb1⟩)
      · cases r with
        | inl u2 =>
          obtain ⟨rfl, hh⟩ := hr2
          exact ok_some ⟨rfl, j, hj', hh⟩
        | inr u2 =>
          obtain ⟨rfl, hh⟩ := hr2
          dsimp only [Sum.elim_inr]
          rw [w64 (by omega) (by omega)]
          refine ok_some ⟨⟨j + 1, by dsimp only; omega, hj', rfl, fun i hi => ?_⟩, by dsimp only; omega⟩
          by_cases e : i = j
          · subst e; exact hh
          · exact hno i (by omega)
    · cases r with
      | inl u2 =>
        obtain ⟨rfl, hh⟩ := hr'
        exact ok_some ⟨rfl, fun _ => .inr ⟨hs, hit_wk.1 hh⟩, fun _ => rfl⟩
      | inr u2 =>
        obtain ⟨rfl, hh⟩ := hr'
        refine ok_some ⟨rfl, (fun h' => by cases h'), fun h' => ?_⟩
        rcases h' with h' | ⟨_, h'⟩
        · exact absurd h' hat
        · obtain ⟨i, hi, hh'⟩ := hit_wk.2 h'
          exact absurd hh' (hh i hi)
end Go.L
