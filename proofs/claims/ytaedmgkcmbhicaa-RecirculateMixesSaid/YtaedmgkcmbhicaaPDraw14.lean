/- Choices: what the functions of the drawing package yield. -/
import Derived.Test.YtaedmgkcmbhicaaLLib
import Derived.Test.YtaedmgkcmbhicaaL14D
namespace Go.L
open Go Go.Aml

/-- Choices that came of at most 300 bytes. -/
def CodesOk (c : T_draw_Codes) : Prop := Bytes c.l ∧ c.l.length ≤ 300 ∧ 0 ≤ c.at_ ∧ c.at_ ≤ 300

theorem new_ok (l : List Int) (hl : Bytes l) : Ok (F_draw_New l) CodesOk := by
  unfold F_draw_New
  refine ok_bind (ok_sliI (by decide) (by omega) (by omega)) fun x hx => ok_some ?_
  subst hx
  refine ⟨(hl.take _).drop _, ?_, Int.le_refl 0, by show (0 : Int) ≤ 300; decide⟩
  simp
  omega
theorem tmod_lt {v n : Int} (h0 : 0 ≤ v) (hn : 1 ≤ n) : 0 ≤ v.tmod n ∧ v.tmod n < n := ⟨Int.tmod_nonneg n h0, Int.tmod_lt_of_pos v (by omega)⟩
theorem next_ok (c : T_draw_Codes) (n : Int) (hc : CodesOk c) : Ok (F_draw_Codes_Next c n) fun r => CodesOk r.1 ∧ 0 ≤ r.2 ∧ (1 ≤ n → r.2 < n) ∧ (n < 1 → r.2 = 0) := by
  obtain ⟨h1, h2, h3, h4⟩ := hc
  unfold F_draw_Codes_Next
  have e : ((bif decide (n < 1) then some true else some (decide ((c.l.length : Int) ≤ c.at_))) : Option Bool) = some (decide (n < 1 ∨ (c.l.length : Int) ≤ c.at_)) := by
    by_cases a : n < 1
    · rw [bif_pos a, decide_eq_true (Or.inl a)]
    · rw [bif_neg a]; congr 1; exact decide_eq_decide.2 ⟨fun h => .inr h, fun h => by rcases h with h | h; exact absurd h a; exact h⟩
  rw [e, bind_some]
  refine ok_dec (fun h => ok_some ⟨⟨h1, h2, h3, h4⟩, Int.le_refl 0, (fun hn => by show (0 : Int) < n; omega), fun _ => rfl⟩) (fun h => ?_)
  have hn : 1 ≤ n := by omega
  have hat : c.at_ < (c.l.length : Int) := by omega
  rw [w64 (n := c.at_ + 1) (by omega) (by omega), w64 (n := c.at_ + 1 - 1) (by omega) (by omega)]
  refine ok_bind (ok_getI (by omega) (by omega)) fun x hx => ?_
  have hxb := h1 x (mem_get hx)
  rw [w64 (n := x) (by omega) (by omega), w64 (n := x * 256) (by omega) (by omega), w64 (n := c.at_ + 1 + 1) (by omega) (by omega)]
  refine ok_bind (Q := fun b => b = true → c.at_ + 1 < (c.l.length : Int)) (ok_dec (fun _ => ok_some fun h => of_decide_eq_true h) (fun _ => ok_some fun h => by cases h)) fun b hb => ?_
  refine ok_bind (Q := fun r => 0 ≤ r.1 ∧ 0 ≤ r.2 ∧ r.2 ≤ 300) (ok_bif (fun h => ?_) (fun h => ok_some ⟨hxb.1, by show 0 ≤ c.at_ + 1; omega, by show c.at_ + 1 ≤ 300; omega⟩)) fun r hr => ?_
  · have := hb h
    refine ok_bind (ok_getI (by omega) (by omega)) fun y hy => ok_some ?_
    have hyb := h1 y (mem_get hy)
    rw [w64 (n := y) (by omega) (by omega), w64 (n := x * 256 + y) (by omega) (by omega)]
    exact ⟨by show 0 ≤ x * 256 + y; omega, by show 0 ≤ c.at_ + 1 + 1; omega, by show c.at_ + 1 + 1 ≤ 300; omega⟩
  · rw [remI_ok (by omega), bind_some]
    have := tmod_lt hr.1 hn
    exact ok_some ⟨⟨h1, h2, hr.2.1, hr.2.2⟩, this.1, fun _ => this.2, fun h => by omega⟩
/-- .. of a known bound. -/
theorem next_lt (c : T_draw_Codes) (n : Int) (hc : CodesOk c) (hn : 1 ≤ n) : Ok (F_draw_Codes_Next c n) fun r => CodesOk r.1 ∧ 0 ≤ r.2 ∧ r.2 < n :=
  ok_mono (next_ok c n hc) fun r h => ⟨h.1, h.2.1, h.2.2.1 hn⟩
end Go.L
