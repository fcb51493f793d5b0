/- Choices: numbers of a range, and one of several cases. -/
import Derived.Test.YtaedmgkcmbhicaaPDraw14
namespace Go.L
open Go Go.Aml
theorem range_ok (c : T_draw_Codes) (a b : Int) (hc : CodesOk c) (ha : -1000000000000 ≤ a) (hb : b ≤ 1000000000000) (hab : a ≤ b) : Ok (F_draw_Codes_Range c a b) fun r => CodesOk r.1 ∧ a ≤ r.2 ∧ r.2 ≤ b := by
  unfold F_draw_Codes_Range
  rw [w64 (n := b - a) (by omega) (by omega), w64 (by omega) (by omega)]
  refine ok_bind (next_lt c _ hc (by omega)) fun x hx => ok_some ⟨hx.1, ?_, ?_⟩
  · dsimp only; rw [w64 (by omega) (by omega)]; omega
  · dsimp only; rw [w64 (by omega) (by omega)]; omega
theorem one_ok (c : T_draw_Codes) (n : Int) (hc : CodesOk c) (hn : 1 ≤ n) : Ok (F_draw_Codes_One c n) fun r => CodesOk r.1 := by
  unfold F_draw_Codes_One
  exact ok_bind (next_lt c n hc hn) fun x hx => ok_some hx.1
end Go.L
