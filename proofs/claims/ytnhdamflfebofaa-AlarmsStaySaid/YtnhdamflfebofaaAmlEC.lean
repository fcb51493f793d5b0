/- The abstract memory logic, part EC: contracts of functions that only look, to plain ones and back. -/
import Derived.Test.YtnhdamflfebofaaAmlDF
import Derived.Below
namespace Go.Aml
open Go Go.RowKit

theorem step_below {g : Gh} {n : Nat} {H : List AObj} {w w' : World} (hm : RelM g n H w) (hb : Below w.heap.size w w') (m : Nat) : GStep m g H w g H w' :=
  ⟨hb.os, hb.tape, hb.output, hb.size, fun _ h => h, fun b h => hb.block b (hm.fb b h), fun r o _ ho => ⟨o, ho, Nat.le_refl _, fun _ => ⟨rfl, rfl, rfl⟩⟩⟩
theorem RelM.below {g : Gh} {n : Nat} {H : List AObj} {w w' : World} (hm : RelM g n H w) (hb : Below w.heap.size w w') : RelM g n H w' := by
  refine ⟨fun b h => Nat.lt_of_lt_of_le (hm.fb b h) hb.size, hm.inj, hm.dom, fun r o ho => ?_, hm.low, hm.lt⟩
  obtain ⟨a1, a2, a3⟩ := hm.obj r o ho
  refine ⟨a1, a2, ?_⟩
  cases hbb : g.β r with
  | none => rw [hbb] at a3; exact a3
  | some bc =>
    obtain ⟨b, C⟩ := bc
    rw [hbb] at a3
    obtain ⟨q1, cells, q2, q3, q4, q5, q6⟩ := a3
    refine ⟨q1, cells, (hb.block b (hm.beta_lt hbb)).trans q2, q3, q4, q5, fun i j c hc => ?_⟩
    obtain ⟨u, u1, u2, u3⟩ := q6 i j c hc
    exact ⟨u, u1, u2, u3.step' (step_below hm hb _)⟩
theorem vi_int {F : Nat → Prop} {w : World} {k : IntKind} {n : Int} {x : Value} (h : VI F w (.int k n) x) : x = .int k n := by cases h; rfl
end Go.Aml
