/- Plain laws about partial functions: what ends, and with what. -/
import Derived.Test.YtnhdamflfebofaaAmlU
namespace Go.L
open Go Go.Aml

/-- The partial function yields a value, and Q holds of it. -/
def Ok {α : Type} (m : Option α) (Q : α → Prop) : Prop := ∃ a, m = some a ∧ Q a

theorem bif_pos {α : Type} {p : Prop} [Decidable p] {x y : α} (h : p) : (bif decide p then x else y) = x := by rw [decide_eq_true h]; rfl
theorem bif_neg {α : Type} {p : Prop} [Decidable p] {x y : α} (h : ¬ p) : (bif decide p then x else y) = y := by rw [decide_eq_false h]; rfl
theorem bif_ite {α : Type} {p : Prop} [Decidable p] {x y : α} : (bif decide p then x else y) = if p then x else y := by
  by_cases h : p
  · rw [bif_pos h, if_pos h]
  · rw [bif_neg h, if_neg h]
theorem bind_some {α β : Type} {a : α} {k : α → Option β} : (some a).bind k = k a := rfl

theorem or_bif {p q : Prop} [Decidable p] [Decidable q] {m : Option Bool} (h : m = some (decide q)) : (bif decide p then some true else m) = some (decide (p ∨ q)) := by
  subst h
  by_cases hp : p
  · rw [bif_pos hp, decide_eq_true (Or.inl hp)]
  · rw [bif_neg hp]; congr 1; exact decide_eq_decide.2 ⟨Or.inr, fun h => h.resolve_left hp⟩
theorem and_bif {p q : Prop} [Decidable p] [Decidable q] {m : Option Bool} (h : m = some (decide q)) : (bif decide p then m else some false) = some (decide (p ∧ q)) := by
  subst h
  by_cases hp : p
  · rw [bif_pos hp]; congr 1; exact decide_eq_decide.2 ⟨fun h => ⟨hp, h⟩, fun h => h.2⟩
  · rw [bif_neg hp, decide_eq_false (fun h => hp h.1)]
theorem not_dec {b : Bool} : some (!b) = some (decide (b = false)) := by cases b <;> rfl
/-! ### rows -/
theorem getI_nat {α : Type} {l : List α} {n : Nat} : getI l (n : Int) = l[n]? := by
  unfold getI
  rw [if_pos (by omega), Int.toNat_natCast]
theorem sliI_ok {α : Type} {l : List α} {a b : Int} (h0 : 0 ≤ a) (h1 : a ≤ b) (h2 : b ≤ (l.length : Int)) : sliI l a b = some ((l.take b.toNat).drop a.toNat) := by
  unfold sliI
  rw [if_pos ⟨h0, h1, h2⟩]
theorem appI_ok {α : Type} {by_ : Nat} {l ys : List α} (h : (l.length + ys.length) * by_ ≤ 140737488355328) : appI by_ l ys = some (l ++ ys) := by
  unfold appI
  rw [if_pos h]
/-! ### whole numbers of a size -/
theorem w64 {n : Int} (h1 : -9223372036854775808 ≤ n) (h2 : n ≤ 9223372036854775807) : IntKind.i64.wrap n = n := wrapId h1 h2
theorem w8 {n : Int} (h1 : 0 ≤ n) (h2 : n ≤ 255) : IntKind.u8.wrap n = n := wrapU8 h1 h2
theorem wu64 {n : Int} (h1 : 0 ≤ n) (h2 : n ≤ 18446744073709551615) : IntKind.u64.wrap n = n := wrapU64 h1 h2

/-! ### loops -/
theorem loopC_inl {α β : Type} {f : α → Option (α ⊕ β)} {a a' : α} (h : f a = some (.inl a')) : loopC f a = loopC f a' := by
  rw [loopC_eq, h]; rfl
theorem loopC_inr {α β : Type} {f : α → Option (α ⊕ β)} {a : α} {b : β} (h : f a = some (.inr b)) : loopC f a = some b := by
  rw [loopC_eq, h]; rfl
/-- Bytes. -/
def Bytes (l : List Int) : Prop := ∀ b ∈ l, 0 ≤ b ∧ b ≤ 255
theorem Bytes.nil : Bytes [] := by intro b h; cases h
theorem Bytes.app {a b : List Int} (h : Bytes a) (k : Bytes b) : Bytes (a ++ b) := by
  intro x hx
  rcases List.mem_append.1 hx with h1 | h1
  · exact h x h1
  · exact k x h1
theorem Bytes.cons {a : Int} {b : List Int} (h : 0 ≤ a ∧ a ≤ 255) (k : Bytes b) : Bytes (a :: b) := by
  intro x hx
  rcases List.mem_cons.1 hx with rfl | h1
  · exact h
  · exact k x h1
theorem Bytes.take {a : List Int} (h : Bytes a) (n : Nat) : Bytes (a.take n) := fun x hx => h x (List.mem_of_mem_take hx)
theorem Bytes.drop {a : List Int} (h : Bytes a) (n : Nat) : Bytes (a.drop n) := fun x hx => h x (List.mem_of_mem_drop hx)
theorem Bytes.set {a : List Int} (h : Bytes a) (n : Nat) {x : Int} (hx : 0 ≤ x ∧ x ≤ 255) : Bytes (a.set n x) := fun y hy => by
  rcases List.mem_or_eq_of_mem_set hy with h1 | rfl
  · exact h y h1
  · exact hx
theorem Bytes.wrap (n : Int) : 0 ≤ IntKind.u8.wrap n ∧ IntKind.u8.wrap n ≤ 255 := by
  unfold IntKind.wrap
  simp [IntKind.bits, IntKind.signed]
  omega
end Go.L
