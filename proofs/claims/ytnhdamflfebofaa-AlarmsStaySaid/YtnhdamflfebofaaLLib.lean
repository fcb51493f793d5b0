/- Plain laws about partial functions: what ends, and with what. -/
import Derived.Test.YtnhdamflfebofaaAmlU
namespace Go.L
open Go Go.Aml

/-- The partial function yields a value, and Q holds of it. -/
def Ok {α : Type} (m : Option α) (Q : α → Prop) : Prop := ∃ a, m = some a ∧ Q a

theorem ok_some {α : Type} {a : α} {Q : α → Prop} (h : Q a) : Ok (some a) Q := ⟨a, rfl, h⟩
theorem ok_bind {α β : Type} {m : Option α} {k : α → Option β} {Q : α → Prop} {R : β → Prop} (h : Ok m Q) (hk : ∀ a, Q a → Ok (k a) R) : Ok (m.bind k) R := by
  obtain ⟨a, rfl, ha⟩ := h
  exact hk a ha
theorem ok_mono {α : Type} {m : Option α} {Q R : α → Prop} (h : Ok m Q) (hq : ∀ a, Q a → R a) : Ok m R := by
  obtain ⟨a, h1, ha⟩ := h
  exact ⟨a, h1, hq a ha⟩
theorem ok_bif {α : Type} {c : Bool} {x y : Option α} {R : α → Prop} (h1 : c = true → Ok x R) (h2 : c = false → Ok y R) : Ok (bif c then x else y) R := by
  cases c with
  | true => exact h1 rfl
  | false => exact h2 rfl
theorem ok_dec {α : Type} {p : Prop} [Decidable p] {x y : Option α} {R : α → Prop} (h1 : p → Ok x R) (h2 : ¬ p → Ok y R) : Ok (bif decide p then x else y) R :=
  ok_bif (fun h => h1 (of_decide_eq_true h)) (fun h => h2 (of_decide_eq_false h))
theorem Ok.val {α : Type} {m : Option α} {a : α} (h : Ok m (· = a)) : m = some a := by
  obtain ⟨b, h, rfl⟩ := h
  exact h
theorem bif_pos {α : Type} {p : Prop} [Decidable p] {x y : α} (h : p) : (bif decide p then x else y) = x := by rw [decide_eq_true h]; rfl
theorem bif_neg {α : Type} {p : Prop} [Decidable p] {x y : α} (h : ¬ p) : (bif decide p then x else y) = y := by rw [decide_eq_false h]; rfl
theorem bif_ite {α : Type} {p : Prop} [Decidable p] {x y : α} : (bif decide p then x else y) = if p then x else y := by
  by_cases h : p
  · rw [bif_pos h, if_pos h]
  · rw [bif_neg h, if_neg h]
theorem bind_some {α β : Type} {a : α} {k : α → Option β} : (some a).bind k = k a := rfl

theorem or_bif {p q : Prop} [Decidable p] [Decidable q] {m : Option Bool} (h : m = some (decide q)) : (bif decide p then some true else m) = some (decide (p ∨ q)) := by
  subst h
  by_cases hp : p
  · rw [bif_pos hp, decide_eq_true (Or.inl hp)]
  · rw [bif_neg hp]; congr 1; exact decide_eq_decide.2 ⟨Or.inr, fun h => h.resolve_left hp⟩
theorem and_bif {p q : Prop} [Decidable p] [Decidable q] {m : Option Bool} (h : m = some (decide q)) : (bif decide p then m else some false) = some (decide (p ∧ q)) := by
  subst h
  by_cases hp : p
  · rw [bif_pos hp]; congr 1; exact decide_eq_decide.2 ⟨fun h => ⟨hp, h⟩, fun h => h.2⟩
  · rw [bif_neg hp, decide_eq_false (fun h => hp h.1)]
theorem not_dec {b : Bool} : some (!b) = some (decide (b = false)) := by cases b <;> rfl
/-! ### rows -/
theorem getI_ok {α : Type} {l : List α} {i : Int} (h0 : 0 ≤ i) (h1 : i < (l.length : Int)) : getI l i = some (l[i.toNat]'(by omega)) := by
  unfold getI
  rw [if_pos h0]
  exact List.getElem?_eq_getElem (by omega)
theorem getI_nat {α : Type} {l : List α} {n : Nat} : getI l (n : Int) = l[n]? := by
  unfold getI
  rw [if_pos (by omega), Int.toNat_natCast]
theorem ok_getI {α : Type} {l : List α} {i : Int} (h0 : 0 ≤ i) (h1 : i < (l.length : Int)) : Ok (getI l i) (fun x => l[i.toNat]? = some x) :=
  ⟨_, getI_ok h0 h1, List.getElem?_eq_getElem (by omega)⟩
theorem appI_ok {α : Type} {by_ : Nat} {l ys : List α} (h : (l.length + ys.length) * by_ ≤ 140737488355328) : appI by_ l ys = some (l ++ ys) := by
  unfold appI
  rw [if_pos h]
theorem remI_ok {a b : Int} (h : b ≠ 0) : remI a b = some (a.tmod b) := by
  unfold remI
  rw [if_neg h]
/-! ### whole numbers of a size -/
theorem w64 {n : Int} (h1 : -9223372036854775808 ≤ n) (h2 : n ≤ 9223372036854775807) : IntKind.i64.wrap n = n := wrapId h1 h2
theorem wu64 {n : Int} (h1 : 0 ≤ n) (h2 : n ≤ 18446744073709551615) : IntKind.u64.wrap n = n := wrapU64 h1 h2

/-! ### loops -/
theorem loopC_inl {α β : Type} {f : α → Option (α ⊕ β)} {a a' : α} (h : f a = some (.inl a')) : loopC f a = loopC f a' := by
  rw [loopC_eq, h]; rfl
theorem loopC_inr {α β : Type} {f : α → Option (α ⊕ β)} {a : α} {b : β} (h : f a = some (.inr b)) : loopC f a = some b := by
  rw [loopC_eq, h]; rfl
/-- A loop that ends: an invariant, and a measure. -/
theorem ok_loop {α β : Type} {f : α → Option (α ⊕ β)} (I : α → Prop) (μ : α → Nat) (Q : β → Prop)
    (step : ∀ a, I a → Ok (f a) fun o => match o with | .inl a' => I a' ∧ μ a' < μ a | .inr b => Q b) : ∀ a, I a → Ok (loopC f a) Q := by
  intro a h
  generalize hm : μ a = m
  induction m using Nat.strongRecOn generalizing a with
  | _ m ih =>
    obtain ⟨o, h1, h2⟩ := step a h
    cases o with
    | inl a' =>
      rw [loopC_inl h1]
      exact ih _ (hm ▸ h2.2) a' h2.1 rfl
    | inr b => exact ⟨b, loopC_inr h1, h2⟩
/-- Bytes. -/
def Bytes (l : List Int) : Prop := ∀ b ∈ l, 0 ≤ b ∧ b ≤ 255
theorem Bytes.nil : Bytes [] := by intro b h; cases h
theorem Bytes.app {a b : List Int} (h : Bytes a) (k : Bytes b) : Bytes (a ++ b) := by
  intro x hx
  rcases List.mem_append.1 hx with h1 | h1
  · exact h x h1
  · exact k x h1
theorem Bytes.cons {a : Int} {b : List Int} (h : 0 ≤ a ∧ a ≤ 255) (k : Bytes b) : Bytes (a :: b) := by
  intro x hx
  rcases List.mem_cons.1 hx with rfl | h1
  · exact h
  · exact k x h1
theorem Bytes.take {a : List Int} (h : Bytes a) (n : Nat) : Bytes (a.take n) := fun x hx => h x (List.mem_of_mem_take hx)
theorem Bytes.drop {a : List Int} (h : Bytes a) (n : Nat) : Bytes (a.drop n) := fun x hx => h x (List.mem_of_mem_drop hx)
theorem Bytes.set {a : List Int} (h : Bytes a) (n : Nat) {x : Int} (hx : 0 ≤ x ∧ x ≤ 255) : Bytes (a.set n x) := fun y hy => by
  rcases List.mem_or_eq_of_mem_set hy with h1 | rfl
  · exact h y h1
  · exact hx
theorem Bytes.wrap (n : Int) : 0 ≤ IntKind.u8.wrap n ∧ IntKind.u8.wrap n ≤ 255 := by
  unfold IntKind.wrap
  simp [IntKind.bits, IntKind.signed]
  omega
end Go.L
