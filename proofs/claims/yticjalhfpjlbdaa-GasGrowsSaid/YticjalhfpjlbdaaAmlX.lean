/- The abstract memory logic, part X: nil as an empty row, within values, where an operation yields them or a call takes them. -/
import Derived.Test.YticjalhfpjlbdaaAmlW
namespace Go.Aml
open Go

inductive Nc : PV → PV → Prop
  | refl (c : PV) : Nc c c
  | nil (sz : Nat) : Nc .nils (.vs sz [])
  | z0 (sz : Nat) : Nc .z0 (.vs sz [])
  | agg (cs ds : List PV) (hl : cs.length = ds.length) (h : ∀ (i : Nat) (c e : PV), cs[i]? = some c → ds[i]? = some e → Nc c e) : Nc (.agg cs) (.agg ds)
  | tup (cs ds : List PV) (hl : cs.length = ds.length) (h : ∀ (i : Nat) (c e : PV), cs[i]? = some c → ds[i]? = some e → Nc c e) : Nc (.tup cs) (.tup ds)
  | vs (sz : Nat) (cs ds : List PV) (hl : cs.length = ds.length) (h : ∀ (i : Nat) (c e : PV), cs[i]? = some c → ds[i]? = some e → Nc c e) : Nc (.vs sz cs) (.vs sz ds)

theorem Nc.cells {c e : PV} (h : Nc c e) : c.cells.length = e.cells.length ∧ ∀ (j : Nat) (c' e' : PV), c.cells[j]? = some c' → e.cells[j]? = some e' → Nc c' e' := by
  have one : ∀ (a b : PV), Nc a b → ∀ (j : Nat) (c' e' : PV), [a][j]? = some c' → [b][j]? = some e' → Nc c' e' := fun a b hab j c' e' h1 h2 => by
    match j, h1, h2 with
    | 0, h1, h2 => simp at h1 h2; subst h1; subst h2; exact hab
    | j + 1, h1, _ => simp at h1
  have hh := h
  cases h with
  | refl => exact ⟨rfl, fun j c' e' h1 h2 => by rw [h1] at h2; injection h2 with h2; subst h2; exact .refl _⟩
  | nil sz => exact ⟨rfl, one _ _ hh⟩
  | z0 sz => exact ⟨rfl, one _ _ hh⟩
  | agg cs ds hl h => exact ⟨hl, h⟩
  | tup cs ds hl h => exact ⟨rfl, one _ _ hh⟩
  | vs sz cs ds hl h => exact ⟨rfl, one _ _ hh⟩

def NcL : List PV → List PV → Prop
  | [], [] => True
  | c :: cs, e :: es => Nc c e ∧ NcL cs es
  | _, _ => False
theorem NcL.get {cs es : List PV} (h : NcL cs es) : cs.length = es.length ∧ ∀ (i : Nat) (c e : PV), cs[i]? = some c → es[i]? = some e → Nc c e := by
  induction cs generalizing es with
  | nil => cases es with
    | nil => exact ⟨rfl, by simp⟩
    | cons => exact h.elim
  | cons c cs ih => cases es with
    | nil => exact h.elim
    | cons e es =>
      obtain ⟨h1, h2⟩ := ih h.2
      refine ⟨by simp [h1], fun i a b ha hb => ?_⟩
      match i, ha, hb with
      | 0, ha, hb => simp at ha hb; subst ha; subst hb; exact h.1
      | i + 1, ha, hb => exact h2 i a b (by simpa using ha) (by simpa using hb)
section
variable {P : Program} {E : Env} {low loc low' loc' : List AObj}
end
end Go.Aml
