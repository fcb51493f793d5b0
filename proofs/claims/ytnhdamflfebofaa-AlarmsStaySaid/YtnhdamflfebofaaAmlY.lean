/- The abstract memory logic, part Y: structs and arrays compared. -/
import Derived.Test.YtnhdamflfebofaaAmlX
import Derived.Laws.StructEq
import Derived.ChangeKeysEq
namespace Go.Aml
open Go

theorem elimL {α β γ : Type} {f : α → γ} {g : β → γ} {a : α} {r : γ} (h : Sum.elim f g (Sum.inl a) = r) : f a = r := h
theorem elimR {α β γ : Type} {f : α → γ} {g : β → γ} {b : β} {r : γ} (h : Sum.elim f g (Sum.inr b) = r) : g b = r := h
theorem none_absurd {α : Type} {r : α} {p : Prop} (h : (none : Option α) = some r) : p := by cases h

def subV (cs : List PV) (off n : Nat) (ag : Bool) : Option PV := bif ag then some (.agg ((cs.drop off).take n)) else cs[off]?

abbrev EqTab := List (Nat × Nat × List (Nat × Nat × Bool × Nat))
def eqLook : EqTab → Nat → Option (Nat × List (Nat × Nat × Bool × Nat))
  | [], _ => none
  | (t, x) :: r, u => bif Nat.beq t u then some x else eqLook r u

def eqLeaf : Nat → PV → PV → Option Bool
  | 0, .bool a, .bool b => some (a == b)
  | 1, .int k a, .int k' b => if k = k' then some (a == b) else none
  | 2, .str a, .str b => some (a.toList == b.toList)
  | _, _, _ => none
def eqFs (rec : Nat → PV → PV → Option Bool) (cs ds : List PV) : List (Nat × Nat × Bool × Nat) → Option Bool
  | [] => some true
  | (off, n, ag, ft) :: r =>
    match subV cs off n ag, subV ds off n ag with
    | some a, some b =>
      match rec ft a b, eqFs rec cs ds r with
      | some p, some q => some (p && q)
      | _, _ => none
    | _, _ => none
def eqV (tab : EqTab) : Nat → Nat → PV → PV → Option Bool
  | 0, _, _, _ => none
  | d + 1, t, x, y =>
    match eqLook tab t with
    | some (3, fs) =>
      match x, y with
      | .agg cs, .agg ds => eqFs (eqV tab d) cs ds fs
      | _, _ => none
    | some (k, _) => eqLeaf k x y
    | none => none

def eqFieldOk (P : Program) : List Field → List (Nat × Nat × Bool × Nat) → Bool
  | [], [] => true
  | f :: fs, (off, n, ag, ft) :: r => f.name != "_" && Nat.beq f.offset off && Nat.beq f.type ft && (tAgg P ft == some ag) && (tSize P ft == some n) && eqFieldOk P fs r
  | _, _ => false
def eqItemOk (P : Program) (e c : Nat) : List Nat → List (Nat × Nat × Bool × Nat) → Bool
  | [], [] => true
  | i :: is, (off, n, ag, ft) :: r => Nat.beq (i * c) off && Nat.beq e ft && Nat.beq c n && (tAgg P ft == some ag) && (tSize P ft == some n) && eqItemOk P e c is r
  | _, _ => false
def eqEntOk (P : Program) (t : Nat) : Nat × List (Nat × Nat × Bool × Nat) → Bool
  | (0, _) => match P.underlying t with | some .bool => true | _ => false
  | (1, _) => match P.underlying t with | some (.int _) => true | _ => false
  | (2, _) => match P.underlying t with | some .string => true | _ => false
  | (3, l) => match P.underlying t with
    | some (.struct fs) => !P.stoodInHeld t && eqFieldOk P fs.toList l
    | some (.array n e) => (P.info? e).isSome && eqItemOk P e (P.cellsOf e) (List.range n) l
    | _ => false
  | _ => false
def eqTabOk (P : Program) (tab : EqTab) : Bool := tab.all fun p => eqEntOk P p.1 p.2

section
variable {P : Program} {g : Gh} {H : List AObj} {w : World}

end

section
variable {P : Program} {E : Env} {low loc : List AObj} {d : Option Nat} {ty : TypeId} {pos : String} {aft : Array Edge} {gd : Option (Nat × Bool)} {t yt : TypeId} {x y : Operand}
end
end Go.Aml
