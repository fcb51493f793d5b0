/- The abstract memory logic, part DA: regions that draw their order, in which operations that change memory may stand without an order between them. -/
import Derived.Test.YtnhdamflfebofaaAmlO
import Derived.Test.YtnhdamflfebofaaAmlU
namespace Go.Aml
open Go

abbrev MemX := List Nat × Mem2

def drawP (l : List Oper) (tbl : List (List Nat)) : Bool :=
  (List.range l.length).all fun i =>
    let o := l.getD i default
    (o.after.toList.all fun e => !Region.binds .any e || Nat.blt e.on i) &&
    ((tbl.getD i []).all fun j => o.after.toList.any fun e => Region.binds .any e && (e.on == j || befB tbl e.on j)) &&
    ((opTmps o ++ gdTmp l o ++ o.dst.toList).all fun t => nameB l tbl i t)

def exN (n : Nat) (effs : List Bool) (S : Nat → Bool) : List Nat := (List.range n).filter fun j => effs.getD j false && S j
def addN (n : Nat) (s : List Nat) (i : Nat) : List Nat := (List.range n).filter fun j => s.elem j || j == i

def enabB (n : Nat) (tbl : List (List Nat)) (effs : List Bool) (i : Nat) (s : List Nat) : Bool :=
  !s.elem i && (List.range n).all fun j => !effs.getD j false || ((!befB tbl i j || s.elem j) && (!befB tbl j i || !s.elem j))

section
variable {P : Program} {nt : Nat} {Q : XPost} {E : Env} {low loc : List AObj}

def RdX (P : Program) (o : Oper) (E : Env) (v : PV) : List MemX → Prop
  | [] => True
  | M :: Ms => VNt P o E M.2.1 M.2.2 v ∧ RdX P o E v Ms
theorem RdX.get {o : Oper} {v : PV} {Ms : List MemX} (h : RdX P o E v Ms) (M : MemX) (hk : M ∈ Ms) : VNt P o E M.2.1 M.2.2 v := by
  induction Ms with
  | nil => cases hk
  | cons A Ms ih =>
    rcases List.mem_cons.1 hk with rfl | hk
    · exact h.1
    · exact ih h.2 hk
def EfX (P : Program) (n : Nat) (tab : List MemX) (i : Nat) (o : Oper) (E : Env) (v : PV) : List MemX → Prop
  | [] => True
  | M :: Ms => (∃ (k : Nat) (M' : Mem2), tab[k]? = some (addN n M.1 i, M') ∧ VEf P o E M.2.1 M.2.2 fun v1 l1 l2 => v1 = v ∧ l1 = M'.1 ∧ l2 = M'.2) ∧ EfX P n tab i o E v Ms
theorem EfX.get {n : Nat} {tab : List MemX} {i : Nat} {o : Oper} {v : PV} {Ms : List MemX} (h : EfX P n tab i o E v Ms) (M : MemX) (hk : M ∈ Ms) : ∃ (k : Nat) (M' : Mem2), tab[k]? = some (addN n M.1 i, M') ∧ VEf P o E M.2.1 M.2.2 fun v1 l1 l2 => v1 = v ∧ l1 = M'.1 ∧ l2 = M'.2 := by
  induction Ms with
  | nil => cases hk
  | cons A Ms ih =>
    rcases List.mem_cons.1 hk with rfl | hk
    · exact h.1
    · exact ih h.2 hk

def winX (n : Nat) (tbl : List (List Nat)) (effs : List Bool) (tab : List MemX) (i : Nat) : List MemX := tab.filter fun M => enabB n tbl effs i M.1

def RunX (P : Program) (n : Nat) (tbl : List (List Nat)) (effs : List Bool) (tab : List MemX) (i : Nat) (o : Oper) (Ei : Env) (v : PV) : Prop :=
  if effs.getD i false then EfX P n tab i ⟨o.dst, o.op, o.type, o.pos, o.after, none⟩ (restr Ei (opTmps o)) v (winX n tbl effs tab i)
  else RdX P ⟨o.dst, o.op, o.type, o.pos, o.after, none⟩ (restr Ei (opTmps o)) v (winX n tbl effs tab i)

def StepX (P : Program) (l : List Oper) (tbl : List (List Nat)) (effs : List Bool) (tab : List MemX) (i : Nat) (o : Oper) (Ei : Env) (v : PV) : Prop :=
  match o.guard with
  | none => RunX P l.length tbl effs tab i o Ei v
  | some (j, want) => ∃ t, (l[j]?).bind (·.dst) = some t ∧ ((∃ b, look Ei t = .bool b ∧ (b = want → RunX P l.length tbl effs tab i o Ei v) ∧ (b ≠ want → v = .tup [] ∧ effs.getD i false = false)) ∨ (look Ei t = .tup [] ∧ v = .tup [] ∧ effs.getD i false = false))

def StepsX (P : Program) (l : List Oper) (tbl : List (List Nat)) (effs : List Bool) (tab : List MemX) : Nat → List Oper → List PV → Env → Prop
  | i, o :: r, v :: vs, E => StepX P l tbl effs tab i o E v ∧ StepsX P l tbl effs tab (i + 1) r vs (putE E o.dst v)
  | _, [], [], _ => True
  | _, _, _, _ => False

theorem StepsX.get {l : List Oper} {tbl : List (List Nat)} {effs : List Bool} {tab : List MemX} : ∀ {r : List Oper} {vs : List PV} {k : Nat} {E0 : Env}, StepsX P l tbl effs tab k r vs E0 →
    vs.length = r.length ∧ ∀ i o, r[i]? = some o → ∃ v, vs[i]? = some v ∧ StepX P l tbl effs tab (k + i) o (envS (fun j => decide (j < k + i)) k r vs E0) v
  | [], [], k, E0, _ => ⟨rfl, by simp⟩
  | [], _ :: _, k, E0, h => h.elim
  | _ :: _, [], k, E0, h => h.elim
  | o :: r, v :: vs, k, E0, h => by
    obtain ⟨h1, h2⟩ := StepsX.get h.2
    refine ⟨by simp [h1], fun i o' hi => ?_⟩
    match i, hi with
    | 0, hi =>
      simp at hi
      subst hi
      refine ⟨v, rfl, ?_⟩
      have none_ : ∀ (l : List Oper) (m : Nat) (vs : List PV) (E : Env), k ≤ m → envS (fun j => decide (j < k + 0)) m l vs E = E := by
        intro l
        induction l with
        | nil => intro m vs E _; simp [envS]
        | cons o l ih => intro m vs E hm; cases vs with
          | nil => simp [envS]
          | cons v vs =>
            simp only [envS]
            rw [if_neg (by simp; omega)]
            exact ih (m + 1) vs E (by omega)
      rw [none_ _ _ _ _ (Nat.le_refl _)]
      exact h.1
    | i + 1, hi =>
      obtain ⟨v', hv', hs⟩ := h2 i o' (by simpa using hi)
      refine ⟨v', by simpa using hv', ?_⟩
      rw [show k + 1 + i = k + (i + 1) by omega] at hs
      simp only [envS]
      rw [if_pos (by simp)]
      exact hs

end
end Go.Aml
