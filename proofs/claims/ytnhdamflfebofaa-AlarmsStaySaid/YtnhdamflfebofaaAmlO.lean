/- The abstract memory logic, part O: a region that draws its order, one operation a line; a split on a truth value. -/
import Derived.Test.YtnhdamflfebofaaAmlS
namespace Go.Aml
open Go

section
variable {P : Program} {nt : Nat} {Q : XPost} {E : Env} {low loc : List AObj}

variable {l r : List Oper} {tbl : List (List Nat)} {effs : List Bool} {mems : List Mem2} {i k : Nat} {K : Env → Prop}

def DOps (P : Program) (l : List Oper) (tbl : List (List Nat)) (effs : List Bool) (mems : List Mem2) (i k : Nat) (r : List Oper) (E : Env) (K : Env → Prop) : Prop :=
  (effN l.length effs fun j => decide (j < i)) = k → i + r.length = l.length → ∃ vs, StepsOk P l tbl effs mems i r vs E ∧ K (envS (fun _ => true) i r vs E)

theorem vwp_drawn {id : Nat} (tbl : List (List Nat)) (effs : List Bool) (mems : List Mem2) (hm : P.follows .mixedOrders = true) (hB : drawB l tbl effs = true) (h0 : mems[0]? = some (low, loc)) (hlow : mems.all (fun M => Nat.beq M.1.length low.length) = true)
    (hdst : l.all (fun o => dstOk nt o.dst) = true) (Mz : Mem2) (hz : mems[effs.countP (fun b => b)]? = some Mz) (hn : (effN l.length effs fun _ => true) = effs.countP (fun b => b)) (hs : DOps P l tbl effs mems 0 0 l E fun E' => Q .normal E' Mz.1 Mz.2) : VWp P nt (.region id l.toArray true) Q E low loc := by
  have h00 : (effN l.length effs fun j => decide (j < 0)) = 0 := by
    unfold effN
    rw [List.countP_eq_zero]
    intro j _
    simp
  obtain ⟨vs, h1, h2⟩ := hs h00 (by simp)
  refine vwp_draw tbl effs mems vs hm hB h0 ?_ hdst h1 fun M hM => ?_
  · rw [List.all_eq_true] at hlow ⊢
    intro M hM
    have := Nat.eq_of_beq_eq_true (hlow M hM)
    simp [this]
  · rw [hn, hz] at hM
    cases hM
    exact h2

theorem dops_nil (h : K E) : DOps P l tbl effs mems i k [] E K := fun _ _ => ⟨[], trivial, h⟩

theorem effN_succ_false (h : effs.getD i false = false) : (effN l.length effs fun j => decide (j < i + 1)) = effN l.length effs fun j => decide (j < i) := by
  refine countP_eq_of fun j _ => ?_
  by_cases e : j = i
  · subst e; show (effs.getD j false && _) = (effs.getD j false && _); rw [h]; rfl
  · have : (j < i + 1) ↔ (j < i) := by omega
    simp [this]
theorem effN_succ_true (hi : i < l.length) (h : effs.getD i false = true) : (effN l.length effs fun j => decide (j < i + 1)) = (effN l.length effs fun j => decide (j < i)) + 1 := by
  refine countP_set hi (by simp) (by show (effs.getD i false && _) = true; rw [h]; simp) fun j _ hj => ?_
  have : (j < i + 1) ↔ (j < i) := by omega
  simp [this]

variable {d : Option Nat} {op : Op} {ty : TypeId} {pos : String} {aft : Array Edge} {v : PV}

theorem rdAll_of (o : Oper) : ∀ Ms : List Mem2, (∀ M ∈ Ms, VNt P o E M.1 M.2 v) → RdAll P o E v Ms
  | [], _ => trivial
  | M :: Ms, h => ⟨h M (by simp), rdAll_of o Ms fun M hM => h M (by simp [hM])⟩

theorem dops_skip {j t : Nat} {want b : Bool} (he : effs.getD i false = false) (hj : (l[j]?).bind (·.dst) = some t) (ht : look E t = .bool b) (hb : b ≠ want) (hk : DOps P l tbl effs mems (i + 1) k r (putE E d (.tup [])) K) : DOps P l tbl effs mems i k (⟨d, op, ty, pos, aft, some (j, want)⟩ :: r) E K := by
  intro h1 h2
  obtain ⟨vs, k1, k2⟩ := hk ((effN_succ_false he).trans h1) (by simp at h2; omega)
  exact ⟨.tup [] :: vs, ⟨⟨t, hj, .inl ⟨b, ht, fun h => absurd h hb, fun _ => ⟨rfl, he⟩⟩⟩, k1⟩, by simpa [envS] using k2⟩
theorem dops_skipX {j t : Nat} {want : Bool} (he : effs.getD i false = false) (hj : (l[j]?).bind (·.dst) = some t) (ht : look E t = .tup []) (hk : DOps P l tbl effs mems (i + 1) k r (putE E d (.tup [])) K) : DOps P l tbl effs mems i k (⟨d, op, ty, pos, aft, some (j, want)⟩ :: r) E K := by
  intro h1 h2
  obtain ⟨vs, k1, k2⟩ := hk ((effN_succ_false he).trans h1) (by simp at h2; omega)
  exact ⟨.tup [] :: vs, ⟨⟨t, hj, .inr ⟨ht, rfl, he⟩⟩, k1⟩, by simpa [envS] using k2⟩

theorem dops_ef {M M' : Mem2} (he : effs.getD i false = true) (hM : mems[k]? = some M) (hM' : mems[k + 1]? = some M') (h : VEf P ⟨d, op, ty, pos, aft, none⟩ (restr E (opTmps ⟨d, op, ty, pos, aft, none⟩)) M.1 M.2 fun v1 l1 l2 => v1 = v ∧ l1 = M'.1 ∧ l2 = M'.2) (hk : DOps P l tbl effs mems (i + 1) (k + 1) r (putE E d v) K) : DOps P l tbl effs mems i k (⟨d, op, ty, pos, aft, none⟩ :: r) E K := by
  intro h1 h2
  have hi : i < l.length := by simp at h2; omega
  obtain ⟨vs, k1, k2⟩ := hk ((effN_succ_true hi he).trans (by rw [h1])) (by simp at h2; omega)
  refine ⟨v :: vs, ⟨?_, k1⟩, by simpa [envS] using k2⟩
  unfold StepOk RunOk
  simp only [he, if_true]
  exact ⟨M, M', by rw [h1]; exact hM, by rw [h1]; exact hM', h⟩
end
end Go.Aml
