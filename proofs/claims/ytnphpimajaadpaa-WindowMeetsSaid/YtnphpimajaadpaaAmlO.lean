/- The abstract memory logic, part O: a region that draws its order, one operation a line; a split on a truth value. -/
import Derived.Test.YtnphpimajaadpaaAmlS
namespace Go.Aml
open Go

section
variable {P : Program} {nt : Nat} {Q : XPost} {E : Env} {low loc : List AObj}

theorem subE_cons {t : Nat} {v : PV} (h : look E t = v) {g : Gh} {H : List AObj} {w : World} {a : Act} (hr : RelE g H w nt E a) : RelE g H w nt ((t, v) :: E) a := by
  refine ⟨hr.defers, hr.size, fun s => ?_⟩
  by_cases e : t = s
  · subst e
    rw [look_cons_same, ← h]
    exact hr.at_ t
  · rw [look_cons_ne _ _ e]
    exact hr.at_ s

/-- Two cases, by a truth value in a slot. -/
theorem vops_split (t : Nat) {b : Bool} {all : Array Oper} {l : List Oper} (ht : look E t = .bool b) (h1 : b = true → VOps P nt all l Q ((t, .bool true) :: E) low loc) (h2 : b = false → VOps P nt all l Q ((t, .bool false) :: E) low loc) : VOps P nt all l Q E low loc := by
  intro g a w hr Qr hQ
  cases b with
  | true => exact h1 rfl g a w ⟨hr.m, subE_cons ht hr.e⟩ Qr hQ
  | false => exact h2 rfl g a w ⟨hr.m, subE_cons ht hr.e⟩ Qr hQ
theorem vwp_split (t : Nat) {b : Bool} {c : Code} (ht : look E t = .bool b) (h1 : b = true → VWp P nt c Q ((t, .bool true) :: E) low loc) (h2 : b = false → VWp P nt c Q ((t, .bool false) :: E) low loc) : VWp P nt c Q E low loc := by
  intro g a w hr Qr hQ
  cases b with
  | true => exact h1 rfl g a w ⟨hr.m, subE_cons ht hr.e⟩ Qr hQ
  | false => exact h2 rfl g a w ⟨hr.m, subE_cons ht hr.e⟩ Qr hQ
theorem vwp_condT {c : Operand} {x y : Code} (hc : PE E c = .bool true) (ht : VWp P nt x Q E low loc) : VWp P nt (.cond c x y) Q E low loc := vwp_cond hc (fun _ => ht) (fun h => by cases h)
theorem vwp_condF {c : Operand} {x y : Code} (hc : PE E c = .bool false) (hf : VWp P nt y Q E low loc) : VWp P nt (.cond c x y) Q E low loc := vwp_cond hc (fun h => by cases h) (fun _ => hf)

variable {l r : List Oper} {tbl : List (List Nat)} {effs : List Bool} {mems : List Mem2} {i k : Nat} {K : Env → Prop}

/-- The rest of a region that draws its order, in the text's order: k operations that change memory lie behind us. -/
def DOps (P : Program) (l : List Oper) (tbl : List (List Nat)) (effs : List Bool) (mems : List Mem2) (i k : Nat) (r : List Oper) (E : Env) (K : Env → Prop) : Prop :=
  (effN l.length effs fun j => decide (j < i)) = k → i + r.length = l.length → ∃ vs, StepsOk P l tbl effs mems i r vs E ∧ K (envS (fun _ => true) i r vs E)

theorem vwp_drawn {id : Nat} (tbl : List (List Nat)) (effs : List Bool) (mems : List Mem2) (hm : P.follows .mixedOrders = true) (hB : drawB l tbl effs = true) (h0 : mems[0]? = some (low, loc)) (hlow : mems.all (fun M => Nat.beq M.1.length low.length) = true)
    (hdst : l.all (fun o => dstOk nt o.dst) = true) (Mz : Mem2) (hz : mems[effs.countP (fun b => b)]? = some Mz) (hn : (effN l.length effs fun _ => true) = effs.countP (fun b => b)) (hs : DOps P l tbl effs mems 0 0 l E fun E' => Q .normal E' Mz.1 Mz.2) : VWp P nt (.region id l.toArray true) Q E low loc := by
  have h00 : (effN l.length effs fun j => decide (j < 0)) = 0 := by
    unfold effN
    rw [List.countP_eq_zero]
    intro j _
    simp
  obtain ⟨vs, h1, h2⟩ := hs h00 (by simp)
  refine vwp_draw tbl effs mems vs hm hB h0 ?_ hdst h1 fun M hM => ?_
  · rw [List.all_eq_true] at hlow ⊢
    intro M hM
    have := Nat.eq_of_beq_eq_true (hlow M hM)
    simp [this]
  · rw [hn, hz] at hM
    cases hM
    exact h2

theorem dops_nil (h : K E) : DOps P l tbl effs mems i k [] E K := fun _ _ => ⟨[], trivial, h⟩

theorem effN_succ_false (h : effs.getD i false = false) : (effN l.length effs fun j => decide (j < i + 1)) = effN l.length effs fun j => decide (j < i) := by
  refine countP_eq_of fun j _ => ?_
  by_cases e : j = i
  · subst e; show (effs.getD j false && _) = (effs.getD j false && _); rw [h]; rfl
  · have : (j < i + 1) ↔ (j < i) := by omega
    simp [this]
theorem effN_succ_true (hi : i < l.length) (h : effs.getD i false = true) : (effN l.length effs fun j => decide (j < i + 1)) = (effN l.length effs fun j => decide (j < i)) + 1 := by
  refine countP_set hi (by simp) (by show (effs.getD i false && _) = true; rw [h]; simp) fun j _ hj => ?_
  have : (j < i + 1) ↔ (j < i) := by omega
  simp [this]

variable {d : Option Nat} {op : Op} {ty : TypeId} {pos : String} {aft : Array Edge} {v : PV}

theorem rdAll_of (o : Oper) : ∀ Ms : List Mem2, (∀ M ∈ Ms, VNt P o E M.1 M.2 v) → RdAll P o E v Ms
  | [], _ => trivial
  | M :: Ms, h => ⟨h M (by simp), rdAll_of o Ms fun M hM => h M (by simp [hM])⟩

/-- A looking operation, in whatever memory there is. -/
theorem dops_rd {gd : Option (Nat × Bool)} (he : effs.getD i false = false) (hg : gd = none) (h : ∀ M ∈ mems, VRd P ⟨d, op, ty, pos, aft, none⟩ (restr E (opTmps ⟨d, op, ty, pos, aft, gd⟩)) M.1 M.2 v) (hk : DOps P l tbl effs mems (i + 1) k r (putE E d v) K) : DOps P l tbl effs mems i k (⟨d, op, ty, pos, aft, gd⟩ :: r) E K := by
  subst hg
  intro h1 h2
  obtain ⟨vs, k1, k2⟩ := hk ((effN_succ_false he).trans h1) (by simp at h2; omega)
  refine ⟨v :: vs, ⟨?_, k1⟩, by simpa [envS] using k2⟩
  unfold StepOk RunOk
  simp only [he, Bool.false_eq_true, if_false]
  exact rdAll_of _ _ fun M hM => (h M (List.mem_of_mem_drop (List.mem_of_mem_take hM))).ntl

/-- .. in a memory that stays. -/
theorem dops_rd1 {gd : Option (Nat × Bool)} (he : effs.getD i false = false) (hg : gd = none) (hm : ∀ M ∈ mems, M = (low, loc)) (h : VRd P ⟨d, op, ty, pos, aft, none⟩ (restr E (opTmps ⟨d, op, ty, pos, aft, gd⟩)) low loc v) (hk : DOps P l tbl effs mems (i + 1) k r (putE E d v) K) : DOps P l tbl effs mems i k (⟨d, op, ty, pos, aft, gd⟩ :: r) E K :=
  dops_rd he hg (fun M hM => by rw [hm M hM]; exact h) hk

/-- A guarded operation that is carried out. -/
theorem dops_take {j t : Nat} {want : Bool} (he : effs.getD i false = false) (hj : (l[j]?).bind (·.dst) = some t) (ht : look E t = .bool want) (h : ∀ M ∈ mems, VRd P ⟨d, op, ty, pos, aft, none⟩ (restr E (opTmps ⟨d, op, ty, pos, aft, none⟩)) M.1 M.2 v) (hk : DOps P l tbl effs mems (i + 1) k r (putE E d v) K) : DOps P l tbl effs mems i k (⟨d, op, ty, pos, aft, some (j, want)⟩ :: r) E K := by
  intro h1 h2
  obtain ⟨vs, k1, k2⟩ := hk ((effN_succ_false he).trans h1) (by simp at h2; omega)
  refine ⟨v :: vs, ⟨⟨t, hj, .inl ⟨want, ht, fun _ => ?_, fun h => absurd rfl h⟩⟩, k1⟩, by simpa [envS] using k2⟩
  unfold RunOk
  simp only [he, Bool.false_eq_true, if_false]
  exact rdAll_of _ _ fun M hM => (h M (List.mem_of_mem_drop (List.mem_of_mem_take hM))).ntl

/-- .. that is not. -/
theorem dops_skip {j t : Nat} {want b : Bool} (he : effs.getD i false = false) (hj : (l[j]?).bind (·.dst) = some t) (ht : look E t = .bool b) (hb : b ≠ want) (hk : DOps P l tbl effs mems (i + 1) k r (putE E d (.tup [])) K) : DOps P l tbl effs mems i k (⟨d, op, ty, pos, aft, some (j, want)⟩ :: r) E K := by
  intro h1 h2
  obtain ⟨vs, k1, k2⟩ := hk ((effN_succ_false he).trans h1) (by simp at h2; omega)
  exact ⟨.tup [] :: vs, ⟨⟨t, hj, .inl ⟨b, ht, fun h => absurd h hb, fun _ => ⟨rfl, he⟩⟩⟩, k1⟩, by simpa [envS] using k2⟩
/-- .. that is not, since what guards it was not. -/
theorem dops_skipX {j t : Nat} {want : Bool} (he : effs.getD i false = false) (hj : (l[j]?).bind (·.dst) = some t) (ht : look E t = .tup []) (hk : DOps P l tbl effs mems (i + 1) k r (putE E d (.tup [])) K) : DOps P l tbl effs mems i k (⟨d, op, ty, pos, aft, some (j, want)⟩ :: r) E K := by
  intro h1 h2
  obtain ⟨vs, k1, k2⟩ := hk ((effN_succ_false he).trans h1) (by simp at h2; omega)
  exact ⟨.tup [] :: vs, ⟨⟨t, hj, .inr ⟨ht, rfl, he⟩⟩, k1⟩, by simpa [envS] using k2⟩

/-- An operation that may change memory. -/
theorem dops_ef {M M' : Mem2} (he : effs.getD i false = true) (hM : mems[k]? = some M) (hM' : mems[k + 1]? = some M') (h : VEf P ⟨d, op, ty, pos, aft, none⟩ (restr E (opTmps ⟨d, op, ty, pos, aft, none⟩)) M.1 M.2 fun v1 l1 l2 => v1 = v ∧ l1 = M'.1 ∧ l2 = M'.2) (hk : DOps P l tbl effs mems (i + 1) (k + 1) r (putE E d v) K) : DOps P l tbl effs mems i k (⟨d, op, ty, pos, aft, none⟩ :: r) E K := by
  intro h1 h2
  have hi : i < l.length := by simp at h2; omega
  obtain ⟨vs, k1, k2⟩ := hk ((effN_succ_true hi he).trans (by rw [h1])) (by simp at h2; omega)
  refine ⟨v :: vs, ⟨?_, k1⟩, by simpa [envS] using k2⟩
  unfold StepOk RunOk
  simp only [he, if_true]
  exact ⟨M, M', by rw [h1]; exact hM, by rw [h1]; exact hM', h⟩
end
end Go.Aml
