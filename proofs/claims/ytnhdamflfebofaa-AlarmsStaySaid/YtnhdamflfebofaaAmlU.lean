/- The abstract memory logic, part U: rules in the form that the printed walks use. -/
import Derived.Test.YtnhdamflfebofaaAmlT
import Derived.Test.YtnhdamflfebofaaAmlO
namespace Go.Aml
open Go

section
variable {P : Program} {nt : Nat} {Q : XPost} {E E' : Env} {low loc low' loc' : List AObj} {all : Array Oper} {rest : List Oper}
variable {α : Type} {f : α → PV} {l l2 ys : List α} {x y z : Operand} {d : Option Nat} {ty : TypeId} {pos : String} {aft : Array Edge} {t : TypeId} {gd : Option (Nat × Bool)}

def notTup : PV → Bool
  | .tup _ => false
  | _ => true
theorem nt_ne {p : PV} (h : notTup p = true) : ∀ vs, p ≠ .tup vs := by rintro vs rfl; cases h
theorem nt_all {es : List PV} (h : es.all notTup = true) : ∀ e ∈ es, ∀ ws, e ≠ .tup ws := fun e he => nt_ne (List.all_eq_true.1 h e he)
theorem nt_all2 {vs : List (Nat × PV)} (h : vs.all (fun p => notTup p.2) = true) : ∀ i v, (i, v) ∈ vs → ∀ ws, v ≠ .tup ws := fun i v hv => nt_ne (List.all_eq_true.1 h (i, v) hv)

theorem vef_litF {ps : List (Nat × Operand)} {es : List PV} {te sz n : Nat} {zv : Value} (hps : PartsIs E ps (numbered 0 es)) (hn : es.length = n) (hwid : es.all (fun e => Nat.beq e.cells.length sz && e.cells.all PV.one) = true) (htup : ∀ e ∈ es, ∀ ws, e ≠ .tup ws)
    (ht : tElem P t = some te) (hsz : tSize P te = some sz) (hz : tZero P te = some zv) (hzs : zv.cells.size = sz) (hzone : zv.cells.toList.all (·.oneCell') = true) (hpos : 0 < sz) (h24 : n * sz ≤ 16777216) (hp : ∀ e, e ∈ es → LtN 0 e) :
    VEf P ⟨d, .buildSlice t n ps.toArray, ty, pos, aft, none⟩ E low loc fun v1 low1 loc1 => v1 = .vs sz es ∧ low1 = low ∧ loc1 = loc := by
  have := vef_newF (new_lit (P := P) (low := low) (loc := loc) (d := d) (ty := ty) (pos := pos) (aft := aft) hps hn hwid htup ht hsz hz hzs hzone hpos h24) hn hp
  exact this

@[reducible] def encS {β : Type} (sz : Nat) (g : β → PV) (m : List β) : PV := .vs sz (m.map g)

/-! ### with the number of the callers' objects named -/
variable {N K k : Nat} {o o' : AObj}
theorem getO_N (hN : low.length = N) (h : loc[k]? = some o) : GetO low loc (N + k) o := hN ▸ getO_loc h
theorem setO_N (hN : low.length = N) {loc1 : List AObj} (h : loc.set k o' = loc1) : SetO low loc (N + k) o' low loc1 := by subst hN; subst h; exact setO_loc

theorem vef_boxN (hN : low.length = N) (hK : loc.length = K) {elem sz : Nat} {v : PV} (hx : PE E x = v) (hsz : v.cells.length = sz) (hpos : 0 < sz) (hone : v.cells.all PV.one = true) (ht : notTup v = true) :
    VEf P ⟨d, .box elem x, ty, pos, aft, none⟩ E low loc fun v1 low1 loc1 => v1 = .ptr (N + K) 0 0 0 ∧ low1 = low ∧ loc1 = loc ++ [⟨elem, sz, [v], 0⟩] := by
  subst hN; subst hK; exact vef_box hx hsz hpos hone (nt_ne ht)
theorem vef_allocN (hN : low.length = N) (hK : loc.length = K) {elem sz : Nat} {zv : Value} {v : PV} (hz : tZero P elem = some zv) (hv : emb zv = v) (hsz : v.cells.length = sz) (hpos : 0 < sz) (hone : v.cells.all PV.one = true) :
    VEf P ⟨d, .alloc elem, ty, pos, aft, none⟩ E low loc fun v1 low1 loc1 => v1 = .ptr (N + K) 0 0 0 ∧ low1 = low ∧ loc1 = loc ++ [⟨elem, sz, [v], 0⟩] := by
  subst hN; subst hK; exact vef_alloc hz hv hsz hpos hone
theorem vef_litN (hN : low.length = N) (hK : loc.length = K) {ps : List (Nat × Operand)} {es : List PV} {te sz n : Nat} {zv : Value} (hps : PartsIs E ps (numbered 0 es)) (hn : es.length = n) (hwid : es.all (fun e => Nat.beq e.cells.length sz && e.cells.all PV.one) = true) (htup : ∀ e ∈ es, ∀ ws, e ≠ .tup ws)
    (ht : tElem P t = some te) (hsz : tSize P te = some sz) (hz : tZero P te = some zv) (hzs : zv.cells.size = sz) (hzone : zv.cells.toList.all (·.oneCell') = true) (hpos : 0 < sz) (h24 : n * sz ≤ 16777216) :
    VEf P ⟨d, .buildSlice t n ps.toArray, ty, pos, aft, none⟩ E low loc fun v1 low1 loc1 => v1 = .sl (N + K) 0 0 es.length ∧ low1 = low ∧ loc1 = loc ++ [⟨te, sz, es, 0⟩] := by
  subst hN; subst hK; subst hn; exact vef_lit hps rfl hwid htup ht hsz hz hzs hzone hpos h24
theorem vef_nilsN (hN : low.length = N) (hK : loc.length = K) {op : Op} (elem sz : Nat) (hp : 0 < sz) (h : VRd P ⟨d, op, ty, pos, aft, none⟩ E low loc .nils) :
    VEf P ⟨d, op, ty, pos, aft, none⟩ E low loc fun v1 low1 loc1 => v1 = .sl (N + K) 0 0 0 ∧ low1 = low ∧ loc1 = loc ++ [⟨elem, sz, [], 0⟩] := by
  subst hN; subst hK; exact vef_nils elem sz hp h
theorem vops_efE {op : Op} {v : PV} (h : VEf P ⟨d, op, ty, pos, aft, none⟩ E low loc fun v1 low1 loc1 => v1 = v ∧ low1 = low' ∧ loc1 = loc') (hd : dstOk nt d = true) (hk : VOps P nt all rest Q (putE E d v) low' loc') : VOps P nt all (⟨d, op, ty, pos, aft, none⟩ :: rest) Q E low loc :=
  vops_ef h hd (by rintro _ _ _ ⟨rfl, rfl, rfl⟩; exact hk)
theorem lenAll {mems : List Mem2} (h : ∀ M ∈ mems, M.1.length = low.length) : mems.all (fun M => Nat.beq M.1.length low.length) = true := by
  rw [List.all_eq_true]
  intro M hM
  rw [h M hM]
  exact Nat.beq_refl _
theorem len_app (hN : low.length = N) (hK : loc.length = K) : (low ++ loc).length = N + K := by rw [List.length_append, hN, hK]
theorem set_get {i : Nat} {e e' : α} (h : l[i]? = some e) : (l.set i e')[i]? = some e' := List.getElem?_set_self (List.getElem?_eq_some_iff.1 h).1
theorem weak_freezeN (hN : low.length = N) (k : Nat) {loc1 : List AObj} (ho : loc[k]? = some o) (hp : ∀ e, e ∈ o.es → LtN 0 e) (hE : CvE (N + k) o E E') (hO : CvOs (N + k) o (loc.set k ⟨o.ty, o.sz, [], o.ver + 1⟩) loc1) : Weak E low loc E' low loc1 := by
  subst hN; exact weak_freeze k ho hp hE hO
theorem get_N (hN : low.length = N) (h : loc[k]? = some o) : (low ++ loc)[N + k]? = some o := getO_N hN h

/-! ### regions that draw their order: in the memories that an operation may find -/
variable {ol r : List Oper} {tbl : List (List Nat)} {effs : List Bool} {mems : List Mem2} {i q : Nat} {KK : Env → Prop} {op : Op} {v : PV}
def winM (ol : List Oper) (tbl : List (List Nat)) (effs : List Bool) (mems : List Mem2) (i : Nat) : List Mem2 := (mems.drop (winLo ol.length tbl effs i)).take (winHi ol.length tbl effs i + 1 - winLo ol.length tbl effs i)
theorem dops_rdW (Ms : List Mem2) (he : effs.getD i false = false) (hW : winM ol tbl effs mems i = Ms) (h : ∀ M ∈ Ms, VNt P ⟨d, op, ty, pos, aft, none⟩ (restr E (opTmps ⟨d, op, ty, pos, aft, none⟩)) M.1 M.2 v) (hk : DOps P ol tbl effs mems (i + 1) q r (putE E d v) KK) : DOps P ol tbl effs mems i q (⟨d, op, ty, pos, aft, none⟩ :: r) E KK := by
  intro h1 h2
  obtain ⟨vs, k1, k2⟩ := hk ((effN_succ_false he).trans h1) (by simp at h2; omega)
  refine ⟨v :: vs, ⟨?_, k1⟩, by simpa [envS] using k2⟩
  unfold StepOk RunOk
  simp only [he, Bool.false_eq_true, if_false]
  exact rdAll_of _ _ fun M hM => h M (hW ▸ hM)
theorem dops_takeW (Ms : List Mem2) {j t : Nat} {want : Bool} (he : effs.getD i false = false) (hW : winM ol tbl effs mems i = Ms) (hj : (ol[j]?).bind (·.dst) = some t) (ht : look E t = .bool want) (h : ∀ M ∈ Ms, VNt P ⟨d, op, ty, pos, aft, none⟩ (restr E (opTmps ⟨d, op, ty, pos, aft, none⟩)) M.1 M.2 v) (hk : DOps P ol tbl effs mems (i + 1) q r (putE E d v) KK) : DOps P ol tbl effs mems i q (⟨d, op, ty, pos, aft, some (j, want)⟩ :: r) E KK := by
  intro h1 h2
  obtain ⟨vs, k1, k2⟩ := hk ((effN_succ_false he).trans h1) (by simp at h2; omega)
  refine ⟨v :: vs, ⟨⟨t, hj, .inl ⟨want, ht, fun _ => ?_, fun h => absurd rfl h⟩⟩, k1⟩, by simpa [envS] using k2⟩
  unfold RunOk
  simp only [he, Bool.false_eq_true, if_false]
  exact rdAll_of _ _ fun M hM => h M (hW ▸ hM)
theorem dops_efT {M M' : Mem2} {j t : Nat} {want : Bool} (he : effs.getD i false = true) (hj : (ol[j]?).bind (·.dst) = some t) (ht : look E t = .bool want) (hM : mems[q]? = some M) (hM' : mems[q + 1]? = some M')
    (h : VEf P ⟨d, op, ty, pos, aft, none⟩ (restr E (opTmps ⟨d, op, ty, pos, aft, none⟩)) M.1 M.2 fun v1 l1 l2 => v1 = v ∧ l1 = M'.1 ∧ l2 = M'.2) (hk : DOps P ol tbl effs mems (i + 1) (q + 1) r (putE E d v) KK) : DOps P ol tbl effs mems i q (⟨d, op, ty, pos, aft, some (j, want)⟩ :: r) E KK := by
  intro h1 h2
  have hi : i < ol.length := by simp at h2; omega
  obtain ⟨vs, k1, k2⟩ := hk ((effN_succ_true hi he).trans (by rw [h1])) (by simp at h2; omega)
  refine ⟨v :: vs, ⟨⟨t, hj, .inl ⟨want, ht, fun _ => ?_, fun h => absurd rfl h⟩⟩, k1⟩, by simpa [envS] using k2⟩
  unfold RunOk
  simp only [he, if_true]
  exact ⟨M, M', by rw [h1]; exact hM, by rw [h1]; exact hM', h⟩
theorem nt_of {o : Oper} {v : PV} {low loc : List AObj} (h : VEf P o E low loc fun v1 l1 l2 => v1 = v ∧ l1 = low ∧ l2 = loc) : VNt P o E low loc v := h
theorem all1 {p : Mem2 → Prop} {a : Mem2} {Ms : List Mem2} (h : p a) (h' : ∀ M ∈ Ms, p M) : ∀ M ∈ a :: Ms, p M := List.forall_mem_cons.2 ⟨h, h'⟩
theorem all0 {p : Mem2 → Prop} : ∀ M ∈ ([] : List Mem2), p M := fun _ h => by cases h
def ScL : List PV → Prop
  | [] => True
  | c :: cs => Sc c ∧ ScL cs
theorem ScL.mem {cs : List PV} (h : ScL cs) : ∀ c, c ∈ cs → Sc c := by
  induction cs with
  | nil => simp
  | cons c cs ih =>
    intro x hx
    rcases List.mem_cons.1 hx with rfl | hx
    · exact h.1
    · exact ih h.2 x hx
def FnE (K : Post) : XPost := fun e E low loc => (e = .normal ∨ e = .ret) ∧ K E low loc
theorem fnR {K : Post} (h : K E low loc) : FnE K .ret E low loc := ⟨.inr rfl, h⟩

theorem neT {b : Bool} (h : b = true) : b ≠ false := by rw [h]; decide
theorem neF {b : Bool} (h : b = false) : b ≠ true := by rw [h]; decide

end
end Go.Aml
