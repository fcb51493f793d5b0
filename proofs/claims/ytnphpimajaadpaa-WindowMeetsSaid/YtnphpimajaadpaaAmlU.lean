/- The abstract memory logic, part U: rules in the form that the printed walks use. -/
import Derived.Test.YtnphpimajaadpaaAmlT
import Derived.Test.YtnphpimajaadpaaAmlO
namespace Go.Aml
open Go

section
variable {P : Program} {nt : Nat} {Q : XPost} {E E' : Env} {low loc low' loc' : List AObj} {all : Array Oper} {rest : List Oper}
variable {α : Type} {f : α → PV} {l l2 ys : List α} {x y z : Operand} {d : Option Nat} {ty : TypeId} {pos : String} {aft : Array Edge} {t : TypeId} {gd : Option (Nat × Bool)}

def notTup : PV → Bool
  | .tup _ => false
  | _ => true
theorem nt_ne {p : PV} (h : notTup p = true) : ∀ vs, p ≠ .tup vs := by rintro vs rfl; cases h
theorem nt_all {es : List PV} (h : es.all notTup = true) : ∀ e ∈ es, ∀ ws, e ≠ .tup ws := fun e he => nt_ne (List.all_eq_true.1 h e he)
theorem nt_all2 {vs : List (Nat × PV)} (h : vs.all (fun p => notTup p.2) = true) : ∀ i v, (i, v) ∈ vs → ∀ ws, v ≠ .tup ws := fun i v hv => nt_ne (List.all_eq_true.1 h (i, v) hv)

theorem rd_mvW {cs : List PV} {j : Nat} (h : PE E x = .vptr cs j) : VRd P ⟨d, .move x, ty, pos, aft, none⟩ E low loc (.vptr cs j) := rd_move' h
theorem rd_asW {cs : List PV} {j : Nat} (h : PE E x = .vptr cs j) : VRd P ⟨d, .assign x, ty, pos, aft, none⟩ E low loc (.vptr cs j) := rd_assign' h
theorem rd_mvX : VRd P ⟨d, .move x, ty, pos, aft, none⟩ E low loc .any := fun g nt a w hr => let ⟨v, h, _⟩ := rd_move (P := P) (E := E) (low := low) (loc := loc) (d := d) (ty := ty) (pos := pos) (aft := aft) (gd := none) (x := x) g nt a w hr; ⟨v, h, .any v⟩

/-- Either of two truth values. -/
theorem rd_pickB {b p q : Bool} (hc : PE E z = .bool b) (hx : PE E x = .bool p) (hy : PE E y = .bool q) : VRd P ⟨d, .pick z x y, ty, pos, aft, none⟩ E low loc (.bool (bif b then p else q)) := by
  have := rd_pick (P := P) (E := E) (low := low) (loc := loc) (d := d) (ty := ty) (pos := pos) (aft := aft) (gd := none) (x := x) (y := y) hc
  rw [hx, hy] at this
  cases b <;> exact this

theorem vef_litF {ps : List (Nat × Operand)} {es : List PV} {te sz n : Nat} {zv : Value} (hps : PartsIs E ps (numbered 0 es)) (hn : es.length = n) (hwid : es.all (fun e => Nat.beq e.cells.length sz && e.cells.all PV.one) = true) (htup : ∀ e ∈ es, ∀ ws, e ≠ .tup ws)
    (ht : tElem P t = some te) (hsz : tSize P te = some sz) (hz : tZero P te = some zv) (hzs : zv.cells.size = sz) (hzone : zv.cells.toList.all (·.oneCell') = true) (hpos : 0 < sz) (h24 : n * sz ≤ 16777216) (hp : ∀ e, e ∈ es → LtN 0 e) :
    VEf P ⟨d, .buildSlice t n ps.toArray, ty, pos, aft, none⟩ E low loc fun v1 low1 loc1 => v1 = .vs sz es ∧ low1 = low ∧ loc1 = loc := by
  have := vef_newF (new_lit (P := P) (low := low) (loc := loc) (d := d) (ty := ty) (pos := pos) (aft := aft) hps hn hwid htup ht hsz hz hzs hzone hpos h24) hn hp
  exact this

/-- The result of an operation, said otherwise. -/
theorem vef_to {o : Oper} {v v' : PV} {low1 loc1 : List AObj} (h : VEf P o E low loc fun a b c => a = v ∧ b = low1 ∧ c = loc1) (e : v = v') : VEf P o E low loc fun a b c => a = v' ∧ b = low1 ∧ c = loc1 := e ▸ h

/-- A slice type's values, by value. -/
@[reducible] def encS {β : Type} (sz : Nat) (g : β → PV) (m : List β) : PV := .vs sz (m.map g)

/-! ### with the number of the callers' objects named -/
variable {N K k : Nat} {o o' : AObj}
theorem getO_N (hN : low.length = N) (h : loc[k]? = some o) : GetO low loc (N + k) o := hN ▸ getO_loc h
theorem setO_N (hN : low.length = N) {loc1 : List AObj} (h : loc.set k o' = loc1) : SetO low loc (N + k) o' low loc1 := by subst hN; subst h; exact setO_loc

theorem vef_boxN (hN : low.length = N) (hK : loc.length = K) {elem sz : Nat} {v : PV} (hx : PE E x = v) (hsz : v.cells.length = sz) (hpos : 0 < sz) (hone : v.cells.all PV.one = true) (ht : notTup v = true) :
    VEf P ⟨d, .box elem x, ty, pos, aft, none⟩ E low loc fun v1 low1 loc1 => v1 = .ptr (N + K) 0 0 0 ∧ low1 = low ∧ loc1 = loc ++ [⟨elem, sz, [v], 0⟩] := by
  subst hN; subst hK; exact vef_box hx hsz hpos hone (nt_ne ht)
theorem vef_allocN (hN : low.length = N) (hK : loc.length = K) {elem sz : Nat} {zv : Value} {v : PV} (hz : tZero P elem = some zv) (hv : emb zv = v) (hsz : v.cells.length = sz) (hpos : 0 < sz) (hone : v.cells.all PV.one = true) :
    VEf P ⟨d, .alloc elem, ty, pos, aft, none⟩ E low loc fun v1 low1 loc1 => v1 = .ptr (N + K) 0 0 0 ∧ low1 = low ∧ loc1 = loc ++ [⟨elem, sz, [v], 0⟩] := by
  subst hN; subst hK; exact vef_alloc hz hv hsz hpos hone
theorem vef_litN (hN : low.length = N) (hK : loc.length = K) {ps : List (Nat × Operand)} {es : List PV} {te sz n : Nat} {zv : Value} (hps : PartsIs E ps (numbered 0 es)) (hn : es.length = n) (hwid : es.all (fun e => Nat.beq e.cells.length sz && e.cells.all PV.one) = true) (htup : ∀ e ∈ es, ∀ ws, e ≠ .tup ws)
    (ht : tElem P t = some te) (hsz : tSize P te = some sz) (hz : tZero P te = some zv) (hzs : zv.cells.size = sz) (hzone : zv.cells.toList.all (·.oneCell') = true) (hpos : 0 < sz) (h24 : n * sz ≤ 16777216) :
    VEf P ⟨d, .buildSlice t n ps.toArray, ty, pos, aft, none⟩ E low loc fun v1 low1 loc1 => v1 = .sl (N + K) 0 0 es.length ∧ low1 = low ∧ loc1 = loc ++ [⟨te, sz, es, 0⟩] := by
  subst hN; subst hK; subst hn; exact vef_lit hps rfl hwid htup ht hsz hz hzs hzone hpos h24
theorem vef_ap0N (hN : low.length = N) (hK : loc.length = K) {s : Operand} {te sz by_ : Nat} {p : PV} {zv : Value} (hs : PE E s = .nils ∨ PE E s = .z0) (hx : PE E x = p) (hsrc : SrcIs low loc p sz (ys.map f)) (hpos : 0 < sz)
    (ht : tElem P t = some te) (hsz : tSize P te = some sz) (hby : tBytes P te = some by_) (hb1 : 0 < by_) (hz : tZero P te = some zv) (hzs : zv.cells.size = sz) (h : appI by_ ([] : List α) ys = some l2) :
    VEf P ⟨d, .call { callee := .builtin .append, args := #[s, x], argTypes := #[t, t] }, ty, pos, aft, none⟩ E low loc fun v1 low1 loc1 => v1 = .sl (N + K) 0 0 l2.length ∧ low1 = low ∧ loc1 = loc ++ [⟨te, sz, l2.map f, 0⟩] := by
  subst hN; subst hK; exact vef_ap0L hs hx hsrc hpos ht hsz hby hb1 hz hzs h
theorem vef_mkN (hN : low.length = N) (hK : loc.length = K) {lo c : Operand} {elem sz by_ : Nat} {zv : Value} {zz : α} {kl kc : IntKind} {m : Int} (hl : PE E lo = .int kl m) (hc : PE E c = .int kc m) (ht : tElem P t = some elem) (hsz' : tSize P elem = some sz) (hby : tBytes P elem = some by_) (hb1 : 0 < by_)
    (hz : tZero P elem = some zv) (hv : emb zv = f zz) (hsz : (f zz).cells.length = sz) (hpos : 0 < sz) (hone : (f zz).cells.all PV.one = true) (h : makI by_ zz m = some l) :
    VEf P ⟨d, .makeSlice t lo c, ty, pos, aft, none⟩ E low loc fun v1 low1 loc1 => v1 = .sl (N + K) 0 0 l.length ∧ low1 = low ∧ loc1 = loc ++ [⟨elem, sz, l.map f, 0⟩] := by
  subst hN; subst hK; exact vef_mkL hl hc ht hsz' hby hb1 hz hv hsz hpos hone h
theorem vef_nilsN (hN : low.length = N) (hK : loc.length = K) {op : Op} (elem sz : Nat) (hp : 0 < sz) (h : VRd P ⟨d, op, ty, pos, aft, none⟩ E low loc .nils) :
    VEf P ⟨d, op, ty, pos, aft, none⟩ E low loc fun v1 low1 loc1 => v1 = .sl (N + K) 0 0 0 ∧ low1 = low ∧ loc1 = loc ++ [⟨elem, sz, [], 0⟩] := by
  subst hN; subst hK; exact vef_nils elem sz hp h
theorem vef_callMN (hN : low.length = N) {ff : Nat} {fo : Operand} {as : List Operand} {ci : Array TypeId} {r : PV} {loc1 : List AObj} (hf : PE E fo = .fn ff [] []) (hcall : ∀ args w, (callFunc ff args).run P w = .ok (.enter ff args) w)
    (hc : VCalls P ff ([] ++ as.map (PE E) ++ []) (low ++ loc) fun r' low' => r' = r ∧ low' = (low ++ loc).set (N + k) o') (h1 : loc.set k o' = loc1) :
    VEf P ⟨d, .call { callee := .value fo, args := as.toArray, argTypes := ci }, ty, pos, aft, none⟩ E low loc fun v1 low1 loc1' => v1 = r ∧ low1 = low ∧ loc1' = loc1 := by
  subst hN; subst h1; exact vef_callM hf hcall hc
theorem vops_efE {op : Op} {v : PV} (h : VEf P ⟨d, op, ty, pos, aft, none⟩ E low loc fun v1 low1 loc1 => v1 = v ∧ low1 = low' ∧ loc1 = loc') (hd : dstOk nt d = true) (hk : VOps P nt all rest Q (putE E d v) low' loc') : VOps P nt all (⟨d, op, ty, pos, aft, none⟩ :: rest) Q E low loc :=
  vops_ef h hd (by rintro _ _ _ ⟨rfl, rfl, rfl⟩; exact hk)
theorem lenAll {mems : List Mem2} (h : ∀ M ∈ mems, M.1.length = low.length) : mems.all (fun M => Nat.beq M.1.length low.length) = true := by
  rw [List.all_eq_true]
  intro M hM
  rw [h M hM]
  exact Nat.beq_refl _
theorem len_set2 {q q' : Nat} {o1 o2 : AObj} : (low.set q o1).length = (low.set q' o2).length := by simp
theorem len_app (hN : low.length = N) (hK : loc.length = K) : (low ++ loc).length = N + K := by rw [List.length_append, hN, hK]
/-- .. with new objects. -/
theorem vef_callMo (hN : low.length = N) {ff : Nat} {fo : Operand} {as : List Operand} {ci : Array TypeId} {r : PV} {loc1 os : List AObj} (hf : PE E fo = .fn ff [] []) (hcall : ∀ args w, (callFunc ff args).run P w = .ok (.enter ff args) w)
    (hc : VCalls P ff ([] ++ as.map (PE E) ++ []) (low ++ loc) fun r' low' => r' = r ∧ low' = (low ++ loc).set (N + k) o' ++ os) (h1 : loc.set k o' ++ os = loc1) :
    VEf P ⟨d, .call { callee := .value fo, args := as.toArray, argTypes := ci }, ty, pos, aft, none⟩ E low loc fun v1 low1 loc1' => v1 = r ∧ low1 = low ∧ loc1' = loc1 := by
  subst hN; subst h1
  exact vef_call hf hcall hc (by
    rintro r' low' ⟨rfl, rfl⟩
    exact ⟨low, loc.set k o' ++ os, by rw [set_loc, List.append_assoc], rfl, lowOk_refl low, rfl, rfl, rfl⟩)
theorem vef_callLo {ff : Nat} {fo : Operand} {as : List Operand} {ci : Array TypeId} {q : Nat} {o o' : AObj} {r : PV} {os : List AObj} (hq : q < low.length) (hlt : LtObj low.length o') (hf : PE E fo = .fn ff [] []) (hcall : ∀ args w, (callFunc ff args).run P w = .ok (.enter ff args) w)
    (hc : VCalls P ff ([] ++ as.map (PE E) ++ []) (low.set q o ++ loc) fun r' low' => r' = r ∧ low' = (low.set q o ++ loc).set q o' ++ os) :
    VEf P ⟨d, .call { callee := .value fo, args := as.toArray, argTypes := ci }, ty, pos, aft, none⟩ E (low.set q o) loc fun v1 low1 loc1 => v1 = r ∧ low1 = low.set q o' ∧ loc1 = loc ++ os :=
  vef_call hf hcall hc (by
    rintro r' low' ⟨rfl, rfl⟩
    refine ⟨low.set q o', loc ++ os, by rw [set_low hq, List.append_assoc], by simp, ?_, rfl, rfl, rfl⟩
    have := lowOk_set (low := low.set q o) (r := q) (o := o') (by simpa using hlt)
    rwa [List.set_set] at this)
theorem set_get {i : Nat} {e e' : α} (h : l[i]? = some e) : (l.set i e')[i]? = some e' := List.getElem?_set_self (List.getElem?_eq_some_iff.1 h).1
theorem weak_freezeN (hN : low.length = N) (k : Nat) {loc1 : List AObj} (ho : loc[k]? = some o) (hp : ∀ e, e ∈ o.es → LtN 0 e) (hE : CvE (N + k) o E E') (hO : CvOs (N + k) o (loc.set k ⟨o.ty, o.sz, [], o.ver + 1⟩) loc1) : Weak E low loc E' low loc1 := by
  subst hN; exact weak_freeze k ho hp hE hO
theorem weak_truncN (hN : low.length = N) (m : Nat) (loc1 : List AObj) {loc2 : List AObj} (hloc : loc = loc1 ++ loc2) (hm : loc1.length = m) (hs : SubE E' E) (hE : LtE (N + m) E') (hl : LtObjs (N + m) loc1) : Weak E low loc E' low loc1 := by
  subst hN; subst hm; exact weak_trunc loc1 hloc hs hE hl
theorem weak_ownN (hN : low.length = N) (hK : loc.length = K) (t elem sz : Nat) (hp : 0 < sz) (h : look E t = .nils) : Weak E low loc ((t, .sl (N + K) 0 0 0) :: E) low (loc ++ [⟨elem, sz, [], 0⟩]) := by
  subst hN; subst hK; exact weak_own t elem sz hp h
theorem get_N (hN : low.length = N) (h : loc[k]? = some o) : (low ++ loc)[N + k]? = some o := getO_N hN h

/-! ### regions that draw their order: in the memories that an operation may find -/
variable {ol r : List Oper} {tbl : List (List Nat)} {effs : List Bool} {mems : List Mem2} {i q : Nat} {KK : Env → Prop} {op : Op} {v : PV}
def winM (ol : List Oper) (tbl : List (List Nat)) (effs : List Bool) (mems : List Mem2) (i : Nat) : List Mem2 := (mems.drop (winLo ol.length tbl effs i)).take (winHi ol.length tbl effs i + 1 - winLo ol.length tbl effs i)
theorem dops_rdW (Ms : List Mem2) (he : effs.getD i false = false) (hW : winM ol tbl effs mems i = Ms) (h : ∀ M ∈ Ms, VNt P ⟨d, op, ty, pos, aft, none⟩ (restr E (opTmps ⟨d, op, ty, pos, aft, none⟩)) M.1 M.2 v) (hk : DOps P ol tbl effs mems (i + 1) q r (putE E d v) KK) : DOps P ol tbl effs mems i q (⟨d, op, ty, pos, aft, none⟩ :: r) E KK := by
  intro h1 h2
  obtain ⟨vs, k1, k2⟩ := hk ((effN_succ_false he).trans h1) (by simp at h2; omega)
  refine ⟨v :: vs, ⟨?_, k1⟩, by simpa [envS] using k2⟩
  unfold StepOk RunOk
  simp only [he, Bool.false_eq_true, if_false]
  exact rdAll_of _ _ fun M hM => h M (hW ▸ hM)
theorem dops_takeW (Ms : List Mem2) {j t : Nat} {want : Bool} (he : effs.getD i false = false) (hW : winM ol tbl effs mems i = Ms) (hj : (ol[j]?).bind (·.dst) = some t) (ht : look E t = .bool want) (h : ∀ M ∈ Ms, VNt P ⟨d, op, ty, pos, aft, none⟩ (restr E (opTmps ⟨d, op, ty, pos, aft, none⟩)) M.1 M.2 v) (hk : DOps P ol tbl effs mems (i + 1) q r (putE E d v) KK) : DOps P ol tbl effs mems i q (⟨d, op, ty, pos, aft, some (j, want)⟩ :: r) E KK := by
  intro h1 h2
  obtain ⟨vs, k1, k2⟩ := hk ((effN_succ_false he).trans h1) (by simp at h2; omega)
  refine ⟨v :: vs, ⟨⟨t, hj, .inl ⟨want, ht, fun _ => ?_, fun h => absurd rfl h⟩⟩, k1⟩, by simpa [envS] using k2⟩
  unfold RunOk
  simp only [he, Bool.false_eq_true, if_false]
  exact rdAll_of _ _ fun M hM => h M (hW ▸ hM)
theorem dops_efT {M M' : Mem2} {j t : Nat} {want : Bool} (he : effs.getD i false = true) (hj : (ol[j]?).bind (·.dst) = some t) (ht : look E t = .bool want) (hM : mems[q]? = some M) (hM' : mems[q + 1]? = some M')
    (h : VEf P ⟨d, op, ty, pos, aft, none⟩ (restr E (opTmps ⟨d, op, ty, pos, aft, none⟩)) M.1 M.2 fun v1 l1 l2 => v1 = v ∧ l1 = M'.1 ∧ l2 = M'.2) (hk : DOps P ol tbl effs mems (i + 1) (q + 1) r (putE E d v) KK) : DOps P ol tbl effs mems i q (⟨d, op, ty, pos, aft, some (j, want)⟩ :: r) E KK := by
  intro h1 h2
  have hi : i < ol.length := by simp at h2; omega
  obtain ⟨vs, k1, k2⟩ := hk ((effN_succ_true hi he).trans (by rw [h1])) (by simp at h2; omega)
  refine ⟨v :: vs, ⟨⟨t, hj, .inl ⟨want, ht, fun _ => ?_, fun h => absurd rfl h⟩⟩, k1⟩, by simpa [envS] using k2⟩
  unfold RunOk
  simp only [he, if_true]
  exact ⟨M, M', by rw [h1]; exact hM, by rw [h1]; exact hM', h⟩
theorem nt_of {o : Oper} {v : PV} {low loc : List AObj} (h : VEf P o E low loc fun v1 l1 l2 => v1 = v ∧ l1 = low ∧ l2 = loc) : VNt P o E low loc v := h
theorem all1 {p : Mem2 → Prop} {a : Mem2} {Ms : List Mem2} (h : p a) (h' : ∀ M ∈ Ms, p M) : ∀ M ∈ a :: Ms, p M := List.forall_mem_cons.2 ⟨h, h'⟩
theorem all0 {p : Mem2 → Prop} : ∀ M ∈ ([] : List Mem2), p M := fun _ h => by cases h
def ScL : List PV → Prop
  | [] => True
  | c :: cs => Sc c ∧ ScL cs
theorem ScL.mem {cs : List PV} (h : ScL cs) : ∀ c, c ∈ cs → Sc c := by
  induction cs with
  | nil => simp
  | cons c cs ih =>
    intro x hx
    rcases List.mem_cons.1 hx with rfl | hx
    · exact h.1
    · exact ih h.2 x hx
theorem sc_agg {cs : List PV} (h : ScL cs) : Sc (.agg cs) := .agg cs h.mem
theorem sc_tup {cs : List PV} (h : ScL cs) : Sc (.tup cs) := .tup cs h.mem

/-- The body of a function: it falls off its end, or returns. -/
def FnE (K : Post) : XPost := fun e E low loc => (e = .normal ∨ e = .ret) ∧ K E low loc
theorem fnN {K : Post} (h : K E low loc) : FnE K .normal E low loc := ⟨.inl rfl, h⟩
theorem fnR {K : Post} (h : K E low loc) : FnE K .ret E low loc := ⟨.inr rfl, h⟩

/-- An object that nothing refers to any more is forgotten. -/
theorem weak_kill (k : Nat) {o : AObj} (ho : loc[k]? = some o) (hs : SubE E' E) {loc1 : List AObj} (h1 : loc.set k ⟨o.ty, o.sz, [], o.ver + 1⟩ = loc1) : Weak E low loc E' low loc1 := by
  subst h1
  refine ⟨rfl, fun g nt a w hr => ?_⟩
  have hkl : k < loc.length := (List.getElem?_eq_some_iff.1 ho).1
  have hoH : (low ++ loc)[low.length + k]? = some o := getO_loc ho
  let g' : Gh := ⟨g.F, fun r => if r = low.length + k then none else g.β r⟩
  have hb' : ∀ r, r ≠ low.length + k → g'.β r = g.β r := fun r h => by simp [g', h]
  have hget : ∀ (r : Nat), r ≠ low.length + k → (low ++ loc.set k ⟨o.ty, o.sz, [], o.ver + 1⟩)[r]? = (low ++ loc)[r]? := fun r hne => by
    by_cases h : r < low.length
    · rw [List.getElem?_append_left h, List.getElem?_append_left h]
    · rw [List.getElem?_append_right (by omega), List.getElem?_append_right (by omega), List.getElem?_set_ne (by omega)]
  have htomb : (low ++ loc.set k ⟨o.ty, o.sz, [], o.ver + 1⟩)[low.length + k]? = some ⟨o.ty, o.sz, [], o.ver + 1⟩ := by
    rw [List.getElem?_append_right (by omega), Nat.add_sub_cancel_left, List.getElem?_set_self hkl]
  have hst : GStep (low ++ loc).length g (low ++ loc) w g' (low ++ loc.set k ⟨o.ty, o.sz, [], o.ver + 1⟩) w := by
    refine ⟨rfl, rfl, rfl, Nat.le_refl _, fun b h => h, fun _ _ => rfl, fun r a hr' ha => ?_⟩
    by_cases h : r = low.length + k
    · subst h
      rw [hoH] at ha
      injection ha with ha
      subst ha
      exact ⟨_, htomb, by simp, fun e => by simp at e⟩
    · exact ⟨a, (hget r h).trans ha, Nat.le_refl _, fun _ => ⟨rfl, rfl, hb' r h⟩⟩
  refine ⟨g', ⟨⟨hr.m.fb, ?_, ?_, ?_, by simp, ?_⟩, (hr.e.step hst).sub hs⟩, hst.less (by simp)⟩
  · intro r r' b C C' h1 h2
    by_cases e1 : r = low.length + k
    · simp [g', e1] at h1
    · by_cases e2 : r' = low.length + k
      · simp [g', e2] at h2
      · rw [hb' r e1] at h1
        rw [hb' r' e2] at h2
        exact hr.m.inj _ _ _ _ _ h1 h2
  · intro r b C h1
    by_cases e1 : r = low.length + k
    · simp [g', e1] at h1
    · rw [hb' r e1] at h1
      have := hr.m.dom r b C h1
      simpa using this
  · intro r b hb
    by_cases e1 : r = low.length + k
    · subst e1
      rw [htomb] at hb
      injection hb with hb
      subst hb
      exact ⟨(hr.m.obj _ o hoH).pos, by simp, by simp [g']⟩
    · rw [hget r e1] at hb
      obtain ⟨a1, a2, a3⟩ := hr.m.obj r b hb
      refine ⟨a1, a2, ?_⟩
      rw [hb' r e1]
      cases hbb : g.β r with
      | none => rw [hbb] at a3; exact a3
      | some bc =>
        rw [hbb] at a3
        obtain ⟨q1, cells', q2, q3, q4, q5, q6⟩ := a3
        refine ⟨q1, cells', q2, q3, q4, q5, fun i j e hcc => ?_⟩
        obtain ⟨u, h1, h2, h3⟩ := q6 i j e hcc
        exact ⟨u, h1, h2, h3.step' hst⟩
  · intro r b hrn hb
    rw [List.getElem?_append_left hrn] at hb
    exact hr.m.lt r b hrn (by rw [List.getElem?_append_left hrn]; exact hb)

theorem neT {b : Bool} (h : b = true) : b ≠ false := by rw [h]; decide
theorem neF {b : Bool} (h : b = false) : b ≠ true := by rw [h]; decide

end
end Go.Aml
