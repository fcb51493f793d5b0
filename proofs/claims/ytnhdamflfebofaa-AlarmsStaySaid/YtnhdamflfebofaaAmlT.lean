/- The abstract memory logic, part T: functions as partial functions of plain data. -/
import Derived.Test.YtnhdamflfebofaaAmlR
import Derived.Test.YtnhdamflfebofaaAmlQ
namespace Go.Aml
open Go

/-! ### plain partial functions -/

theorem bnd {α β : Type} {m : Option α} {k : α → Option β} {r : β} (h : m.bind k = some r) : ∃ x, m = some x ∧ k x = some r := Option.bind_eq_some_iff.1 h
theorem bifT {α : Type} {c : Bool} {a b r : α} (hc : c = true) (h : (bif c then a else b) = r) : a = r := by subst hc; exact h
theorem bifF {α : Type} {c : Bool} {a b r : α} (hc : c = false) (h : (bif c then a else b) = r) : b = r := by subst hc; exact h

def getI {α : Type} (l : List α) (i : Int) : Option α := if 0 ≤ i then l[i.toNat]? else none
theorem getI_some {α : Type} {l : List α} {i : Int} {x : α} (h : getI l i = some x) : i = (i.toNat : Int) ∧ l[i.toNat]? = some x := by
  unfold getI at h
  split at h
  · exact ⟨by omega, h⟩
  · cases h
def sliI {α : Type} (l : List α) (a b : Int) : Option (List α) := if 0 ≤ a ∧ a ≤ b ∧ b ≤ (l.length : Int) then some ((l.take b.toNat).drop a.toNat) else none
theorem sliI_some {α : Type} {l : List α} {a b : Int} {l2 : List α} (h : sliI l a b = some l2) : 0 ≤ a ∧ a ≤ b ∧ b ≤ (l.length : Int) ∧ (l.take b.toNat).drop a.toNat = l2 := by
  unfold sliI at h
  split at h
  · rename_i h1
    exact ⟨h1.1, h1.2.1, h1.2.2, by injection h⟩
  · cases h
def quoI (k : IntKind) (a b : Int) : Option Int := if b = 0 then none else some (k.wrap (a.tdiv b))
def remI (a b : Int) : Option Int := if b = 0 then none else some (a.tmod b)
theorem remI_some {a b r : Int} (h : remI a b = some r) : b ≠ 0 ∧ a.tmod b = r := by
  unfold remI at h
  split at h
  · cases h
  · rename_i h1
    exact ⟨h1, by injection h⟩
def shlI (k : IntKind) (a b : Int) : Option Int := if 0 ≤ b then some (k.wrap (a * 2 ^ (min b.toNat k.bits))) else none
def shrI (k : IntKind) (a b : Int) : Option Int := if 0 ≤ b then some (a.fdiv (2 ^ (min b.toNat k.bits))) else none
def appI {α : Type} (by_ : Nat) (l ys : List α) : Option (List α) := if (l.length + ys.length) * by_ ≤ 140737488355328 then some (l ++ ys) else none
theorem appI_some {α : Type} {by_ : Nat} {l ys l2 : List α} (h : appI by_ l ys = some l2) : (l.length + ys.length) * by_ ≤ 140737488355328 ∧ l ++ ys = l2 := by
  unfold appI at h
  split at h
  · rename_i h1
    exact ⟨h1, by injection h⟩
  · cases h
def makI {α : Type} (by_ : Nat) (z : α) (n : Int) : Option (List α) := if 0 ≤ n ∧ n.toNat * by_ ≤ 140737488355328 then some (List.replicate n.toNat z) else none
def iterC {α β : Type} (f : α → Option (α ⊕ β)) : Nat → α → Option β
  | 0, _ => none
  | n + 1, a => (f a).bind fun o => o.elim (iterC f n) some
theorem iterC_succ {α β : Type} {f : α → Option (α ⊕ β)} : ∀ {n : Nat} {a : α} {b : β}, iterC f n a = some b → iterC f (n + 1) a = some b
  | 0, _, _, h => by simp [iterC] at h
  | n + 1, a, b, h => by
    unfold iterC at h ⊢
    obtain ⟨o, h1, h2⟩ := bnd h
    rw [h1]
    cases o with
    | inl a' => exact iterC_succ (n := n) h2
    | inr b' => exact h2
theorem iterC_le {α β : Type} {f : α → Option (α ⊕ β)} {n m : Nat} {a : α} {b : β} (h : iterC f n a = some b) (hm : n ≤ m) : iterC f m a = some b := by
  induction hm with
  | refl => exact h
  | step _ ih => exact iterC_succ ih
noncomputable def loopC {α β : Type} (f : α → Option (α ⊕ β)) (a : α) : Option β :=
  open Classical in if h : ∃ n, (iterC f n a).isSome then iterC f h.choose a else none
theorem loopC_of {α β : Type} {f : α → Option (α ⊕ β)} {n : Nat} {a : α} {b : β} (h : iterC f n a = some b) : loopC f a = some b := by
  have hx : ∃ n, (iterC f n a).isSome := ⟨n, by rw [h]; rfl⟩
  unfold loopC
  rw [dif_pos hx]
  obtain ⟨b', hb'⟩ := Option.isSome_iff_exists.1 hx.choose_spec
  rw [hb']
  have h1 := iterC_le h (Nat.le_max_left n hx.choose)
  have h2 := iterC_le hb' (Nat.le_max_right n hx.choose)
  rw [h1] at h2
  exact h2.symm
theorem loopC_some {α β : Type} {f : α → Option (α ⊕ β)} {a : α} {b : β} (h : loopC f a = some b) : ∃ n, iterC f n a = some b := by
  unfold loopC at h
  split at h
  · exact ⟨_, h⟩
  · cases h
theorem loopC_eq {α β : Type} (f : α → Option (α ⊕ β)) (a : α) : loopC f a = (f a).bind fun o => o.elim (loopC f) some := by
  have key : ∀ b, loopC f a = some b ↔ ((f a).bind fun o => o.elim (loopC f) some) = some b := by
    intro b
    constructor
    · intro h
      obtain ⟨n, hn⟩ := loopC_some h
      cases n with
      | zero => simp [iterC] at hn
      | succ n =>
        unfold iterC at hn
        obtain ⟨o, h1, h2⟩ := bnd hn
        rw [h1]
        cases o with
        | inl a' => exact loopC_of (n := n) h2
        | inr b' => exact h2
    · intro h
      obtain ⟨o, h1, h2⟩ := bnd h
      cases o with
      | inl a' =>
        obtain ⟨n, hn⟩ := loopC_some (show loopC f a' = some b from h2)
        refine loopC_of (n := n + 1) ?_
        unfold iterC
        rw [h1]
        exact hn
      | inr b' =>
        refine loopC_of (n := 1) ?_
        unfold iterC
        rw [h1]
        exact h2
  cases h : loopC f a with
  | none =>
    cases h2 : (f a).bind fun o => o.elim (loopC f) some with
    | none => rfl
    | some b => rw [(key b).2 h2] at h; cases h
  | some b => exact ((key b).1 h).symm

/-! ### scopes and loops -/

def OnlyE (x : Exit) (K : Post) : XPost := fun e E low loc => e = x ∧ K E low loc
theorem onlyE {x : Exit} {K : Post} {E : Env} {low loc : List AObj} (h : K E low loc) : OnlyE x K x E low loc := ⟨rfl, h⟩

section
variable {P : Program} {nt : Nat} {Q : XPost} {E E' : Env} {low loc low' loc' : List AObj} {all : Array Oper} {rest : List Oper}

theorem Weak.trans {E1 E2 E3 : Env} {l1 l2 l3 m1 m2 m3 : List AObj} (h : Weak E1 l1 m1 E2 l2 m2) (k : Weak E2 l2 m2 E3 l3 m3) : Weak E1 l1 m1 E3 l3 m3 := by
  refine ⟨k.1.trans h.1, fun g nt a w hr => ?_⟩
  obtain ⟨g', hr', hs⟩ := h.2 g nt a w hr
  obtain ⟨g'', hr'', hs'⟩ := k.2 g' nt a w (hr'.len h.1)
  exact ⟨g'', hr''.len h.1.symm, hs.trans (h.1 ▸ hs')⟩

theorem LiftK.weak {n : Nat} {g0 : Gh} {H0 : List AObj} {w0 : World} {K K' : Post} {a : Act} {w : World} (hk : ∀ E low loc, K E low loc → ∃ E2 low2 loc2, Weak E low loc E2 low2 loc2 ∧ K' E2 low2 loc2) (h : LiftK nt n g0 H0 w0 K a w) : LiftK nt n g0 H0 w0 K' a w := by
  obtain ⟨E, low, loc, g, hK, hl, hr, hst⟩ := h
  obtain ⟨E2, low2, loc2, hw, hK2⟩ := hk _ _ _ hK
  obtain ⟨g', hr', hs⟩ := hw.2 g nt a w (hr.len hl)
  exact ⟨E2, low2, loc2, g', hK2, hw.1.trans hl, hr'.len hl.symm, hst.trans (hl ▸ hs)⟩

theorem vwp_monoW {c : Code} {Q' : XPost} (h : VWp P nt c Q' E low loc) (hq : ∀ e E low loc, Q' e E low loc → ∃ E2 low2 loc2, Weak E low loc E2 low2 loc2 ∧ Q e E2 low2 loc2) : VWp P nt c Q E low loc :=
  fun g a w hr Qr hQ => h g a w hr Qr fun e a' w' hl => hQ e a' w' (by cases e <;> first | exact LiftK.weak (hq _) hl | exact hl)

theorem vwp_loopC {α β : Type} {c : Code} (f : α → Option (α ⊕ β)) (I : α → Post) (K : β → XPost) {s0 : α} {b : β} (hF : loopC f s0 = some b) (h0 : I s0 E low loc) (hK : ∀ b E low loc, ¬ K b .normal E low loc)
    (round : ∀ s o E low loc, f s = some o → I s E low loc → VWp P nt c (Sum.elim (fun s' => OnlyE .normal (I s')) K o) E low loc) : VWp P nt (.loop c) (K b) E low loc := by
  obtain ⟨n, hn⟩ := loopC_some hF
  refine vwp_loop (α := { p : Nat × α // iterC f p.1 p.2 = some b }) (fun x => I x.1.2) (fun x => x.1.1) ⟨(n, s0), hn⟩ h0 ?_
  rintro ⟨⟨n, s⟩, hs⟩ E low loc hI
  cases n with
  | zero => simp [iterC] at hs
  | succ n =>
    have hs' := hs
    unfold iterC at hs'
    obtain ⟨o, h1, h2⟩ := bnd hs'
    have hr := round s o E low loc h1 hI
    cases o with
    | inl s' =>
      refine hr.mono fun e E low loc hh => ?_
      obtain ⟨rfl, hh⟩ : e = .normal ∧ I s' E low loc := hh
      exact ⟨⟨(n, s'), h2⟩, Nat.lt_succ_self n, hh⟩
    | inr b' =>
      have hb : b' = b := by injection h2
      subst hb
      refine hr.mono fun e E low loc hh => ?_
      cases e with
      | normal => exact (hK _ _ _ _ hh).elim
      | _ => exact hh

/-! ### what may be said anew -/

def CvL (r : Nat) (o : AObj) : List PV → List PV → Prop
  | [], [] => True
  | c :: cs, e :: es => Cv r o c e ∧ CvL r o cs es
  | _, _ => False
theorem CvL.get {r : Nat} {o : AObj} {cs es : List PV} (h : CvL r o cs es) : cs.length = es.length ∧ ∀ (i : Nat) (c e : PV), cs[i]? = some c → es[i]? = some e → Cv r o c e := by
  induction cs generalizing es with
  | nil => cases es with
    | nil => exact ⟨rfl, by simp⟩
    | cons => exact h.elim
  | cons c cs ih => cases es with
    | nil => exact h.elim
    | cons e es =>
      obtain ⟨h1, h2⟩ := ih h.2
      refine ⟨by simp [h1], fun i a b ha hb => ?_⟩
      match i, ha, hb with
      | 0, ha, hb => simp at ha hb; subst ha; subst hb; exact h.1
      | i + 1, ha, hb => exact h2 i a b (by simpa using ha) (by simpa using hb)
theorem CvOs.cells {r : Nat} {o : AObj} {a b : AObj} (h : CvO r o a b) (hw : ∀ (i : Nat) (e : PV), a.es[i]? = some e → e.cells.length = a.sz) :
    b.sz = a.sz ∧ b.ty = a.ty ∧ b.ver = a.ver ∧ b.es.length = a.es.length ∧ (∀ (i : Nat) (e : PV), b.es[i]? = some e → e.cells.length = b.sz) ∧ (∀ i j e, cellOf b.es i j = some e → ∃ c, cellOf a.es i j = some c ∧ Cv r o c e) := by
  cases h with
  | refl => exact ⟨rfl, rfl, rfl, rfl, hw, fun i j e h => ⟨e, h, .refl e⟩⟩
  | agg ty sz v cs ds h hl =>
    refine ⟨rfl, rfl, rfl, rfl, fun i e he => ?_, fun i j e h' => ?_⟩
    · match i, he with
      | 0, he =>
        simp at he
        subst he
        have := hw 0 (.agg cs) rfl
        simp only [PV.cells] at this ⊢
        omega
      | i + 1, he => simp at he
    · obtain ⟨rfl, h2⟩ := cellOf_one h'
      clear h'
      simp only [PV.cells] at h2
      have hj : j < cs.length := by
        have := (List.getElem?_eq_some_iff.1 h2).1
        omega
      refine ⟨cs[j], by simp [cellOf, PV.cells, hj], ?_⟩
      cases h with
      | refl =>
        rw [List.getElem?_eq_getElem hj] at h2
        injection h2 with h2
        rw [h2]
        exact .refl e
      | agg _ _ _ hh => exact hh j _ e (List.getElem?_eq_getElem hj) h2
  | one ty sz v c e h hc he =>
    refine ⟨rfl, rfl, rfl, rfl, fun i e' he' => ?_, fun i j e' h' => ?_⟩
    · match i, he' with
      | 0, he' =>
        simp at he'
        subst he'
        have := hw 0 c rfl
        rw [he]
        rw [hc] at this
        exact this
      | i + 1, he' => simp at he'
    · obtain ⟨rfl, h2⟩ := cellOf_one h'
      clear h'
      rw [he] at h2
      match j, h2 with
      | 0, h2 =>
        simp at h2
        subst h2
        exact ⟨c, by simp [cellOf, hc], h⟩
      | j + 1, h2 => simp at h2

/-! ### references -/

def LtNs (n : Nat) : List PV → Prop
  | [] => True
  | c :: cs => LtN n c ∧ LtNs n cs
theorem LtNs.mem {n : Nat} {cs : List PV} (h : LtNs n cs) : ∀ c, c ∈ cs → LtN n c := by
  induction cs with
  | nil => simp
  | cons c cs ih =>
    intro x hx
    rcases List.mem_cons.1 hx with rfl | hx
    · exact h.1
    · exact ih h.2 x hx
theorem lt_agg {n : Nat} {cs : List PV} (h : LtNs n cs) : LtN n (.agg cs) := .agg cs h.mem
theorem lt_tup {n : Nat} {cs : List PV} (h : LtNs n cs) : LtN n (.tup cs) := .tup cs h.mem
theorem lt_0 {n : Nat} {c : PV} (h : LtN 0 c) : LtN n c := h.mono (Nat.zero_le n)
theorem lt_map {α : Type} {f : α → PV} {l : List α} (h : ∀ x, LtN 0 (f x)) : ∀ e, e ∈ l.map f → LtN 0 e := fun e he => by
  obtain ⟨x, _, rfl⟩ := List.mem_map.1 he
  exact h x
theorem ltObj_map {α : Type} {f : α → PV} {l : List α} {ty sz v n : Nat} (h : ∀ x, LtN 0 (f x)) : LtObj n ⟨ty, sz, l.map f, v⟩ := fun e he => lt_0 (lt_map h e he)
theorem ltObj_es {es : List PV} {ty sz v n : Nat} (h : LtNs n es) : LtObj n ⟨ty, sz, es, v⟩ := h.mem
/-! ### rows by value and of the function's own -/

variable {α : Type} {f : α → PV} {l l2 ys : List α} {x y : Operand} {d : Option Nat} {ty : TypeId} {pos : String} {aft : Array Edge} {t : TypeId} {gd : Option (Nat × Bool)}

theorem map_get {i : Nat} {e : α} (h : l[i]? = some e) : (l.map f)[i]? = some (f e) := by rw [List.getElem?_map, h]; rfl

theorem rd_ixV {ix : Operand} {sz : Nat} {k : IntKind} {m : Int} {te : TypeId} {e : α} (hx : PE E x = .vs sz (l.map f)) (hi : PE E ix = .int k m) (h : getI l m = some e) (ht : tElem P t = some te) (hs : tSize P te = some sz) :
    VRd P ⟨d, .indexAddr t x ix, ty, pos, aft, gd⟩ E low loc (.vptr (f e).cells 0) :=
  rd_indexV hx hi (getI_some h).1 (map_get (getI_some h).2) ht hs

theorem rd_ixS {ix : Operand} {sz r v len ot : Nat} {k : IntKind} {m : Int} {te : TypeId} {e : α} (hx : PE E x = .sl r v 0 len) (hlen : len = l.length) (hi : PE E ix = .int k m) (ho : GetO low loc r ⟨ot, sz, l.map f, v⟩) (h : getI l m = some e) (ht : tElem P t = some te) (hs : tSize P te = some sz) :
    VRd P ⟨d, .indexAddr t x ix, ty, pos, aft, gd⟩ E low loc (.ptr r v m.toNat 0) := by
  obtain ⟨h1, h2⟩ := getI_some h
  have hl : m.toNat < len := by rw [hlen]; exact (List.getElem?_eq_some_iff.1 h2).1
  have := rd_indexS (d := d) (ty := ty) (pos := pos) (aft := aft) (gd := gd) hx hi h1 hl ho rfl ht hs
  rw [Nat.zero_add] at this
  exact this

theorem rd_ixA {ix : Operand} {cs : List PV} {n : Nat} {k : IntKind} {m : Int} {te : TypeId} {e : α} (hx : PE E x = .agg cs) (hi : PE E ix = .int k m) (h : getI l m = some e) (hcs : cs = l.map f) (hn : l.length = n) (ht : tArr P t = some (n, te)) (hs : tSize P te = some 1) (ha : tAgg P te = some false) :
    VRd P ⟨d, .index t x ix, ty, pos, aft, gd⟩ E low loc (f e) := by
  obtain ⟨h1, h2⟩ := getI_some h
  have hl : m.toNat < n := by rw [← hn]; exact (List.getElem?_eq_some_iff.1 h2).1
  exact rd_indexArr1 hx hi h1 hl ht hs ha (by rw [hcs]; exact map_get h2)

theorem rd_ldL1 {r v i j ot sz : Nat} {e : α} {c : PV} (hx : PE E x = .ptr r v i j) (ho : GetO low loc r ⟨ot, sz, l.map f, v⟩) (h : l[i]? = some e) (ha : tAgg P t = some false) (hc : (f e).cells[j]? = some c) :
    VRd P ⟨d, .load t x, ty, pos, aft, gd⟩ E low loc c :=
  rd_load1 hx ho rfl ha (by unfold cellOf; show ((l.map f)[i]?.bind _) = _; rw [map_get h]; exact hc)
theorem rd_ldLN {r v i j n ot sz : Nat} {e : α} {ds : List PV} (hx : PE E x = .ptr r v i j) (ho : GetO low loc r ⟨ot, sz, l.map f, v⟩) (h : l[i]? = some e) (ha : tAgg P t = some true) (hs : tSize P t = some n) (hd : ((f e).cells.drop j).take n = ds) (hn : ds.length = n) :
    VRd P ⟨d, .load t x, ty, pos, aft, gd⟩ E low loc (.agg ds) :=
  rd_loadN hx ho rfl ha hs (map_get h) hd hn

theorem vef_stL {r v i j ot sz : Nat} {e e' : α} {p : PV} {low' loc' : List AObj} (hx : PE E x = .ptr r v i j) (ho : GetO low loc r ⟨ot, sz, l.map f, v⟩) (h : l[i]? = some e) (hy : PE E y = p) (hsz : tSize P t = some p.cells.length)
    (hone : p.cells.all PV.one = true) (ht : ∀ vs, p ≠ .tup vs) (hj : j + p.cells.length ≤ (f e).cells.length) (he' : (f e').cells = (f e).cells.take j ++ p.cells ++ (f e).cells.drop (j + p.cells.length)) (hset : SetO low loc r ⟨ot, sz, (l.set i e').map f, v⟩ low' loc') :
    VEf P ⟨d, .store t x y, ty, pos, aft, none⟩ E low loc fun v1 low1 loc1 => v1 = .any ∧ low1 = low' ∧ loc1 = loc' :=
  vef_store hx ho rfl hy hsz hone ht (map_get h) hj he' (by
    have e : (l.map f).set i (f e') = (l.set i e').map f := by rw [List.map_set]
    show SetO low loc r ⟨ot, sz, (l.map f).set i (f e'), v⟩ low' loc'
    rw [e]; exact hset)

def BdI (E : Env) (dflt : Int) : Option Operand → Int → Prop
  | none, m => m = dflt
  | some o, m => ∃ k, PE E o = .int k m
theorem BdI.is {dflt : Nat} {o : Option Operand} {m : Int} (h : BdI E dflt o m) (h0 : 0 ≤ m) : BdIs E dflt o m.toNat := by
  cases o with
  | none =>
    have h : m = dflt := h
    show m.toNat = dflt
    omega
  | some o =>
    obtain ⟨k, h⟩ := h
    exact ⟨k, m, h, by omega⟩

theorem rd_slS {sz te r v len ot : Nat} {lo hi : Option Operand} {a b : Int} (hx : PE E x = .sl r v 0 len) (hlen : len = l.length) (ho : GetO low loc r ⟨ot, sz, l.map f, v⟩) (ht : tElem P t = some te) (hs : tSize P te = some sz) (ha : BdI E 0 lo a) (hb : BdI E (l.length : Int) hi b) (h : sliI l a b = some l2) :
    VRd P ⟨d, .slice t x lo hi none, ty, pos, aft, gd⟩ E low loc (.sl r v a.toNat (b.toNat - a.toNat)) := by
  obtain ⟨h1, h2, h3, h4⟩ := sliI_some h
  have := rd_sliceS (l := a.toNat) (h := b.toNat) (d := d) (ty := ty) (pos := pos) (aft := aft) (gd := gd) hx ho rfl ht hs (ha.is (dflt := 0) h1) (by rw [hlen]; exact hb.is (by omega)) (by omega) (by omega)
  rw [Nat.zero_add] at this
  exact this

theorem full_take {n : Nat} (h : n = l.length) : ((l.map f).drop 0).take n = l.map f := by
  subst h
  rw [List.drop_zero, List.take_of_length_le (by simp)]

theorem src_full {r v n ot sz : Nat} (hn : n = l.length) (ho : GetO low loc r ⟨ot, sz, l.map f, v⟩) : SrcIs low loc (.sl r v 0 n) sz (l.map f) := .inr (.inr (.inr ⟨r, v, 0, n, _, rfl, ho, rfl, rfl, (full_take hn).symm⟩))
theorem src_vs {p : PV} {sz : Nat} (h : p = .vs sz (l.map f)) : SrcIs low loc p sz (l.map f) := .inl h
theorem vef_apL {s : Operand} {r v len by_ ot sz : Nat} {p : PV} {zv : Value} {low' loc' : List AObj} (hs : PE E s = .sl r v 0 len) (hlen : len = l.length) (ho : GetO low loc r ⟨ot, sz, l.map f, v⟩) (hx : PE E x = p) (hsrc : SrcIs low loc p sz (ys.map f))
    (ht : tElem P t = some ot) (hsz : tSize P ot = some sz) (hby : tBytes P ot = some by_) (hb1 : 0 < by_) (hz : tZero P ot = some zv) (hzs : zv.cells.size = sz) (h : appI by_ l ys = some l2) (hset : SetO low loc r ⟨ot, sz, l2.map f, v + 1⟩ low' loc') :
    VEf P ⟨d, .call { callee := .builtin .append, args := #[s, x], argTypes := #[t, t] }, ty, pos, aft, none⟩ E low loc fun v1 low1 loc1 => v1 = .sl r (v + 1) 0 l2.length ∧ low1 = low' ∧ loc1 = loc' := by
  obtain ⟨h1, h2⟩ := appI_some h
  subst h2
  subst hlen
  have hle : l.length + ys.length ≤ 140737488355328 := Nat.le_trans (Nat.le_mul_of_pos_right _ hb1) h1
  have e : (l.map f).take l.length ++ ys.map f = (l ++ ys).map f := by rw [List.take_of_length_le (by simp), List.map_append]
  have := vef_append (d := d) (ty := ty) (pos := pos) (aft := aft) (ys := ys.map f) (low' := low') (loc' := loc') hs ho rfl hx hsrc ht hsz hby hz hzs (by simpa using h1) (by simp; omega) (by rw [e]; exact hset)
  simpa using this

/-! ### calls with a pointer to an object -/

theorem set_loc {k : Nat} {o : AObj} : (low ++ loc).set (low.length + k) o = low ++ loc.set k o := by
  rw [List.set_append_right _ _ (by omega)]
  congr 2
  omega
theorem vef_callN {ff : Nat} {fo : Operand} {as : List Operand} {ci : Array TypeId} {os : List AObj} {r : PV} (hf : PE E fo = .fn ff [] []) (hcall : ∀ args w, (callFunc ff args).run P w = .ok (.enter ff args) w)
    (hc : VCalls P ff ([] ++ as.map (PE E) ++ []) (low ++ loc) fun r' low' => r' = r ∧ low' = low ++ loc ++ os) :
    VEf P ⟨d, .call { callee := .value fo, args := as.toArray, argTypes := ci }, ty, pos, aft, none⟩ E low loc fun v1 low1 loc1 => v1 = r ∧ low1 = low ∧ loc1 = loc ++ os :=
  vef_call hf hcall hc (by
    rintro r' low' ⟨rfl, rfl⟩
    exact ⟨low, loc ++ os, by rw [List.append_assoc], rfl, lowOk_refl low, rfl, rfl, rfl⟩)
end
end Go.Aml
