/- The abstract memory logic, part DB: a region that draws its order, its changing operations not all ordered: one operation a line; new objects that come into a place that was kept free. -/
import Derived.Test.YtnhdamflfebofaaAmlDA
import Derived.Test.YtnhdamflfebofaaAmlY
namespace Go.Aml
open Go

section
variable {P : Program} {nt : Nat} {Q : XPost} {E : Env} {low loc : List AObj} {l r : List Oper} {tbl : List (List Nat)} {effs : List Bool} {tab : List MemX} {i : Nat} {K : Env → Prop}

def DOpX (P : Program) (l : List Oper) (tbl : List (List Nat)) (effs : List Bool) (tab : List MemX) (i : Nat) (r : List Oper) (E : Env) (K : Env → Prop) : Prop :=
  i + r.length = l.length → ∃ vs, StepsX P l tbl effs tab i r vs E ∧ K (envS (fun _ => true) i r vs E)

def eqL : List Nat → List Nat → Bool
  | [], [] => true
  | a :: l, b :: m => Nat.beq a b && eqL l m
  | _, _ => false
variable {d : Option Nat} {op : Op} {ty : TypeId} {pos : String} {aft : Array Edge} {v : PV}

/-! ### new objects in a place that was kept free -/

inductive Mv (n f k m : Nat) : PV → PV → Prop
  | low (c : PV) (h : LtN (n + f) c) : Mv n f k m c c
  | sl (q off len : Nat) (h : q < m) : Mv n f k m (.sl (n + (f + q)) 0 off len) (.sl (n + (k + q)) 1 off len)
  | ptr (q e j : Nat) (h : q < m) : Mv n f k m (.ptr (n + (f + q)) 0 e j) (.ptr (n + (k + q)) 1 e j)
  | agg (cs ds : List PV) (hl : cs.length = ds.length) (h : ∀ (i : Nat) (c e : PV), cs[i]? = some c → ds[i]? = some e → Mv n f k m c e) : Mv n f k m (.agg cs) (.agg ds)
  | tup (cs ds : List PV) (hl : cs.length = ds.length) (h : ∀ (i : Nat) (c e : PV), cs[i]? = some c → ds[i]? = some e → Mv n f k m c e) : Mv n f k m (.tup cs) (.tup ds)

def MvL (n f k m : Nat) : List PV → List PV → Prop
  | [], [] => True
  | c :: cs, e :: es => Mv n f k m c e ∧ MvL n f k m cs es
  | _, _ => False
theorem MvL.get {n f k m : Nat} {cs es : List PV} (h : MvL n f k m cs es) : cs.length = es.length ∧ ∀ (i : Nat) (c e : PV), cs[i]? = some c → es[i]? = some e → Mv n f k m c e := by
  induction cs generalizing es with
  | nil => cases es with
    | nil => exact ⟨rfl, by simp⟩
    | cons => exact h.elim
  | cons c cs ih => cases es with
    | nil => exact h.elim
    | cons e es =>
      obtain ⟨h1, h2⟩ := ih h.2
      refine ⟨by simp [h1], fun i a b ha hb => ?_⟩
      match i, ha, hb with
      | 0, ha, hb => simp at ha hb; subst ha; subst hb; exact h.1
      | i + 1, ha, hb => exact h2 i a b (by simpa using ha) (by simpa using hb)
inductive MvO (n f k m : Nat) : AObj → AObj → Prop
  | same (ty sz : Nat) (es : List PV) (h : LtObj (n + f) ⟨ty, sz, es, 0⟩) : MvO n f k m ⟨ty, sz, es, 0⟩ ⟨ty, sz, es, 1⟩
  | agg (ty sz : Nat) (cs ds : List PV) (h : MvL n f k m cs ds) : MvO n f k m ⟨ty, sz, [.agg cs], 0⟩ ⟨ty, sz, [.agg ds], 1⟩
  | one (ty sz : Nat) (c e : PV) (h : Mv n f k m c e) (hc : c.cells = [c]) (he : e.cells = [e]) : MvO n f k m ⟨ty, sz, [c], 0⟩ ⟨ty, sz, [e], 1⟩

theorem MvO.cells {n f k m : Nat} {a b : AObj} (h : MvO n f k m a b) (hw : ∀ (i : Nat) (e : PV), a.es[i]? = some e → e.cells.length = a.sz) :
    b.sz = a.sz ∧ b.ty = a.ty ∧ a.ver = 0 ∧ b.ver = 1 ∧ b.es.length = a.es.length ∧ (∀ (i : Nat) (e : PV), b.es[i]? = some e → e.cells.length = b.sz) ∧ (∀ i j e, cellOf b.es i j = some e → ∃ c, cellOf a.es i j = some c ∧ Mv n f k m c e) := by
  cases h with
  | same ty sz es h =>
    refine ⟨rfl, rfl, rfl, rfl, rfl, hw, fun i j e hx => ⟨e, hx, .low e ?_⟩⟩
    obtain ⟨x, hx', _⟩ := cells_lt hx
    have hxx := hx
    unfold cellOf at hxx
    rw [hx'] at hxx
    exact cells_LtN (h x (List.mem_of_getElem? hx')) hxx
  | agg ty sz cs ds h =>
    obtain ⟨hl, hh⟩ := h.get
    refine ⟨rfl, rfl, rfl, rfl, rfl, fun i e he => ?_, fun i j e h' => ?_⟩
    · match i, he with
      | 0, he =>
        simp at he
        subst he
        have := hw 0 (.agg cs) rfl
        simp only [PV.cells] at this ⊢
        omega
      | i + 1, he => simp at he
    · obtain ⟨rfl, h2⟩ := cellOf_one h'
      clear h'
      simp only [PV.cells] at h2
      have hj : j < cs.length := by
        have := (List.getElem?_eq_some_iff.1 h2).1
        omega
      exact ⟨cs[j], by simp [cellOf, PV.cells, hj], hh j _ e (List.getElem?_eq_getElem hj) h2⟩
  | one ty sz c e h hc he =>
    refine ⟨rfl, rfl, rfl, rfl, rfl, fun i e' he' => ?_, fun i j e' h' => ?_⟩
    · match i, he' with
      | 0, he' =>
        simp at he'
        subst he'
        have := hw 0 c rfl
        rw [he]
        rw [hc] at this
        exact this
      | i + 1, he' => simp at he'
    · obtain ⟨rfl, h2⟩ := cellOf_one h'
      clear h'
      rw [he] at h2
      match j, h2 with
      | 0, h2 =>
        simp at h2
        subst h2
        exact ⟨c, by simp [cellOf, hc], h⟩
      | j + 1, h2 => simp at h2

def MvOs (n f k m : Nat) : List AObj → List AObj → Prop
  | [], [] => True
  | a :: l, b :: r => MvO n f k m a b ∧ MvOs n f k m l r
  | _, _ => False
theorem MvOs.get {n f k m : Nat} : ∀ {l r : List AObj}, MvOs n f k m l r → l.length = r.length ∧ ∀ (i : Nat) (a b : AObj), l[i]? = some a → r[i]? = some b → MvO n f k m a b
  | [], [], _ => ⟨rfl, by simp⟩
  | [], _ :: _, h => h.elim
  | _ :: _, [], h => h.elim
  | a :: l, b :: r, h => by
    obtain ⟨h1, h2⟩ := MvOs.get h.2
    refine ⟨by simp [h1], fun i a' b' ha hb => ?_⟩
    match i, ha, hb with
    | 0, ha, hb => simp at ha hb; subst ha; subst hb; exact h.1
    | i + 1, ha, hb => exact h2 i a' b' (by simpa using ha) (by simpa using hb)

def FreeL (k : Nat) (loc : List AObj) : Nat → Prop
  | 0 => True
  | m + 1 => (∃ o, loc[k]? = some o ∧ o.ver = 0) ∧ FreeL (k + 1) loc m
theorem FreeL.get {loc : List AObj} : ∀ {m k : Nat}, FreeL k loc m → ∀ i, i < m → ∃ o, loc[k + i]? = some o ∧ o.ver = 0
  | 0, _, _, i, hi => by omega
  | m + 1, k, h, i, hi => by
    match i with
    | 0 => exact h.1
    | i + 1 =>
      obtain ⟨o, h1, h2⟩ := FreeL.get h.2 i (by omega)
      exact ⟨o, by rw [show k + (i + 1) = k + 1 + i by omega]; exact h1, h2⟩

end
end Go.Aml
