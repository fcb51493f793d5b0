/- The abstract memory logic, part DF: the last of the function's own objects, as many as there may be, become unchangeable, all at once. -/
import Derived.Test.YticjalhfpjlbdaaAmlDE
namespace Go.Aml
open Go

inductive Fz (n:Nat) (rows:List AObj):PV→PV→Prop
 | low (c:PV) (h:LtN n c):Fz n rows c c
 | sl (k off len:Nat) (o:AObj) (es:List PV) (ho:rows[k]?=some o) (he:(o.es.drop off).take len=es):Fz n rows (.sl (n+k) o.ver off len) (.vs o.sz es)
 | agg (cs ds:List PV) (hl:cs.length=ds.length) (h:∀ (i:Nat) (c e:PV),cs[i]?=some c→ds[i]?=some e→Fz n rows c e):Fz n rows (.agg cs) (.agg ds)
 | any (c:PV):Fz n rows c .any

structure FzO (n:Nat) (rows:List AObj) (a b:AObj):Prop where
 ty:b.ty=a.ty
 sz:b.sz=a.sz
 ver:b.ver=a.ver
 len:b.es.length=a.es.length
 el:∀ (i:Nat) (c e:PV),a.es[i]?=some c→b.es[i]?=some e→Fz n rows c e∧e.cells.length=c.cells.length

def FzE (n:Nat) (rows:List AObj) (E:Env):Env→Prop
 | []=>True
 | (t,v)::s=>Fz n rows (look E t) v∧FzE n rows E s
theorem FzE.look {n:Nat} {rows:List AObj} {E E':Env} (h:FzE n rows E E') (t:Nat):look E' t = .any∨Fz n rows (look E t) (look E' t):=by
 induction E' with
 | nil=>exact .inl rfl
 | cons p s ih =>
  obtain ⟨d,v⟩:=p
  by_cases hd:d=t
  ·subst hd;rw [Wt];exact .inr h.1
  ·rw [Xm v s hd];exact ih h.2

theorem Fz.cells {n:Nat} {rows:List AObj} {c e:PV} (h:Fz n rows c e) (hl:e.cells.length=c.cells.length) {j:Nat} {y:PV} (hy:e.cells[j]?=some y):∃ x,c.cells[j]?=some x∧Fz n rows x y:=by
 cases h with
 | low _ hc=>exact ⟨y,hy,.low _ (Gba hc hy)⟩
 | sl k off len o es ho he =>
  match j,hy with
  | 0,hy=>simp [PV.cells] at hy;subst hy;exact ⟨_,rfl,.sl k off len o es ho he⟩
  | j+1,hy=>simp [PV.cells] at hy
 | agg cs ds hl' hh =>
  simp only [PV.cells] at hl hy ⊢
  have hj:j<cs.length:=by
   have:=(List.getElem?_eq_some_iff.1 hy).1
   omega
  exact ⟨_,List.getElem?_eq_getElem hj,hh j _ _ (List.getElem?_eq_getElem hj) hy⟩
 | any c =>
  match j,hy with
  | 0,hy =>
   simp [PV.cells] at hy;subst hy
   have:0<c.cells.length:=by rw [← hl];simp [PV.cells]
   exact ⟨_,List.getElem?_eq_getElem this,.any _⟩
  | j+1,hy=>simp [PV.cells] at hy

theorem FzO.cells {n:Nat} {rows:List AObj} {a b:AObj} (h:FzO n rows a b) {i j:Nat} {y:PV} (hy:cellOf b.es i j=some y):∃ x,cellOf a.es i j=some x∧Fz n rows x y:=by
 obtain ⟨e,he,hj⟩:=Yq hy
 have hi:i<a.es.length:=by
  have:=(List.getElem?_eq_some_iff.1 he).1
  have:=h.len
  omega
 obtain ⟨h1,h2⟩:=h.el i _ e (List.getElem?_eq_getElem hi) he
 unfold cellOf at hy
 rw [he] at hy
 obtain ⟨x,hx,hf⟩:=h1.cells h2 hy
 refine ⟨x,?_,hf⟩
 unfold cellOf
 rw [List.getElem?_eq_getElem hi]
 exact hx

variable {E E':Env} {low loc loc1 loc2 rows:List AObj}

end Go.Aml
