/- The abstract memory logic, part X: nil as an empty row, within values, where an operation yields them or a call takes them. -/
import Derived.Test.YticjalhfpjlbdaaAmlW
namespace Go.Aml
open Go

inductive Nc:PV→PV→Prop
 | refl (c:PV):Nc c c
 | nil (sz:Nat):Nc .nils (.vs sz [])
 | z0 (sz:Nat):Nc .z0 (.vs sz [])
 | agg (cs ds:List PV) (hl:cs.length=ds.length) (h:∀ (i:Nat) (c e:PV),cs[i]?=some c→ds[i]?=some e→Nc c e):Nc (.agg cs) (.agg ds)
 | tup (cs ds:List PV) (hl:cs.length=ds.length) (h:∀ (i:Nat) (c e:PV),cs[i]?=some c→ds[i]?=some e→Nc c e):Nc (.tup cs) (.tup ds)
 | vs (sz:Nat) (cs ds:List PV) (hl:cs.length=ds.length) (h:∀ (i:Nat) (c e:PV),cs[i]?=some c→ds[i]?=some e→Nc c e):Nc (.vs sz cs) (.vs sz ds)

theorem Nc.cells {c e:PV} (h:Nc c e):c.cells.length=e.cells.length∧∀ (j:Nat) (c' e':PV),c.cells[j]?=some c'→e.cells[j]?=some e'→Nc c' e':=by
 have one:∀ (a b:PV),Nc a b→∀ (j:Nat) (c' e':PV),[a][j]?=some c'→[b][j]?=some e'→Nc c' e':=fun a b hab j c' e' h1 h2=>by
  match j,h1,h2 with
  | 0,h1,h2=>simp at h1 h2;subst h1;subst h2;exact hab
  | j+1,h1,_=>simp at h1
 have hh:=h
 cases h with
 | refl=>exact ⟨rfl,fun j c' e' h1 h2=>by rw [h1] at h2;injection h2 with h2;subst h2;exact .refl _⟩
 | nil sz=>exact ⟨rfl,one _ _ hh⟩
 | z0 sz=>exact ⟨rfl,one _ _ hh⟩
 | agg cs ds hl h=>exact ⟨hl,h⟩
 | tup cs ds hl h=>exact ⟨rfl,one _ _ hh⟩
 | vs sz cs ds hl h=>exact ⟨rfl,one _ _ hh⟩

theorem Nc.vi {F:Nat→Prop} {w:World} {c:PV} {x:Value} (hv:VI F w c x):∀ {e:PV},Nc c e→VI F w e x:=by
 induction hv with
 | any x=>intro e h;cases h;exact .any x
 | bool b=>intro e h;cases h;exact .bool b
 | int k n=>intro e h;cases h;exact .int k n
 | str s=>intro e h;cases h;exact .str s
 | nilp=>intro e h;cases h;exact .nilp
 | nils =>
  intro e h
  cases h with
  | refl=>exact .nils
  | nil sz=>exact .vs0 sz none 0
 | z0 a =>
  intro e h
  cases h with
  | refl=>exact .z0 a
  | z0 sz=>exact .vs0 sz a 0
 | nilf=>intro e h;cases h;exact .nilf
 | vptr cs j b off u hb hc h1 hv ih=>intro e h;cases h;exact .vptr cs j b off u hb hc h1 hv
 | vs0 sz a cap =>
  intro e h
  cases h with
  | refl=>exact .vs0 sz a cap
  | vs _ _ ds hl h =>
   have:ds=[]:=List.eq_nil_of_length_eq_zero (by simpa using hl.symm)
   subst this
   exact .vs0 sz a cap
 | vs sz es b off cap u hlc hb hsz hc h1 hv ih =>
  intro e h
  cases h with
  | refl=>exact .vs sz es b off cap u hlc hb hsz hc h1 hv
  | vs _ _ ds hl h =>
   have key:∀ i j e,cellOf ds i j=some e→∃ c,cellOf es i j=some c∧Nc c e:=fun i j e he=>by
    obtain ⟨d,hd,hj⟩:=Yq he
    have hi:i<es.length:=by
     have:=(List.getElem?_eq_some_iff.1 hd).1
     omega
    have hce:=h i _ d (List.getElem?_eq_getElem hi) hd
    obtain ⟨k1,k2⟩:=hce.cells
    have he':=he
    unfold cellOf at he'
    rw [hd] at he'
    refine ⟨es[i].cells[j]'(by omega),?_,k2 j _ e (List.getElem?_eq_getElem (by omega)) he'⟩
    unfold cellOf
    rw [List.getElem?_eq_getElem hi]
    exact List.getElem?_eq_getElem (by omega)
   rw [hl] at hlc ⊢
   refine .vs sz ds b off cap u hlc hb (fun i d hd=>?_) (fun i j e he=>?_) (fun i j e he=>?_) (fun i j e he=>?_)
   ·have hi:i<es.length:=by
     have:=(List.getElem?_eq_some_iff.1 hd).1
     omega
    rw [← (h i _ d (List.getElem?_eq_getElem hi) hd).cells.1]
    exact hsz i _ (List.getElem?_eq_getElem hi)
   ·obtain ⟨c,h2,_⟩:=key i j e he;exact hc i j c h2
   ·obtain ⟨c,h2,_⟩:=key i j e he;exact h1 i j c h2
   ·obtain ⟨c,h2,h3⟩:=key i j e he;exact ih i j c h2 h3
 | agg cs xs hl hv ih =>
  intro e h
  cases h with
  | refl=>exact .agg cs xs hl hv
  | agg _ ds hl2 h =>
   refine .agg ds xs (by omega) fun i c x hc hx=>?_
   have hi:i<cs.length:=by
    have:=(List.getElem?_eq_some_iff.1 hc).1
    omega
   exact ih i _ x (List.getElem?_eq_getElem hi) hx (h i _ c (List.getElem?_eq_getElem hi) hc)
 | tup cs xs hl hv ih =>
  intro e h
  cases h with
  | refl=>exact .tup cs xs hl hv
  | tup _ ds hl2 h =>
   refine .tup ds xs (by omega) fun i c x hc hx=>?_
   have hi:i<cs.length:=by
    have:=(List.getElem?_eq_some_iff.1 hc).1
    omega
   exact ih i _ x (List.getElem?_eq_getElem hi) hx (h i _ c (List.getElem?_eq_getElem hi) hc)
 | fn f cs ds xs ys hl hv hl2 hv2 ih ih2=>intro e h;cases h;exact .fn f cs ds xs ys hl hv hl2 hv2

theorem Nc.vr {g:Gh} {H:List AObj} {w:World} {c:PV} {x:Value} (hv:VR g H w c x):∀ {e:PV},Nc c e→VR g H w e x:=by
 induction hv with
 | imm h=>exact fun hn=>.imm (Nc.vi h hn)
 | ptr r v i j o a ho hv ha=>intro e h;cases h;exact .ptr r v i j o a ho hv ha
 | sl r v off len o x ho hv h1 hx=>intro e h;cases h;exact .sl r v off len o x ho hv h1 hx
 | agg cs xs hl hv ih =>
  intro e h
  cases h with
  | refl=>exact .agg cs xs hl hv
  | agg _ ds hl2 h =>
   refine .agg ds xs (by omega) fun i c x hc hx=>?_
   have hi:i<cs.length:=by
    have:=(List.getElem?_eq_some_iff.1 hc).1
    omega
   exact ih i _ x (List.getElem?_eq_getElem hi) hx (h i _ c (List.getElem?_eq_getElem hi) hc)
 | tup cs xs hl hv ih =>
  intro e h
  cases h with
  | refl=>exact .tup cs xs hl hv
  | tup _ ds hl2 h =>
   refine .tup ds xs (by omega) fun i c x hc hx=>?_
   have hi:i<cs.length:=by
    have:=(List.getElem?_eq_some_iff.1 hc).1
    omega
   exact ih i _ x (List.getElem?_eq_getElem hi) hx (h i _ c (List.getElem?_eq_getElem hi) hc)
 | fn f cs ds xs ys hl hv hl2 hv2 ih ih2=>intro e h;cases h;exact .fn f cs ds xs ys hl hv hl2 hv2

def NcL:List PV→List PV→Prop
 | [],[]=>True
 | c::cs,e::es=>Nc c e∧NcL cs es
 | _,_=>False
theorem NcL.get {cs es:List PV} (h:NcL cs es):cs.length=es.length∧∀ (i:Nat) (c e:PV),cs[i]?=some c→es[i]?=some e→Nc c e:=by
 induction cs generalizing es with
 | nil=>cases es with
  | nil=>exact ⟨rfl,by simp⟩
  | cons=>exact h.elim
 | cons c cs ih=>cases es with
  | nil=>exact h.elim
  | cons e es =>
   obtain ⟨h1,h2⟩:=ih h.2
   refine ⟨by simp [h1],fun i a b ha hb=>?_⟩
   match i,ha,hb with
   | 0,ha,hb=>simp at ha hb;subst ha;subst hb;exact h.1
   | i+1,ha,hb=>exact h2 i a b (by simpa using ha) (by simpa using hb)
theorem Gfl {c e:PV} {sz:Nat} (h:c = .nils) (he:e = .vs sz []):Nc c e:=by subst h;subst he;exact .nil sz
theorem Gk3 {c e:PV} {cs ds:List PV} (hc:c = .agg cs) (he:e = .agg ds) (h:NcL cs ds):Nc c e:=by subst hc;subst he;exact .agg cs ds h.get.1 h.get.2
section
variable {P:Program} {E:Env} {low loc low' loc':List AObj}
theorem Gn3 {o:Oper} {v v':PV} (h:VRd P o E low loc v) (hn:Nc v v'):VRd P o E low loc v':=fun g nt a w hr=>let ⟨x,h1,h2⟩:=h g nt a w hr;⟨x,h1,Nc.vr h2 hn⟩
end
end Go.Aml
