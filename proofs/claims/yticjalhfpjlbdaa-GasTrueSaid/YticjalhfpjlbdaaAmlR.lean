/- The abstract memory logic, part R: a new block that is born unchangeable. -/
import Derived.Test.YticjalhfpjlbdaaAmlP
namespace Go.Aml
open Go

section
variable {g:Gh} {n:Nat} {H:List AObj} {w:World}
def Gh.plus (g:Gh) (k:Nat):Gh:=⟨fun b=>g.F b∨b=k,g.β⟩

theorem RelM.newF (h:RelM g n H w) (ty:Nat) (cells:Array Value) :
  GStep H.length g H w (g.plus w.heap.size) H (w.alloc (.cells cells ty))∧RelM (g.plus w.heap.size) n H (w.alloc (.cells cells ty)):=by
 have hs:GStep H.length g H w (g.plus w.heap.size) H (w.alloc (.cells cells ty)) :=
  ⟨rfl,rfl,rfl,by simp,fun _ hb=>.inl hb,fun b hb=>Go.RowKit.Below.heap_alloc w _ b (h.fb b hb),fun r o hr ho=>⟨o,ho,Nat.le_refl _,fun _=>⟨rfl,rfl,rfl⟩⟩⟩
 refine ⟨hs,⟨fun b hb=>?_,h.inj,h.dom,fun r o ho=>?_,h.low,h.lt⟩⟩
 ·rcases hb with hb | hb
  ·exact Nat.lt_of_lt_of_le (h.fb b hb) hs.size
  ·subst hb;simp
 ·obtain ⟨a1,a2,a3⟩:=h.obj r o ho
  refine ⟨a1,a2,?_⟩
  show match g.β r with
   | none=>o.es=[]
   | some (b,C)=>¬ (g.F b∨b=w.heap.size)∧_
  cases hb:g.β r with
  | none=>rw [hb] at a3;exact a3
  | some p =>
   obtain ⟨b,C'⟩:=p
   rw [hb] at a3
   obtain ⟨q1,cells',q2,q3,q4,q5,q6⟩:=a3
   refine ⟨fun hF=>hF.elim q1 (fun e=>by have:=Gcz q2;omega),cells',(Go.RowKit.Below.heap_alloc w _ b (Gcz q2)).trans q2,q3,q4,q5,fun i j c hcc=>?_⟩
   obtain ⟨u,h1,h2,h3⟩:=q6 i j c hcc
   exact ⟨u,h1,h2,h3.step' hs⟩

variable {P:Program} {nt:Nat} {E:Env} {low loc:List AObj} {o:Oper}
theorem Goy {elem sz m:Nat} {es:List PV} (h:Gp4 P E low loc o elem sz es (.sl (low.length+loc.length) 0 0 m)) (hm:es.length=m) (hp:∀ e,e ∈ es→LtN 0 e) :
  VEf P o E low loc fun v1 low1 loc1=>v1 = .vs sz es∧low1=low∧loc1=loc:=by
 subst hm
 intro g nt a w hr Kr Qr hK
 obtain ⟨cells,C,x,w0,hrun,hw0,hpos,hw,hC,hmx,hl,hc,hv⟩:=h g nt a w hr
 unfold Oper.wp
 rw [hrun]
 have key:∃ g0,RelM g0 low.length (low++loc) w0∧GStep (low++loc).length g (low++loc) w g0 (low++loc) w0∧w0.heap.size=w.heap.size∧g0.F=g.F:=by
  rcases hw0 with rfl | rfl
  ·exact ⟨g,hr.m,GStep.refl _ _ _ _,rfl,rfl⟩
  ·obtain ⟨hsd,hmd⟩:=Gd0 (m:=(low++loc).length) hr.m
   exact ⟨g,hmd,hsd,rfl,rfl⟩
 obtain ⟨g0,hm0,hs0,hsz,hF0⟩:=key
 obtain ⟨k1,k2⟩:=hm0.newF elem cells
 obtain ⟨j1,j2⟩:=hm0.new elem sz es cells C hpos hw hC hmx hl fun i j c hcc=>let ⟨u,h1,h2,h3⟩:=hc i j c hcc;⟨u,h1,h2,h3.step' hs0⟩
 have hbe:(g0.push (low++loc).length (some (w0.heap.size,C))).β (low.length+loc.length)=some (w.heap.size,C):=by rw [← List.length_append,← hsz];exact Gh.push_same _ _ _
 have hx:=hv _ (w0.alloc (.cells cells elem)) hbe
 have hvi:=Giz (F:=(g0.plus w0.heap.size).F) (o:=⟨elem,sz,es,0⟩) (by rw [← List.append_assoc];exact j2) hx (by show (low++(loc++[_]))[_]?=_;rw [← List.append_assoc,← List.length_append,List.getElem?_append_right (Nat.le_refl _)];simp) rfl hp (fun b hb=>.inl hb) (fun b C' hb=>by rw [hbe] at hb;cases hb;exact .inr hsz.symm)
 have hvi':VI (g0.plus w0.heap.size).F (w0.alloc (.cells cells elem)) (.vs sz es) x:=by
  have e:(List.drop 0 es).take es.length=es:=by simp
  rw [← e];exact hvi
 exact hK x _ (g0.plus w0.heap.size) _ low loc ⟨rfl,rfl,rfl⟩ rfl (.imm hvi') k2 (hs0.trans k1)

end
end Go.Aml
