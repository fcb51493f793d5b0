/- The abstract memory logic, part D: operations that make or change memory. -/
import Derived.Test.YticjalhfpjlbdaaAmlC
import Derived.Laws.MakeOwn
namespace Go.Aml
open Go
open Go.RowKit (Below)

def Gej (g:Gh) (H:List AObj) (w:World) (sz:Nat) (es:List PV) (us:List Value):Prop :=
 us.length=es.length*sz∧∀ i j c,cellOf es i j=some c→∃ u,us[i*sz+j]?=some u∧u.oneCell'=true∧VR g H w c u

theorem Gej.step {g g':Gh} {H H':List AObj} {w w':World} {sz:Nat} {es:List PV} {us:List Value} (h:Gej g H w sz es us) (hs:GStep H.length g H w g' H' w'):Gej g' H' w' sz es us :=
 ⟨h.1,fun i j c hc=>let ⟨u,h1,h2,h3⟩:=h.2 i j c hc;⟨u,h1,h2,h3.step' hs⟩⟩

theorem Gcz {w:World} {b:Nat} {o:Obj} (h:w.heap[b]?=some o):b<w.heap.size:=(Array.getElem?_eq_some_iff.1 h).1

section
variable {g:Gh} {n:Nat} {H:List AObj} {w:World}

theorem RelM.beta_lt (h:RelM g n H w) {r b C:Nat} (hb:g.β r=some (b,C)):b<w.heap.size:=by
 have hr:=h.dom r b C hb
 have ho:=(h.obj r _ (List.getElem?_eq_getElem hr)).mem
 rw [hb] at ho
 obtain ⟨_,cells,h1,_⟩:=ho
 exact Gcz h1

def Gh.push (g:Gh) (r:Nat) (p:Option (Nat×Nat)):Gh:={ F:=g.F,β:=fun q=>if q=r then p else g.β q }
theorem Gh.push_same (g:Gh) (r:Nat) (p:Option (Nat×Nat)):(g.push r p).β r=p:=by simp [Gh.push]
theorem Gh.push_ne (g:Gh) {r q:Nat} (p:Option (Nat×Nat)) (h:q≠r):(g.push r p).β q=g.β q:=by simp [Gh.push,h]

theorem RelM.new (h:RelM g n H w) (ty sz:Nat) (es:List PV) (cells:Array Value) (C:Nat) (hp:0<sz) (hw:∀ (i:Nat) (e:PV),es[i]?=some e→e.cells.length=sz) (hC:cells.size=C*sz) (hm:C≤maxLen) (hl:es.length≤C)
  (hc:∀ i j c,cellOf es i j=some c→∃ u,cells[i*sz+j]?=some u∧u.oneCell'=true∧VR g H w c u) :
  GStep H.length g H w (g.push H.length (some (w.heap.size,C))) (H++[⟨ty,sz,es,0⟩]) (w.alloc (.cells cells ty)) ∧
  RelM (g.push H.length (some (w.heap.size,C))) n (H++[⟨ty,sz,es,0⟩]) (w.alloc (.cells cells ty)):=by
 have hs:GStep H.length g H w (g.push H.length (some (w.heap.size,C))) (H++[⟨ty,sz,es,0⟩]) (w.alloc (.cells cells ty)) :=
  ⟨rfl,rfl,rfl,by simp,fun _ hb=>hb,fun b hb=>Go.RowKit.Below.heap_alloc w _ b (h.fb b hb),fun r o hr ho =>
   ⟨o,by rw [List.getElem?_append_left hr];exact ho,Nat.le_refl _,fun _=>⟨rfl,rfl,Gh.push_ne g _ (by omega)⟩⟩⟩
 refine ⟨hs,⟨fun b hb=>Nat.lt_of_lt_of_le (h.fb b hb) hs.size,?_,?_,?_,Nat.le_trans h.low (by simp),?_⟩⟩
 ·intro r r' b C1 C2 h1 h2
  by_cases e1:r=H.length <;> by_cases e2:r'=H.length
  ·omega
  ·subst e1
   rw [Gh.push_same] at h1
   rw [Gh.push_ne g _ e2] at h2
   injection h1 with h1
   injection h1 with h1
   have:=h.beta_lt h2
   omega
  ·subst e2
   rw [Gh.push_same] at h2
   rw [Gh.push_ne g _ e1] at h1
   injection h2 with h2
   injection h2 with h2
   have:=h.beta_lt h1
   omega
  ·rw [Gh.push_ne g _ e1] at h1
   rw [Gh.push_ne g _ e2] at h2
   exact h.inj r r' b C1 C2 h1 h2
 ·intro r b C' hb
  by_cases e1:r=H.length
  ·subst e1;simp
  ·rw [Gh.push_ne g _ e1] at hb
   have:=h.dom r b C' hb
   simp;omega
 ·intro r o ho
  by_cases e1:r=H.length
  ·subst e1
   rw [List.getElem?_append_right (Nat.le_refl _)] at ho
   simp at ho
   subst ho
   refine ⟨hp,hw,?_⟩
   rw [Gh.push_same]
   refine ⟨fun hF=>absurd (h.fb _ hF) (by omega),cells,heap_alloc_new w _,hC,hm,hl,fun i j c hcc=>?_⟩
   obtain ⟨u,h1,h2,h3⟩:=hc i j c hcc
   exact ⟨u,h1,h2,h3.step' hs⟩
  ·have hr:r<H.length:=by
    have:=(List.getElem?_eq_some_iff.1 ho).1
    simp at this
    omega
   rw [List.getElem?_append_left hr] at ho
   obtain ⟨a1,a2,a3⟩:=h.obj r o ho
   refine ⟨a1,a2,?_⟩
   rw [Gh.push_ne g _ e1]
   cases hb:g.β r with
   | none=>rw [hb] at a3;exact a3
   | some p =>
    obtain ⟨b,C'⟩:=p
    rw [hb] at a3
    obtain ⟨q1,cells',q2,q3,q4,q5,q6⟩:=a3
    refine ⟨q1,cells',(Go.RowKit.Below.heap_alloc w _ b (Gcz q2)).trans q2,q3,q4,q5,fun i j c hcc=>?_⟩
    obtain ⟨u,h1,h2,h3⟩:=q6 i j c hcc
    exact ⟨u,h1,h2,h3.step' hs⟩
 ·intro r o hr ho
  have hr':r<H.length:=Nat.lt_of_lt_of_le hr h.low
  rw [List.getElem?_append_left hr'] at ho
  exact h.lt r o hr ho

theorem RelM.new0 (h:RelM g n H w) (ty sz:Nat) (hp:0<sz) :
  GStep H.length g H w (g.push H.length none) (H++[⟨ty,sz,[],0⟩]) w∧RelM (g.push H.length none) n (H++[⟨ty,sz,[],0⟩]) w:=by
 have hs:GStep H.length g H w (g.push H.length none) (H++[⟨ty,sz,[],0⟩]) w :=
  ⟨rfl,rfl,rfl,Nat.le_refl _,fun _ hb=>hb,fun _ _=>rfl,fun r o hr ho=>⟨o,by rw [List.getElem?_append_left hr];exact ho,Nat.le_refl _,fun _=>⟨rfl,rfl,Gh.push_ne g _ (by omega)⟩⟩⟩
 refine ⟨hs,⟨h.fb,?_,?_,?_,Nat.le_trans h.low (by simp),?_⟩⟩
 ·intro r r' b C1 C2 h1 h2
  by_cases e1:r=H.length
  ·subst e1;rw [Gh.push_same] at h1;cases h1
  ·by_cases e2:r'=H.length
   ·subst e2;rw [Gh.push_same] at h2;cases h2
   ·rw [Gh.push_ne g _ e1] at h1
    rw [Gh.push_ne g _ e2] at h2
    exact h.inj r r' b C1 C2 h1 h2
 ·intro r b C' hb
  by_cases e1:r=H.length
  ·subst e1;simp
  ·rw [Gh.push_ne g _ e1] at hb
   have:=h.dom r b C' hb
   simp;omega
 ·intro r o ho
  by_cases e1:r=H.length
  ·subst e1
   rw [List.getElem?_append_right (Nat.le_refl _)] at ho
   simp at ho
   subst ho
   exact ⟨hp,by simp,by rw [Gh.push_same]⟩
  ·have hr:r<H.length:=by
    have:=(List.getElem?_eq_some_iff.1 ho).1
    simp at this
    omega
   rw [List.getElem?_append_left hr] at ho
   obtain ⟨a1,a2,a3⟩:=h.obj r o ho
   refine ⟨a1,a2,?_⟩
   rw [Gh.push_ne g _ e1]
   cases hb:g.β r with
   | none=>rw [hb] at a3;exact a3
   | some p =>
    obtain ⟨b,C'⟩:=p
    rw [hb] at a3
    obtain ⟨q1,cells',q2,q3,q4,q5,q6⟩:=a3
    refine ⟨q1,cells',q2,q3,q4,q5,fun i j c hcc=>?_⟩
    obtain ⟨u,h1,h2,h3⟩:=q6 i j c hcc
    exact ⟨u,h1,h2,h3.step' hs⟩
 ·intro r o hr ho
  have hr':r<H.length:=Nat.lt_of_lt_of_le hr h.low
  rw [List.getElem?_append_left hr'] at ho
  exact h.lt r o hr ho

def Goj (g:Gh) (H:List AObj) (w w':World) (o':AObj):Option (Nat×Nat)→Prop
 | none=>o'.es=[]
 | some (b,C)=>∃ cells,w'.heap[b]?=some (.cells cells o'.ty (0,0))∧cells.size=C*o'.sz∧C≤maxLen∧o'.es.length≤C∧∀ i j c,cellOf o'.es i j=some c→∃ u,cells[i*o'.sz+j]?=some u∧u.oneCell'=true∧VR g H w c u

theorem RelM.set (h:RelM g n H w) {r:Nat} {o o':AObj} {w':World} {p:Option (Nat×Nat)} (ho:H[r]?=some o) (hos:w'.os=w.os) (htape:w'.tape=w.tape) (hout:w'.output=w.output) (hsize:w.heap.size≤w'.heap.size)
  (hblk:∀ b,b<w.heap.size→(∀ C,g.β r≠some (b,C))→w'.heap[b]?=w.heap[b]?)
  (hv:o.ver≤o'.ver) (hsame:o'.ver=o.ver→o'.sz=o.sz∧o'.es.length=o.es.length∧p=g.β r)
  (hnew:∀ b C,p=some (b,C)→(∃ C',g.β r=some (b,C'))∨w.heap.size≤b)
  (hpos:0<o'.sz) (hwid:∀ (i:Nat) (e:PV),o'.es[i]?=some e→e.cells.length=o'.sz)
  (hmem:Goj g H w w' o' p)
  (hlt:r<n→Ga6 n o') :
  GStep H.length g H w (g.push r p) (H.set r o') w'∧RelM (g.push r p) n (H.set r o') w':=by
 have hrl:r<H.length:=(List.getElem?_eq_some_iff.1 ho).1
 have hob:=h.obj r o ho
 have hFr:∀ b C,g.β r=some (b,C)→¬ g.F b:=fun b C hb=>by
  have:=hob.mem
  rw [hb] at this
  exact this.1
 have hs:GStep H.length g H w (g.push r p) (H.set r o') w':=by
  refine ⟨hos,htape,hout,hsize,fun _ hb=>hb,fun b hb=>hblk b (h.fb b hb) fun C hC=>hFr b C hC hb,fun q oq hq hoq=>?_⟩
  by_cases e:q=r
  ·subst e
   rw [ho] at hoq
   injection hoq with hoq
   subst hoq
   refine ⟨o',by simp [hrl],hv,fun hvv=>?_⟩
   obtain ⟨s1,s2,s3⟩:=hsame hvv
   exact ⟨s1,s2,by rw [Gh.push_same];exact s3⟩
  ·exact ⟨oq,by rw [List.getElem?_set_ne (Ne.symm e)];exact hoq,Nat.le_refl _,fun _=>⟨rfl,rfl,Gh.push_ne g _ e⟩⟩
 refine ⟨hs,⟨fun b hb=>Nat.lt_of_lt_of_le (h.fb b hb) hsize,?_,?_,?_,by simpa using h.low,?_⟩⟩
 ·intro q q' b C1 C2 h1 h2
  by_cases e1:q=r <;> by_cases e2:q'=r
  ·omega
  ·subst e1
   rw [Gh.push_same] at h1
   rw [Gh.push_ne g _ e2] at h2
   rcases hnew b C1 h1 with ⟨C',hC⟩ | hge
   ·exact h.inj _ _ b C' C2 hC h2
   ·have:=h.beta_lt h2;omega
  ·subst e2
   rw [Gh.push_same] at h2
   rw [Gh.push_ne g _ e1] at h1
   rcases hnew b C2 h2 with ⟨C',hC⟩ | hge
   ·exact h.inj _ _ b C1 C' h1 hC
   ·have:=h.beta_lt h1;omega
  ·rw [Gh.push_ne g _ e1] at h1
   rw [Gh.push_ne g _ e2] at h2
   exact h.inj q q' b C1 C2 h1 h2
 ·intro q b C' hb
  by_cases e1:q=r
  ·subst e1;simpa using hrl
  ·rw [Gh.push_ne g _ e1] at hb
   simpa using h.dom q b C' hb
 ·intro q oq hoq
  by_cases e1:q=r
  ·subst e1
   simp [hrl] at hoq
   subst hoq
   refine ⟨hpos,hwid,?_⟩
   rw [Gh.push_same]
   cases p with
   | none=>exact hmem
   | some bc =>
    obtain ⟨b,C⟩:=bc
    obtain ⟨cells,q2,q3,q4,q5,q6⟩:=hmem
    refine ⟨fun hF=>?_,cells,q2,q3,q4,q5,fun i j c hcc=>?_⟩
    ·rcases hnew b C rfl with ⟨C',hC⟩ | hge
     ·exact hFr b C' hC hF
     ·have:=h.fb b hF;omega
    ·obtain ⟨u,h1,h2,h3⟩:=q6 i j c hcc
     exact ⟨u,h1,h2,h3.step' hs⟩
  ·rw [List.getElem?_set_ne (Ne.symm e1)] at hoq
   obtain ⟨a1,a2,a3⟩:=h.obj q oq hoq
   refine ⟨a1,a2,?_⟩
   rw [Gh.push_ne g _ e1]
   cases hb:g.β q with
   | none=>rw [hb] at a3;exact a3
   | some bc =>
    obtain ⟨b,C'⟩:=bc
    rw [hb] at a3
    obtain ⟨q1,cells',q2,q3,q4,q5,q6⟩:=a3
    refine ⟨q1,cells',(hblk b (Gcz q2) fun C hC=>e1 (h.inj _ _ b _ _ hb hC)).trans q2,q3,q4,q5,fun i j c hcc=>?_⟩
    obtain ⟨u,h1,h2,h3⟩:=q6 i j c hcc
    exact ⟨u,h1,h2,h3.step' hs⟩
 ·intro q oq hq hoq
  by_cases e1:q=r
  ·subst e1
   simp [hrl] at hoq
   subst hoq
   exact hlt hq
  ·rw [List.getElem?_set_ne (Ne.symm e1)] at hoq
   exact h.lt q oq hq hoq
end

theorem Gd0 {g:Gh} {n m:Nat} {H:List AObj} {w:World} (hm:RelM g n H w):GStep m g H w g H w.drew∧RelM g n H w.drew:=by
 have hs:∀ m,GStep m g H w g H w.drew:=fun m=>⟨rfl,rfl,rfl,Nat.le_refl _,fun _ h=>h,fun _ _=>rfl,fun r o _ ho=>⟨o,ho,Nat.le_refl _,fun _=>⟨rfl,rfl,rfl⟩⟩⟩
 refine ⟨hs m,hm.fb,hm.inj,hm.dom,fun r o ho=>?_,hm.low,hm.lt⟩
 obtain ⟨a1,a2,a3⟩:=hm.obj r o ho
 refine ⟨a1,a2,?_⟩
 cases hb:g.β r with
 | none=>rw [hb] at a3;exact a3
 | some bc =>
  obtain ⟨b,C⟩:=bc
  rw [hb] at a3
  obtain ⟨q1,cells',q2,q3,q4,q5,q6⟩:=a3
  exact ⟨q1,cells',q2,q3,q4,q5,fun i j c hcc=>let ⟨u,h1,h2,h3⟩:=q6 i j c hcc;⟨u,h1,h2,h3.step' (hs _)⟩⟩

/-! ### the objects of the state, as two lists -/

def Gi2 (low loc:List AObj) (r:Nat) (o':AObj) (low' loc':List AObj):Prop :=
 low'++loc'=(low++loc).set r o'∧low'.length=low.length∧(r<low.length→Ga6 low.length o')
theorem Gol {low loc:List AObj} {k:Nat} {o':AObj}:Gi2 low loc (low.length+k) o' low (loc.set k o'):=by
 refine ⟨?_,rfl,fun h=>by omega⟩
 rw [List.set_append_right _ _ (by omega)]
 simp
theorem Gom {low loc:List AObj} {r:Nat} {o':AObj} (hr:r<low.length) (hl:Ga6 low.length o'):Gi2 low loc r o' (low.set r o') loc:=by
 refine ⟨?_,by simp,fun _=>hl⟩
 rw [List.set_append_left _ _ hr]

def PV.one:PV→Bool
 | .agg _ | .tup _ | .any=>false
 | _=>true
theorem VR.oneCell {g:Gh} {H:List AObj} {w:World} {c:PV} {x:Value} (h:VR g H w c x) (hc:c.one=true):x.oneCell'=true:=by
 cases h with
 | imm h=>cases h <;> first | rfl | (simp [PV.one] at hc;done)
 | ptr=>rfl
 | sl r v off len o x ho hv h1 hx=>exact h1
 | agg cs xs hl hv=>simp [PV.one] at hc
 | tup cs xs hl hv=>simp [PV.one] at hc
 | fn=>rfl

end Go.Aml
