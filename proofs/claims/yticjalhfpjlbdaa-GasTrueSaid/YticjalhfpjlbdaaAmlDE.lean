/- The abstract memory logic, part DE: versions of the callers' rows that a function has appended to: told anew at its end. -/
import Derived.Test.YticjalhfpjlbdaaAmlDD
namespace Go.Aml
open Go

inductive NV (low H H':List AObj):PV→PV→Prop
 | old (c:PV) (g:Gh) (w:World) (x:Value) (h:VR g low w c x):NV low H H' c c
 | pure (c:PV) (h:LtN 0 c):NV low H H' c c
 | sl (r v v' off len:Nat) (o o':AObj) (h:H[r]?=some o) (h':H'[r]?=some o') (hv:v=o.ver) (hv':v'=o'.ver):NV low H H' (.sl r v off len) (.sl r v' off len)
 | ptr (r v i j:Nat) (o o':AObj) (h:H[r]?=some o) (h':H'[r]?=some o') (hv:v=o.ver) (hv':v=o'.ver):NV low H H' (.ptr r v i j) (.ptr r v i j)
 | agg (cs es:List PV) (hl:cs.length=es.length) (h:∀ (i:Nat) (c e:PV),cs[i]?=some c→es[i]?=some e→NV low H H' c e):NV low H H' (.agg cs) (.agg es)
 | tup (cs es:List PV) (hl:cs.length=es.length) (h:∀ (i:Nat) (c e:PV),cs[i]?=some c→es[i]?=some e→NV low H H' c e):NV low H H' (.tup cs) (.tup es)
def NVs (low H H':List AObj) (es es':List PV):Prop:=es.length=es'.length∧∀ (i:Nat) (c e:PV),es[i]?=some c→es'[i]?=some e→NV low H H' c e
structure NO (low H H':List AObj) (r:Nat) (o o':AObj):Prop where
 ty:o'.ty=o.ty
 sz:o'.sz=o.sz
 es:NVs low H H' o.es o'.es
 ver:o'.ver=o.ver∨∀ ol,low[r]?=some ol→ol.ver<o'.ver
def NOs (low H H':List AObj):Prop:=H'.length=H.length∧∀ (r:Nat) (o o':AObj),H[r]?=some o→H'[r]?=some o'→NO low H H' r o o'∨(o'=o∧low[r]?=some o)

section
variable {low H H':List AObj} {g':Gh} {w':World}

theorem NOs.at_ (h:NOs low H H') {r:Nat} {o:AObj} (ho:H[r]?=some o):∃ o',H'[r]?=some o'∧o'.ty=o.ty∧o'.sz=o.sz∧o'.es.length=o.es.length∧(o'.ver=o.ver∨∀ ol,low[r]?=some ol→ol.ver<o'.ver):=by
 have hr:=(List.getElem?_eq_some_iff.1 ho).1
 refine ⟨H'[r]'(by rw [h.1];exact hr),List.getElem?_eq_getElem _,?_⟩
 rcases h.2 r o _ ho (List.getElem?_eq_getElem _) with h1 | ⟨h1,h2⟩
 ·exact ⟨h1.ty,h1.sz,h1.es.1.symm,h1.ver⟩
 ·rw [h1]
  exact ⟨rfl,rfl,rfl,.inl rfl⟩
theorem SL.of {o o':AObj} {r off len:Nat} {x:Value} (h:SL g' o r off len x) (hs:o'.sz=o.sz) (hl:o'.es.length=o.es.length):SL g' o' r off len x:=by
 unfold SL at *
 rw [hs,hl]
 exact h
theorem VI.lt0 {F:Nat→Prop} {w:World} {c:PV} {x:Value} (h:VI F w c x):LtN 0 c:=(VR.imm (g:=⟨F,fun _=>none⟩) (H:=[]) h).ltN
theorem VR.lt0 {c:PV} {x:Value} (hl:LtN 0 c) (h:VR g' H w' c x):VR g' H' w' c x :=
 h.step (n:=0) ⟨rfl,rfl,rfl,Nat.le_refl _,fun _ h=>h,fun _ _=>rfl,fun r o h=>by omega⟩ hl
theorem VR.oldv (hN:NOs low H H') {c:PV} {g:Gh} {w:World} {x0:Value} (h0:VR g low w c x0):∀ {x:Value},VR g' H w' c x→VR g' H' w' c x:=by
 induction h0 with
 | imm h=>exact fun hx=>hx.lt0 h.lt0
 | ptr r v i j ol a ho hv ha =>
  intro x hx
  cases hx with
  | imm h=>cases h
  | ptr _ _ _ _ o a ho2 hv2 ha2 =>
   obtain ⟨o',h1,h2,h3,h4,h5⟩:=hN.at_ ho2
   rcases h5 with h5 | h5
   ·refine .ptr r v i j o' a h1 (by omega) fun e=>?_
    obtain ⟨q1,b,C,q2,q3⟩:=ha2 (by omega)
    exact ⟨by omega,b,C,q2,by rw [h3];exact q3⟩
   ·have:=h5 ol ho
    exact .ptr r v i j o' a h1 (by omega) fun e=>by omega
 | sl r v off len ol x0 ho hv h1 hx0 =>
  intro x hx
  cases hx with
  | imm h=>cases h
  | sl _ _ _ _ o _ ho2 hv2 h12 hx2 =>
   obtain ⟨o',h1',h2,h3,h4,h5⟩:=hN.at_ ho2
   rcases h5 with h5 | h5
   ·exact .sl r v off len o' x h1' (by omega) h12 fun e=>(hx2 (by omega)).of h3 h4
   ·have:=h5 ol ho
    exact .sl r v off len o' x h1' (by omega) h12 fun e=>by omega
 | agg cs xs hl hv ih =>
  intro x hx
  obtain ⟨ys,rfl,hl2,hv2⟩:=hx.agg_inv
  refine .agg cs ys hl2 fun i c y hc hy=>?_
  have hi:i<xs.length:=by
   have:=(List.getElem?_eq_some_iff.1 hc).1
   omega
  exact ih i c _ hc (List.getElem?_eq_getElem hi) (hv2 i c y hc hy)
 | tup cs xs hl hv ih =>
  intro x hx
  obtain ⟨ys,rfl,hl2,hv2⟩:=hx.tup_inv
  refine .tup cs ys hl2 fun i c y hc hy=>?_
  have hi:i<xs.length:=by
   have:=(List.getElem?_eq_some_iff.1 hc).1
   omega
  exact ih i c _ hc (List.getElem?_eq_getElem hi) (hv2 i c y hc hy)
 | fn f cs ds xs ys hl hv hl2 hv2 ih ih2 =>
  intro x hx
  cases hx with
  | imm h=>exact (VR.imm h:VR g' H w' _ _).lt0 h.lt0
  | fn _ _ _ us vs hl' hv' hl2' hv2' =>
   refine .fn f cs ds us vs hl' (fun i c y hc hy=>?_) hl2' (fun i c y hc hy=>?_)
   ·have hi:i<xs.length:=by
     have:=(List.getElem?_eq_some_iff.1 hc).1
     omega
    exact ih i c _ hc (List.getElem?_eq_getElem hi) (hv' i c y hc hy)
   ·have hi:i<ys.length:=by
     have:=(List.getElem?_eq_some_iff.1 hc).1
     omega
    exact ih2 i c _ hc (List.getElem?_eq_getElem hi) (hv2' i c y hc hy)
theorem NV.real (hN:NOs low H H') {c e:PV} (h:NV low H H' c e):∀ {x:Value},VR g' H w' c x→VR g' H' w' e x:=by
 induction h with
 | old c g w x h=>exact fun hx=>VR.oldv hN h hx
 | pure c h=>exact fun hx=>hx.lt0 h
 | sl r v v' off len o o' h h' hv hv' =>
  intro x hx
  cases hx with
  | imm h=>cases h
  | sl _ _ _ _ o2 _ ho2 hv2 h12 hx2 =>
   rw [h] at ho2
   injection ho2 with ho2
   subst ho2
   obtain ⟨o3,h3,h4,h5,h6,_⟩:=hN.at_ h
   rw [h'] at h3
   injection h3 with h3
   subst h3
   exact .sl r v' off len o' x h' (by omega) h12 fun _=>(hx2 hv).of h5 h6
 | ptr r v i j o o' h h' hv hv' =>
  intro x hx
  cases hx with
  | imm h=>cases h
  | ptr _ _ _ _ o2 a ho2 hv2 ha2 =>
   rw [h] at ho2
   injection ho2 with ho2
   subst ho2
   obtain ⟨o3,h3,h4,h5,h6,_⟩:=hN.at_ h
   rw [h'] at h3
   injection h3 with h3
   subst h3
   refine .ptr r v i j o' a h' (by omega) fun _=>?_
   obtain ⟨q1,b,C,q2,q3⟩:=ha2 hv
   exact ⟨by omega,b,C,q2,by rw [h5];exact q3⟩
 | agg cs es hl h ih =>
  intro x hx
  obtain ⟨xs,rfl,hlx,hvv⟩:=hx.agg_inv
  refine .agg es xs (by omega) fun i c x hc hx=>?_
  have hi:i<cs.length:=by
   have:=(List.getElem?_eq_some_iff.1 hc).1
   omega
  exact ih i _ c (List.getElem?_eq_getElem hi) hc (hvv i _ x (List.getElem?_eq_getElem hi) hx)
 | tup cs es hl h ih =>
  intro x hx
  obtain ⟨xs,rfl,hlx,hvv⟩:=hx.tup_inv
  refine .tup es xs (by omega) fun i c x hc hx=>?_
  have hi:i<cs.length:=by
   have:=(List.getElem?_eq_some_iff.1 hc).1
   omega
  exact ih i _ c (List.getElem?_eq_getElem hi) hc (hvv i _ x (List.getElem?_eq_getElem hi) hx)
theorem LtN.cells {n:Nat} {e c:PV} (h:LtN n e) {j:Nat} (hc:e.cells[j]?=some c):LtN n c:=by
 by_cases ha:∃ cs,e = .agg cs
 ·obtain ⟨cs,rfl⟩:=ha
  cases h with | agg _ hh=>exact hh c (List.mem_of_getElem? hc)
 ·have h1:e.cells=[e]:=by cases e <;> first | rfl | exact absurd ⟨_,rfl⟩ ha
  rw [h1] at hc
  match j,hc with
  | 0,hc=>simp at hc;subst hc;exact h
theorem VR.cells {g:Gh} {H:List AObj} {w:World} {e c:PV} {x:Value} (h:VR g H w e x) {j:Nat} (hc:e.cells[j]?=some c):∃ y,VR g H w c y:=by
 by_cases ha:∃ cs,e = .agg cs
 ·obtain ⟨cs,rfl⟩:=ha
  obtain ⟨xs,rfl,hl,hv⟩:=h.agg_inv
  have hi:j<xs.length:=by
   have:=(List.getElem?_eq_some_iff.1 hc).1
   simp only [PV.cells] at this
   omega
  exact ⟨_,hv j c _ hc (List.getElem?_eq_getElem hi)⟩
 ·have h1:e.cells=[e]:=by cases e <;> first | rfl | exact absurd ⟨_,rfl⟩ ha
  rw [h1] at hc
  match j,hc with
  | 0,hc=>simp at hc;subst hc;exact ⟨x,h⟩
theorem NV.cells {c e:PV} (h:NV low H H' c e):c.cells.length=e.cells.length∧∀ (j:Nat) (b:PV),e.cells[j]?=some b→∃ a,c.cells[j]?=some a∧NV low H H' a b:=by
 cases h with
 | old _ g w x h=>exact ⟨rfl,fun j b hb=>⟨b,hb,let ⟨y,hy⟩:=h.cells hb;.old b g w y hy⟩⟩
 | pure _ h=>exact ⟨rfl,fun j b hb=>⟨b,hb,.pure b (h.cells hb)⟩⟩
 | agg cs es hl h=>exact ⟨hl,fun j b hb=>by
   have hi:j<cs.length:=by
    have:=(List.getElem?_eq_some_iff.1 hb).1
    simp only [PV.cells] at this
    omega
   exact ⟨cs[j],List.getElem?_eq_getElem hi,h j _ b (List.getElem?_eq_getElem hi) hb⟩⟩
 | sl r v v' off len o o' h h' hv hv'=>exact ⟨rfl,fun j b hb=>by
   match j,hb with
   | 0,hb=>simp [PV.cells] at hb;subst hb;exact ⟨_,rfl,.sl r v v' off len o o' h h' hv hv'⟩
   | j+1,hb=>simp [PV.cells] at hb⟩
 | ptr r v i j0 o o' h h' hv hv'=>exact ⟨rfl,fun j b hb=>by
   match j,hb with
   | 0,hb=>simp [PV.cells] at hb;subst hb;exact ⟨_,rfl,.ptr r v i j0 o o' h h' hv hv'⟩
   | j+1,hb=>simp [PV.cells] at hb⟩
 | tup cs es hl h=>exact ⟨rfl,fun j b hb=>by
   match j,hb with
   | 0,hb=>simp [PV.cells] at hb;subst hb;exact ⟨_,rfl,.tup cs es hl h⟩
   | j+1,hb=>simp [PV.cells] at hb⟩
theorem NVs.cellOf {es es':List PV} (h:NVs low H H' es es') {i j:Nat} {b:PV} (hb:cellOf es' i j=some b):∃ a,cellOf es i j=some a∧NV low H H' a b:=by
 unfold Go.Aml.cellOf at hb ⊢
 cases he:es'[i]? with
 | none=>rw [he] at hb;cases hb
 | some e =>
  rw [he] at hb
  have hi:i<es.length:=by
   have:=(List.getElem?_eq_some_iff.1 he).1
   have:=h.1
   omega
  rw [List.getElem?_eq_getElem hi]
  exact (h.2 i _ e (List.getElem?_eq_getElem hi) he).cells.2 j b hb

theorem Gjn {P:Program} {f:FuncId} {args:List PV} {G:Type} {X:G→PV} {LW:G→List AObj} {x':PV} {lw':List AObj}
  (h:Sh P f args low fun x low'=>∃ γ,x=X γ∧low'=LW γ) (hn:∀ γ,NOs low (LW γ) lw'∧NV low (LW γ) lw' (X γ) x'):Sh P f args low fun x low'=>x=x'∧low'=lw':=by
 intro g xs w hm ha
 refine (h g xs w hm ha).mono ?_
 rintro e w' ⟨x,g',r,low',he,⟨γ,rfl,rfl⟩,hlen,hm',hvr,hst⟩
 obtain ⟨hN,hX⟩:=hn γ
 have hobj:∀ r o',lw'[r]?=some o'→ObjR g' lw' w' r o':=fun r o' ho'=>by
  have hr:r<(LW γ).length:=by
   have:=(List.getElem?_eq_some_iff.1 ho').1
   rw [hN.1] at this
   exact this
  have ho:=List.getElem?_eq_getElem hr
  generalize (LW γ)[r]=o at ho
  have hes:NVs low (LW γ) lw' o.es o'.es∧o'.ty=o.ty∧o'.sz=o.sz:=by
   rcases hN.2 r o o' ho ho' with q | ⟨rfl,q⟩
   ·exact ⟨q.es,q.ty,q.sz⟩
   ·refine ⟨⟨rfl,fun i c e hc he=>?_⟩,rfl,rfl⟩
    rw [hc] at he
    injection he with he
    subst he
    have hmm:=(hm.obj r o' q).mem
    by_cases hcell:c.cells=[]
    ·cases c <;> simp [PV.cells] at hcell
     subst hcell
     exact .agg [] [] rfl (by simp)
    ·have key:∀ (j:Nat) (a:PV),c.cells[j]?=some a→∃ y,VR g low w a y:=fun j a hj=>by
      have hco:cellOf o'.es i j=some a:=by unfold Go.Aml.cellOf;rw [hc];exact hj
      cases hb:g.β r with
      | none=>rw [hb] at hmm;rw [hmm] at hc;simp at hc
      | some bc =>
       obtain ⟨b,C⟩:=bc
       rw [hb] at hmm
       obtain ⟨_,cells,_,_,_,_,q6⟩:=hmm
       obtain ⟨u,_,_,h3⟩:=q6 i j a hco
       exact ⟨u,h3⟩
     by_cases hag:∃ cs,c = .agg cs
     ·obtain ⟨cs,rfl⟩:=hag
      refine .agg cs cs rfl fun j a b ha hb=>?_
      rw [ha] at hb
      injection hb with hb
      subst hb
      obtain ⟨y,hy⟩:=key j a ha
      exact .old a g w y hy
     ·have h1:c.cells=[c]:=by cases c <;> first | rfl | exact absurd ⟨_,rfl⟩ hag
      obtain ⟨y,hy⟩:=key 0 c (by rw [h1];rfl)
      exact .old c g w y hy
  obtain ⟨hes,hty,hsz⟩:=hes
  obtain ⟨p1,p2,p3⟩:=hm'.obj r o ho
  refine ⟨by omega,fun i e' hi'=>?_,?_⟩
  ·have hil:i<o.es.length:=by
    have:=(List.getElem?_eq_some_iff.1 hi').1
    have:=hes.1
    omega
   rw [← (hes.2 i _ e' (List.getElem?_eq_getElem hil) hi').cells.1,hsz]
   exact p2 i _ (List.getElem?_eq_getElem hil)
  ·cases hb:g'.β r with
   | none =>
    rw [hb] at p3
    dsimp only at p3 ⊢
    have:=hes.1
    rw [p3] at this
    exact List.eq_nil_of_length_eq_zero this.symm
   | some bc =>
    obtain ⟨b,C⟩:=bc
    rw [hb] at p3
    obtain ⟨q1,cells,q2,q3,q4,q5,q6⟩:=p3
    refine ⟨q1,cells,by rw [hty];exact q2,by rw [hsz];exact q3,q4,by rw [← hes.1];exact q5,fun i j b hcb=>?_⟩
    obtain ⟨a,ha,hab⟩:=hes.cellOf hcb
    obtain ⟨u,h1,h2,h3⟩:=q6 i j a ha
    exact ⟨u,by rw [hsz];exact h1,h2,hab.real hN h3⟩
 have hm2:RelM g' lw'.length lw' w':=RelM.full (n:=0) ⟨hm'.fb,hm'.inj,fun r b C hb=>by rw [hN.1];exact hm'.dom r b C hb,hobj,Nat.zero_le _,fun r o hr=>by omega⟩
 refine ⟨x,g',x',lw',he,⟨rfl,rfl⟩,by rw [hN.1];exact hlen,hm2,hX.real hN hvr,hst.os,hst.tape,hst.output,hst.size,hst.F,hst.keep,fun r ol hr hol=>?_⟩
 obtain ⟨o,ho,hv,hq⟩:=hst.objs r ol hr hol
 obtain ⟨o',ho',h1,h2,h3,h4⟩:=hN.at_ ho
 rcases h4 with h4 | h4
 ·exact ⟨o',ho',by omega,fun e=>by obtain ⟨q1,q2,q3⟩:=hq (by omega);exact ⟨by omega,by omega,q3⟩⟩
 ·have:=h4 ol hol
  exact ⟨o',ho',by omega,fun e=>by omega⟩
end

def NP (low H H':List AObj):List (Nat×AObj)→List (Nat×AObj)→Prop
 | [],[]=>True
 | (q,o)::a,(q',o')::b=>(q=q'∧NO low H H' q o o')∧NP low H H' a b
 | _,_=>False
def NQ (low H H':List AObj):Nat→List AObj→List AObj→Prop
 | _,[],[]=>True
 | k,o::a,o'::b=>NO low H H' k o o'∧NQ low H H' (k+1) a b
 | _,_,_=>False
def NVL (low H H':List AObj):List PV→List PV→Prop
 | [],[]=>True
 | c::a,e::b=>NV low H H' c e∧NVL low H H' a b
 | _,_=>False
section
variable {low H H' low0 loc:List AObj} {ps ps0 ps1 ps2:List (Nat×AObj)} {os1 os2:List AObj} {qs:List Nat} {n r q v v' off len ty sz i j:Nat} {o o':AObj}

theorem NP.get:∀ {a b:List (Nat×AObj)},NP low H H' a b→∀ {i:Nat} {q q':Nat} {o o':AObj},a[i]?=some (q,o)→b[i]?=some (q',o')→NO low H H' q o o'
 | [],[],_,i,q,q',o,o',h,_=>by simp at h
 | (q0,o0)::a,(q0',o0')::b,h,i,q,q',o,o',h1,h2=>by
  match i,h1,h2 with
  | 0,h1,h2 =>
   simp at h1 h2
   obtain ⟨rfl,rfl⟩:=h1
   obtain ⟨rfl,rfl⟩:=h2
   exact h.1.2
  | i+1,h1,h2=>exact NP.get h.2 (by simpa using h1) (by simpa using h2)
 | [],_::_,h,_,_,_,_,_,_,_=>h.elim
 | _::_,[],h,_,_,_,_,_,_,_=>h.elim
theorem NQ.get:∀ {k:Nat} {a b:List AObj},NQ low H H' k a b→a.length=b.length∧∀ {i:Nat} {o o':AObj},a[i]?=some o→b[i]?=some o'→NO low H H' (k+i) o o'
 | _,[],[],_=>⟨rfl,fun h _=>by simp at h⟩
 | k,o0::a,o0'::b,h=>by
  obtain ⟨e,q⟩:=NQ.get h.2
  refine ⟨by simp [e],fun {i o o'} h1 h2=>?_⟩
  match i,h1,h2 with
  | 0,h1,h2 =>
   simp at h1 h2
   subst h1
   subst h2
   exact h.1
  | i+1,h1,h2 =>
   have:=q (i:=i) (by simpa using h1) (by simpa using h2)
   rw [show k+(i+1)=k+1+i by omega]
   exact this
 | _,[],_::_,h=>h.elim
 | _,_::_,[],h=>h.elim
theorem NVL.get:∀ {a b:List PV},NVL low H H' a b→NVs low H H' a b
 | [],[],_=>⟨rfl,fun i c e h _=>by simp at h⟩
 | c::a,e::b,h=>by
  obtain ⟨e1,q⟩:=NVL.get h.2
  refine ⟨by simp [e1],fun i x y h1 h2=>?_⟩
  match i,h1,h2 with
  | 0,h1,h2=>simp at h1 h2;subst h1;subst h2;exact h.1
  | i+1,h1,h2=>exact q i x y (by simpa using h1) (by simpa using h2)
 | [],_::_,h=>h.elim
 | _::_,[],h=>h.elim
theorem Gn8 {c:PV} {cs es:List PV} (hc:c = .agg cs) (h:NVL low H H' cs es):NV low H H' c (.agg es):=by subst hc;exact .agg cs es h.get.1 h.get.2
theorem Gjo (h:H[r]?=some o) (h':H'[r]?=some o') (hv:v=o.ver) (hv':v'=o'.ver):NV low H H' (.sl r v off len) (.sl r v' off len):=.sl r v v' off len o o' h h' hv hv'
theorem Ggp {α:Type} {f:α→PV} {l:List α} (h:∀ x,LtN 0 (f x)) (hv:v'=v∨∀ ol,low[r]?=some ol→ol.ver<v'):NO low H H' r ⟨ty,sz,l.map f,v⟩ ⟨ty,sz,l.map f,v'⟩ :=
 ⟨rfl,rfl,⟨rfl,fun i c e hc he=>by rw [show (⟨ty,sz,l.map f,v⟩:AObj).es[i]?=_ from hc] at he;injection he with he;subst he;exact .pure c (Kx h c (List.mem_of_getElem? hc))⟩,hv⟩
theorem Grk {es es':List PV} (h:NVL low H H' es es') (hv:v'=v∨∀ ol,low[r]?=some ol→ol.ver<v'):NO low H H' r ⟨ty,sz,es,v⟩ ⟨ty,sz,es',v'⟩:=⟨rfl,rfl,h.get,hv⟩
theorem Gn9 (h:low[r]?=some o) (hv:o.ver<v'):∀ ol,low[r]?=some ol→ol.ver<v':=fun ol e=>by rw [h] at e;injection e with e;subst e;exact hv
theorem Giu (hB:Bor low0 qs) (hq:ps.map (·.1)=qs) (i:Nat) (h:ps[i]?=some (q,o)):(Ko low0 ps)[q]?=some o :=
 Gg4 ps low0 (hq ▸ hB.1) (fun r hr=>hB.2 r (hq ▸ hr)) i q o h
theorem Gsz (hB:Bor low0 qs) (hn:low0.length=n) (h0:ps0.map (·.1)=qs) (h1:ps1.map (·.1)=qs) (h2:ps2.map (·.1)=qs)
  (hp:NP (Ko low0 ps0) (Ko low0 ps1++os1) (Ko low0 ps2++os2) ps1 ps2) (ho:NQ (Ko low0 ps0) (Ko low0 ps1++os1) (Ko low0 ps2++os2) n os1 os2):NOs (Ko low0 ps0) (Ko low0 ps1++os1) (Ko low0 ps2++os2):=by
 subst hn
 obtain ⟨hl,hg⟩:=ho.get
 refine ⟨by rw [List.length_append,List.length_append,Yc,Yc,hl],fun r o o' hr hr'=>?_⟩
 by_cases hlt:r<low0.length
 ·rw [List.getElem?_append_left (by rw [Yc];exact hlt)] at hr hr'
  by_cases hm:r ∈ qs
  ·obtain ⟨i,hi,rfl⟩:=List.getElem_of_mem hm
   have g1:i<ps1.length:=by rw [← h1] at hi;simpa using hi
   have g2:i<ps2.length:=by rw [← h2] at hi;simpa using hi
   have e1:ps1[i]?=some (qs[i],ps1[i].2):=by
    rw [List.getElem?_eq_getElem g1]
    have:(ps1.map (·.1))[i]?=some qs[i]:=by rw [h1];exact List.getElem?_eq_getElem hi
    rw [List.getElem?_map,List.getElem?_eq_getElem g1] at this
    injection this with this
    rw [← this]
   have e2:ps2[i]?=some (qs[i],ps2[i].2):=by
    rw [List.getElem?_eq_getElem g2]
    have:(ps2.map (·.1))[i]?=some qs[i]:=by rw [h2];exact List.getElem?_eq_getElem hi
    rw [List.getElem?_map,List.getElem?_eq_getElem g2] at this
    injection this with this
    rw [← this]
   rw [Giu hB h1 i e1] at hr
   rw [Giu hB h2 i e2] at hr'
   injection hr with hr
   injection hr' with hr'
   subst hr
   subst hr'
   exact .inl (hp.get e1 e2)
  ·rw [Ge2 _ _ _ (by rw [h1];exact hm)] at hr
   rw [Ge2 _ _ _ (by rw [h2];exact hm),hr] at hr'
   injection hr' with hr'
   exact .inr ⟨hr'.symm,by rw [Ge2 _ _ _ (by rw [h0];exact hm)];exact hr⟩
 ·rw [List.getElem?_append_right (by rw [Yc];omega),Yc] at hr hr'
  have:=hg hr hr'
  rw [show low0.length+(r-low0.length)=r by omega] at this
  exact .inl this
end
end Go.Aml
