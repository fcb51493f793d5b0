/- The abstract memory logic, part V: the function's own objects, Yr anew; the others are forgotten. -/
import Derived.Test.YticjalhfpjlbdaaAmlU
namespace Go.Aml
open Go

inductive Ren (n:Nat) (ks:List (Nat×Nat)):PV→PV→Prop
 | low (c:PV) (h:LtN n c):Ren n ks c c
 | sl (i k v off len:Nat) (h:ks[i]?=some (k,v)):Ren n ks (.sl (n+k) v off len) (.sl (n+i) 0 off len)
 | ptr (i k v e j:Nat) (h:ks[i]?=some (k,v)):Ren n ks (.ptr (n+k) v e j) (.ptr (n+i) 0 e j)
 | agg (cs ds:List PV) (hl:cs.length=ds.length) (h:∀ (i:Nat) (c e:PV),cs[i]?=some c→ds[i]?=some e→Ren n ks c e):Ren n ks (.agg cs) (.agg ds)
 | tup (cs ds:List PV) (hl:cs.length=ds.length) (h:∀ (i:Nat) (c e:PV),cs[i]?=some c→ds[i]?=some e→Ren n ks c e):Ren n ks (.tup cs) (.tup ds)
 | any (c:PV):Ren n ks c .any

def Gqe (n:Nat) (ks:List (Nat×Nat)):List PV→List PV→Prop
 | [],[]=>True
 | c::cs,e::es=>Ren n ks c e∧Gqe n ks cs es
 | _,_=>False
theorem Gqe.get {n:Nat} {ks:List (Nat×Nat)} {cs es:List PV} (h:Gqe n ks cs es):cs.length=es.length∧∀ (i:Nat) (c e:PV),cs[i]?=some c→es[i]?=some e→Ren n ks c e:=by
 induction cs generalizing es with
 | nil=>cases es with
  | nil=>exact ⟨rfl,by simp⟩
  | cons=>exact h.elim
 | cons c cs ih=>cases es with
  | nil=>exact h.elim
  | cons e es =>
   obtain ⟨h1,h2⟩:=ih h.2
   refine ⟨by simp [h1],fun i a b ha hb=>?_⟩
   match i,ha,hb with
   | 0,ha,hb=>simp at ha hb;subst ha;subst hb;exact h.1
   | i+1,ha,hb=>exact h2 i a b (by simpa using ha) (by simpa using hb)
theorem Gj {n:Nat} {ks:List (Nat×Nat)} {c e:PV} (hc:c=e) (h:LtN n e):Ren n ks c e:=by subst hc;exact .low c h
theorem Jo {n:Nat} {ks:List (Nat×Nat)} {c:PV} {v off len:Nat} (i k:Nat) (h:ks[i]?=some (k,v)) (hc:c = .sl (n+k) v off len):Ren n ks c (.sl (n+i) 0 off len):=by subst hc;exact .sl i k v off len h
theorem Gu {n:Nat} {ks:List (Nat×Nat)} {c:PV} {v e j:Nat} (i k:Nat) (h:ks[i]?=some (k,v)) (hc:c = .ptr (n+k) v e j):Ren n ks c (.ptr (n+i) 0 e j):=by subst hc;exact .ptr i k v e j h

def Gqf (n:Nat) (ks:List (Nat×Nat)) (E:Env):Env→Prop
 | []=>True
 | (t,v)::s=>Ren n ks (look E t) v∧Gqf n ks E s
theorem Gqf.look {n:Nat} {ks:List (Nat×Nat)} {E E':Env} (h:Gqf n ks E E') (t:Nat):look E' t = .any∨Ren n ks (look E t) (look E' t):=by
 induction E' with
 | nil=>exact .inl rfl
 | cons p s ih =>
  obtain ⟨d,v⟩:=p
  by_cases hd:d=t
  ·subst hd;rw [Wt];exact .inr h.1
  ·rw [Xm v s hd];exact ih h.2

inductive RenO (n:Nat) (ks:List (Nat×Nat)):AObj→AObj→Prop
 | same (ty sz v:Nat) (es:List PV) (h:Ga6 n ⟨ty,sz,es,v⟩):RenO n ks ⟨ty,sz,es,v⟩ ⟨ty,sz,es,0⟩
 | agg (ty sz v:Nat) (cs ds:List PV) (h:Gqe n ks cs ds):RenO n ks ⟨ty,sz,[.agg cs],v⟩ ⟨ty,sz,[.agg ds],0⟩
 | one (ty sz v:Nat) (c e:PV) (h:Ren n ks c e) (hc:c.cells=[c]) (he:e.cells=[e]):RenO n ks ⟨ty,sz,[c],v⟩ ⟨ty,sz,[e],0⟩

def Gj9 (n:Nat) (ks:List (Nat×Nat)) (loc:List AObj):List (Nat×Nat)→List AObj→Prop
 | [],[]=>True
 | k::r,b::m=>(∃ a,loc[k.1]?=some a∧a.ver=k.2∧RenO n ks a b)∧Gj9 n ks loc r m
 | _,_=>False
theorem Gj9.get {n:Nat} {ks:List (Nat×Nat)} {loc:List AObj}:∀ {l:List (Nat×Nat)} {m:List AObj},Gj9 n ks loc l m→l.length=m.length∧∀ (i:Nat) (k:Nat×Nat) (b:AObj),l[i]?=some k→m[i]?=some b→∃ a,loc[k.1]?=some a∧a.ver=k.2∧RenO n ks a b
 | [],[],_=>⟨rfl,by simp⟩
 | [],_::_,h=>h.elim
 | _::_,[],h=>h.elim
 | k::r,b::m,h=>by
  obtain ⟨h1,h2⟩:=Gj9.get h.2
  refine ⟨by simp [h1],fun i a b' ha hb=>?_⟩
  match i,ha,hb with
  | 0,ha,hb=>simp at ha hb;subst ha;subst hb;exact h.1
  | i+1,ha,hb=>exact h2 i a b' (by simpa using ha) (by simpa using hb)

theorem RenO.cells {n:Nat} {ks:List (Nat×Nat)} {a b:AObj} (h:RenO n ks a b) (hw:∀ (i:Nat) (e:PV),a.es[i]?=some e→e.cells.length=a.sz) :
  b.sz=a.sz∧b.ty=a.ty∧b.ver=0∧b.es.length=a.es.length∧(∀ (i:Nat) (e:PV),b.es[i]?=some e→e.cells.length=b.sz)∧(∀ i j e,cellOf b.es i j=some e→∃ c,cellOf a.es i j=some c∧Ren n ks c e):=by
 cases h with
 | same ty sz v es h =>
  refine ⟨rfl,rfl,rfl,rfl,hw,fun i j e he=>⟨e,he,.low e ?_⟩⟩
  obtain ⟨x,hx,_⟩:=Yq he
  have hx':=he
  unfold cellOf at hx'
  rw [hx] at hx'
  exact Gba (h x (List.mem_of_getElem? hx)) hx'
 | agg ty sz v cs ds h =>
  obtain ⟨hl,hh⟩:=h.get
  refine ⟨rfl,rfl,rfl,rfl,fun i e he=>?_,fun i j e h'=>?_⟩
  ·match i,he with
   | 0,he =>
    simp at he
    subst he
    have:=hw 0 (.agg cs) rfl
    simp only [PV.cells] at this ⊢
    omega
   | i+1,he=>simp at he
  ·obtain ⟨rfl,h2⟩:=Xy h'
   clear h'
   simp only [PV.cells] at h2
   have hj:j<cs.length:=by
    have:=(List.getElem?_eq_some_iff.1 h2).1
    omega
   exact ⟨cs[j],by simp [cellOf,PV.cells,hj],hh j _ e (List.getElem?_eq_getElem hj) h2⟩
 | one ty sz v c e h hc he =>
  refine ⟨rfl,rfl,rfl,rfl,fun i e' he'=>?_,fun i j e' h'=>?_⟩
  ·match i,he' with
   | 0,he' =>
    simp at he'
    subst he'
    have:=hw 0 c rfl
    rw [he]
    rw [hc] at this
    exact this
   | i+1,he'=>simp at he'
  ·obtain ⟨rfl,h2⟩:=Xy h'
   clear h'
   rw [he] at h2
   match j,h2 with
   | 0,h2 =>
    simp at h2
    subst h2
    exact ⟨c,by simp [cellOf,hc],h⟩
   | j+1,h2=>simp at h2

variable {E E':Env} {low loc loc':List AObj} {N:Nat}

theorem Gn (hN:low.length=N) (ks:List (Nat×Nat)) (hd:(ks.map (·.1)).Nodup) (hE:Gqf N ks E E') (hO:Gj9 N ks loc ks loc'):Jn E low loc E' low loc':=by
 subst hN
 refine ⟨rfl,fun g nt a w hr=>?_⟩
 obtain ⟨hlen,hob⟩:=hO.get
 let g':Gh:=⟨g.F,fun r=>if r<low.length then g.β r else (ks[r-low.length]?).bind fun k=>g.β (low.length+k.1)⟩
 have hlo:∀ r,r<low.length→g'.β r=g.β r:=fun r h=>by simp [g',h]
 have hup:∀ (i:Nat) (k:Nat×Nat),ks[i]?=some k→g'.β (low.length+i)=g.β (low.length+k.1):=fun i k h=>by
  have hn:¬ (low.length+i<low.length):=by omega
  show (if low.length+i<low.length then g.β (low.length+i) else (ks[low.length+i-low.length]?).bind fun k=>g.β (low.length+k.1))=_
  rw [if_neg hn,Nat.add_sub_cancel_left,h]
  rfl
 have hst:GStep low.length g (low++loc) w g' (low++loc') w:=by
  refine ⟨rfl,rfl,rfl,Nat.le_refl _,fun b h=>h,fun _ _=>rfl,fun r a hr' ha=>?_⟩
  rw [List.getElem?_append_left hr'] at ha
  exact ⟨a,by rw [List.getElem?_append_left hr'];exact ha,Nat.le_refl _,fun _=>⟨rfl,rfl,hlo r hr'⟩⟩
 have obj:∀ (i:Nat) (k:Nat×Nat) (o:AObj),ks[i]?=some k→(low++loc)[low.length+k.1]?=some o→∃ o',(low++loc')[low.length+i]?=some o'∧o.ver=k.2∧RenO low.length ks o o':=fun i k o hi ho=>by
  have hil:i<loc'.length:=by
   have:=(List.getElem?_eq_some_iff.1 hi).1
   omega
  obtain ⟨a,h1,hv,h2⟩:=hob i k _ hi (List.getElem?_eq_getElem hil)
  rw [List.getElem?_append_right (by omega),Nat.add_sub_cancel_left,h1] at ho
  injection ho with ho
  subst ho
  exact ⟨_,by rw [List.getElem?_append_right (by omega),Nat.add_sub_cancel_left];exact List.getElem?_eq_getElem hil,hv,h2⟩
 have real:∀ (c e:PV),Ren low.length ks c e→∀ x:Value,VR g (low++loc) w c x→VR g' (low++loc') w e x:=by
  intro c e hce
  induction hce with
  | low c h=>exact fun x hx=>hx.step hst h
  | sl i k v off len h =>
   intro x hx
   cases hx with
   | imm h=>cases h
   | sl _ _ _ _ o _ ho hv h1 hx =>
    obtain ⟨o',h2,hvv,h3⟩:=obj i (k,v) o h ho
    obtain ⟨s1,_,s2,s3,_⟩:=h3.cells (hr.m.obj _ o ho).width
    refine .sl _ 0 off len o' x h2 (by omega) h1 fun e=>?_
    have:=hx hvv.symm
    unfold SL at this ⊢
    rw [s1,s3,hup i (k,v) h]
    exact this
  | ptr i k v q j h =>
   intro x hx
   cases hx with
   | imm h=>cases h
   | ptr _ _ _ _ o ad ho hv ha =>
    obtain ⟨o',h2,hvv,h3⟩:=obj i (k,v) o h ho
    obtain ⟨s1,_,s2,s3,_⟩:=h3.cells (hr.m.obj _ o ho).width
    refine .ptr _ 0 q j o' ad h2 (by omega) fun e=>?_
    have:=ha hvv.symm
    rw [s1,s3,hup i (k,v) h]
    exact this
  | agg cs ds hl hh ih =>
   intro x hx
   obtain ⟨xs,rfl,hlx,hvv⟩:=hx.agg_inv
   refine .agg ds xs (by omega) fun i c x hc hx=>?_
   have hi:i<cs.length:=by
    have:=(List.getElem?_eq_some_iff.1 hc).1
    omega
   exact ih i _ c (List.getElem?_eq_getElem hi) hc x (hvv i _ x (List.getElem?_eq_getElem hi) hx)
  | tup cs ds hl hh ih =>
   intro x hx
   obtain ⟨xs,rfl,hlx,hvv⟩:=hx.tup_inv
   refine .tup ds xs (by omega) fun i c x hc hx=>?_
   have hi:i<cs.length:=by
    have:=(List.getElem?_eq_some_iff.1 hc).1
    omega
   exact ih i _ c (List.getElem?_eq_getElem hi) hc x (hvv i _ x (List.getElem?_eq_getElem hi) hx)
  | any c=>exact fun x _=>.any x
 have hks:∀ r b C,¬ r<low.length→g'.β r=some (b,C)→∃ k:Nat×Nat,ks[r-low.length]?=some k∧g.β (low.length+k.1)=some (b,C):=fun r b C hr' h=>by
  simp only [g',if_neg hr'] at h
  exact Option.bind_eq_some_iff.1 h
 refine ⟨g',⟨⟨hr.m.fb,?_,?_,?_,by simp,?_⟩,⟨hr.e.defers,hr.e.size,fun t=>?_⟩⟩,hst⟩
 ·intro r r' b C C' h1 h2
  by_cases e1:r<low.length
  ·rw [hlo r e1] at h1
   by_cases e2:r'<low.length
   ·rw [hlo r' e2] at h2
    exact hr.m.inj _ _ _ _ _ h1 h2
   ·obtain ⟨k,_,hk⟩:=hks r' b C' e2 h2
    have:=hr.m.inj _ _ _ _ _ h1 hk
    omega
  ·obtain ⟨k,hk1,hk⟩:=hks r b C e1 h1
   by_cases e2:r'<low.length
   ·rw [hlo r' e2] at h2
    have:=hr.m.inj _ _ _ _ _ h2 hk
    omega
   ·obtain ⟨k',hk1',hk'⟩:=hks r' b C' e2 h2
    have hkk:=hr.m.inj _ _ _ _ _ hk hk'
    have hkk:k.1=k'.1:=by omega
    obtain ⟨l1,l2⟩:=List.getElem?_eq_some_iff.1 hk1
    obtain ⟨l1',l2'⟩:=List.getElem?_eq_some_iff.1 hk1'
    have:=(List.getElem_inj hd (h₀:=by simpa using l1) (h₁:=by simpa using l1')).1 (by rw [List.getElem_map,List.getElem_map,l2,l2'];exact hkk)
    omega
 ·intro r b C h1
  by_cases e1:r<low.length
  ·rw [List.length_append];omega
  ·obtain ⟨k,hk1,hk⟩:=hks r b C e1 h1
   have:=(List.getElem?_eq_some_iff.1 hk1).1
   rw [List.length_append];omega
 ·intro r o ho
  by_cases e1:r<low.length
  ·rw [List.getElem?_append_left e1] at ho
   have ho':(low++loc)[r]?=some o:=by rw [List.getElem?_append_left e1];exact ho
   obtain ⟨a1,a2,a3⟩:=hr.m.obj r o ho'
   have hl:=hr.m.lt r o e1 ho'
   refine ⟨a1,a2,?_⟩
   rw [hlo r e1]
   cases hbb:g.β r with
   | none=>rw [hbb] at a3;exact a3
   | some bc =>
    rw [hbb] at a3
    obtain ⟨q1,cells',q2,q3,q4,q5,q6⟩:=a3
    refine ⟨q1,cells',q2,q3,q4,q5,fun i j e hcc=>?_⟩
    obtain ⟨u,h1,h2,h3⟩:=q6 i j e hcc
    obtain ⟨x,hx,_⟩:=Yq hcc
    have hcc':=hcc
    unfold cellOf at hcc'
    rw [hx] at hcc'
    exact ⟨u,h1,h2,h3.step hst (Gba (hl x (List.mem_of_getElem? hx)) hcc')⟩
  ·have hil:r-low.length<loc'.length:=by
    have:=(List.getElem?_eq_some_iff.1 ho).1
    rw [List.length_append] at this
    omega
   rw [List.getElem?_append_right (by omega)] at ho
   have hik:ks[r-low.length]?=some (ks[r-low.length]'(by omega)):=List.getElem?_eq_getElem (by omega)
   obtain ⟨a,h1,_,h2⟩:=hob _ _ _ hik ho
   have ha:(low++loc)[low.length+(ks[r-low.length]'(by omega)).1]?=some a:=by rw [List.getElem?_append_right (by omega),Nat.add_sub_cancel_left];exact h1
   obtain ⟨a1,a2,a3⟩:=hr.m.obj _ a ha
   obtain ⟨s1,s2,s3,s4,s5,s6⟩:=h2.cells a2
   refine ⟨by omega,s5,?_⟩
   have hbr:=hup _ _ hik
   rw [show low.length+(r-low.length)=r by omega] at hbr
   rw [hbr]
   cases hbb:g.β (low.length+(ks[r-low.length]'(by omega)).1) with
   | none =>
    rw [hbb] at a3
    refine List.eq_nil_of_length_eq_zero ?_
    rw [s4,a3]
    rfl
   | some bc =>
    rw [hbb] at a3
    obtain ⟨q1,cells',q2,q3,q4,q5,q6⟩:=a3
    refine ⟨q1,cells',by rw [s2];exact q2,by rw [s1];exact q3,q4,by rw [s4];exact q5,fun i j e hcc=>?_⟩
    obtain ⟨c,hc1,hc2⟩:=s6 i j e hcc
    obtain ⟨u,u1,u2,u3⟩:=q6 i j c hc1
    exact ⟨u,by rw [s1];exact u1,u2,real c e hc2 u u3⟩
 ·intro r b hrn hb
  rw [List.getElem?_append_left hrn] at hb
  exact hr.m.lt r b hrn (by rw [List.getElem?_append_left hrn];exact hb)
 ·rcases hE.look t with h | h
  ·rw [h];exact .any _
  ·exact real _ _ h _ (hr.e.at_ t)
end Go.Aml
