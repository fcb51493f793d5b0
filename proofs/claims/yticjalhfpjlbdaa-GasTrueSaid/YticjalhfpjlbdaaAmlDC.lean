/- The abstract memory logic, part DC: functions that change rows and structs of their callers; calls that look at rows and yield new ones; nil fields that become rows. -/
import Derived.Test.YticjalhfpjlbdaaAmlDB
namespace Go.Aml
open Go

/-! ### several objects of the callers' -/

def Ko:List AObj→List (Nat×AObj)→List AObj
 | low,[]=>low
 | low,(q,o)::ps=>Ko (low.set q o) ps
def Bor (low:List AObj) (qs:List Nat):Prop:=qs.Nodup∧∀ q ∈ qs,q<low.length

theorem Yc:∀ (ps:List (Nat×AObj)) (low:List AObj),(Ko low ps).length=low.length
 | [],_=>rfl
 | (q,o)::ps,low=>by rw [Ko,Yc ps];simp
theorem Ge2:∀ (ps:List (Nat×AObj)) (low:List AObj) (r:Nat),r ∉ ps.map (·.1)→(Ko low ps)[r]?=low[r]?
 | [],_,_,_=>rfl
 | (q,o)::ps,low,r,h=>by
  simp only [List.map_cons,List.mem_cons,not_or] at h
  rw [Ko,Ge2 ps _ r h.2,List.getElem?_set_ne (Ne.symm h.1)]
theorem Gg4:∀ (ps:List (Nat×AObj)) (low:List AObj),(ps.map (·.1)).Nodup→(∀ q ∈ ps.map (·.1),q<low.length)→∀ (i q:Nat) (o:AObj),ps[i]?=some (q,o)→(Ko low ps)[q]?=some o
 | [],_,_,_,i,q,o,h=>by simp at h
 | (q0,o0)::ps,low,hn,hl,i,q,o,h=>by
  simp only [List.map_cons,List.nodup_cons,List.mem_cons,forall_eq_or_imp] at hn hl
  match i,h with
  | 0,h =>
   simp at h
   obtain ⟨rfl,rfl⟩:=h
   rw [Ko,Ge2 ps _ _ hn.1,List.getElem?_set_self hl.1]
  | i+1,h=>exact Gg4 ps _ hn.2 (by simpa using hl.2) i q o (by simpa using h)
theorem Gnj {l:List AObj} {a b:Nat} {x y:AObj} (h:a≠b):(l.set a x).set b y=(l.set b y).set a x:=List.set_comm x y h
theorem Gj2:∀ (ps:List (Nat×AObj)) (low:List AObj) (q:Nat) (o:AObj),q ∉ ps.map (·.1)→(Ko low ps).set q o=Ko (low.set q o) ps
 | [],_,_,_,_=>rfl
 | (q0,o0)::ps,low,q,o,h=>by
  simp only [List.map_cons,List.mem_cons,not_or] at h
  rw [Ko,Ko,Gj2 ps _ q o h.2,Gnj (Ne.symm h.1)]
theorem Gg5:∀ (ps:List (Nat×AObj)) (low:List AObj),(ps.map (·.1)).Nodup→∀ (i q:Nat) (o o':AObj),ps[i]?=some (q,o)→(Ko low ps).set q o'=Ko low (ps.set i (q,o'))
 | [],_,_,i,q,o,o',h=>by simp at h
 | (q0,o0)::ps,low,hn,i,q,o,o',h=>by
  simp only [List.map_cons,List.nodup_cons] at hn
  match i,h with
  | 0,h =>
   simp at h
   obtain ⟨rfl,rfl⟩:=h
   rw [Ko,Gj2 ps _ _ _ hn.1,List.set_set]
   rfl
  | i+1,h =>
   rw [Ko,Gg5 ps _ hn.2 i q o o' (by simpa using h)]
   rfl
theorem Gh9:∀ (ps:List (Nat×AObj)) (low:List AObj),(∀ (i q:Nat) (o:AObj),ps[i]?=some (q,o)→low[q]?=some o)→low=Ko low ps
 | [],_,_=>rfl
 | (q0,o0)::ps,low,h=>by
  have h0:=h 0 q0 o0 rfl
  have e:low.set q0 o0=low:=by
   obtain ⟨_,rfl⟩:=List.getElem?_eq_some_iff.1 h0
   simp
  rw [Ko,e]
  exact Gh9 ps low fun i q o hi=>h (i+1) q o (by simpa using hi)

section
variable {P:Program} {nt:Nat} {Q:Xt} {E E':Env} {low loc loc1 low1 low0:List AObj} {d:Option Nat} {ty:TypeId} {pos:String} {aft:Array Edge} {ps ps':List (Nat×AObj)} {qs:List Nat} {q i N K:Nat} {o o':AObj}

theorem Uu (hB:Bor low0 qs) (hq:ps.map (·.1)=qs) (i:Nat) (h:ps[i]?=some (q,o)):Gbq (Ko low0 ps) loc q o :=
 Gon (Gg4 ps low0 (hq ▸ hB.1) (fun r hr=>hB.2 r (hq ▸ hr)) i q o h)
theorem Vu (hB:Bor low0 qs) (hq:ps.map (·.1)=qs) (i:Nat) (h:ps[i]?=some (q,o)):(Ko low0 ps++loc)[q]?=some o:=Uu hB hq i h
theorem Bor.lt (hB:Bor low0 qs) (i:Nat) (h:qs[i]?=some q):q<low0.length:=hB.2 q (List.mem_of_getElem? h)
theorem Bor.ltN (hB:Bor low0 qs) (hN:low0.length=N) (i:Nat) (h:qs[i]?=some q):q<N:=hN ▸ hB.2 q (List.mem_of_getElem? h)
theorem Gee (hB:Bor low0 qs) (hq:ps.map (·.1)=qs) (i:Nat) (h:ps[i]?=some (q,o)) (hlt:Ga6 low0.length o') (hps:ps.set i (q,o')=ps'):Gi2 (Ko low0 ps) loc q o' (Ko low0 ps') loc:=by
 have hlen:q<(Ko low0 ps).length:=by
  rw [Yc]
  exact hB.2 q (hq ▸ List.mem_map.2 ⟨(q,o),List.mem_of_getElem? h,rfl⟩)
 have:=Gom (loc:=loc) hlen (o':=o') (by rw [Yc];exact hlt)
 rw [Gg5 ps low0 (hq ▸ hB.1) i q o o' h,hps] at this
 exact this
theorem Uq {es:List PV} {t s v:Nat} (hN:low0.length=N) (h:Gld N es):Ga6 low0.length ⟨t,s,es,v⟩:=Gp (hN ▸ h)

theorem Zj (hn:(ps.map (·.1)).Nodup) (h:∀ (i q:Nat) (o:AObj),ps[i]?=some (q,o)→low[q]?=some o):low=Ko low ps∧Bor low (ps.map (·.1)):=by
 refine ⟨Gh9 ps low h,hn,fun q hq=>?_⟩
 obtain ⟨⟨q',o⟩,hm,rfl⟩:=List.mem_map.1 hq
 obtain ⟨i,hi,he⟩:=List.getElem_of_mem hm
 exact (List.getElem?_eq_some_iff.1 (h i q' o (by rw [List.getElem?_eq_getElem hi,he]))).1
theorem Ghx:∀ (i q:Nat) (o:AObj),([]:List (Nat×AObj))[i]?=some (q,o)→low[q]?=some o:=fun i q o h=>by simp at h
theorem Gc8 {q0:Nat} {o0:AObj} (h0:low[q0]?=some o0) (h:∀ (i q:Nat) (o:AObj),ps[i]?=some (q,o)→low[q]?=some o):∀ (i q:Nat) (o:AObj),((q0,o0)::ps)[i]?=some (q,o)→low[q]?=some o
 | 0,q,o,h'=>by simp at h';obtain ⟨rfl,rfl⟩:=h';exact h0
 | i+1,q,o,h'=>h i q o (by simpa using h')
theorem Yv {f:FuncId} {args:List PV} {Qc:PV→List AObj→Prop} (e:low=low1) (h:Sh P f args low1 Qc):Sh P f args low Qc:=e ▸ h

def Gle (low loc:List AObj) (ps:List (Nat×AObj)) (low1 loc1:List AObj):Prop :=
 Ko (low++loc) ps=low1++loc1∧low1.length=low.length∧Goh low low1
theorem So:Gle low loc [] low loc:=⟨rfl,rfl,Geh low⟩
theorem Yo {loc2:List AObj} (hN:low.length=N) (k:Nat) (h:loc.set k o=loc2) (hs:Gle low loc2 ps low1 loc1):Gle low loc ((N+k,o)::ps) low1 loc1:=by
 subst hN;subst h
 obtain ⟨h1,h2,h3⟩:=hs
 refine ⟨?_,h2,h3⟩
 rw [Ko,Gp9]
 exact h1
theorem Uy {ps0 ps0':List (Nat×AObj)} {o0:AObj} (hB:Bor low0 qs) (hq:ps0.map (·.1)=qs) (i:Nat) (h:ps0[i]?=some (q,o0)) (hlt:Ga6 low0.length o) (hps:ps0.set i (q,o)=ps0') (hs:Gle (Ko low0 ps0') loc ps low1 loc1):Gle (Ko low0 ps0) loc ((q,o)::ps) low1 loc1:=by
 obtain ⟨h1,h2,h3⟩:=hs
 have hqm:q ∈ ps0.map (·.1):=List.mem_map.2 ⟨(q,o0),List.mem_of_getElem? h,rfl⟩
 have hql:q<(Ko low0 ps0).length:=by rw [Yc];exact hB.2 q (hq ▸ hqm)
 have e:(Ko low0 ps0).set q o=Ko low0 ps0':=by rw [Gg5 ps0 low0 (hq ▸ hB.1) i q o0 o h,hps]
 refine ⟨?_,by rw [h2,Yc,Yc],fun r a hr=>?_⟩
 ·rw [Ko,List.set_append_left _ _ hql,e]
  exact h1
 ·rw [Yc]
  rcases h3 r a hr with h4 | h4
  ·rw [← e] at h4
   by_cases er:r=q
   ·subst er
    rw [List.getElem?_set_self hql] at h4
    injection h4 with h4
    subst h4
    exact .inr hlt
   ·rw [List.getElem?_set_ne (Ne.symm er)] at h4
    exact .inl h4
  ·rw [Yc] at h4
   exact .inr h4
theorem Gdw {ff:Nat} {cs ds:List PV} {fo:Operand} {as:List Operand} {ci:Array TypeId} {r:PV} {os loc2:List AObj} (hf:PE E fo = .fn ff cs ds) (hcall:∀ args w,(callFunc ff args).run P w = .ok (.enter ff args) w)
  (hc:Sh P ff (cs++as.map (PE E)++ds) (low++loc) fun r' low'=>r'=r∧low'=Ko (low++loc) ps++os) (hs:Gle low loc ps low1 loc1) (h2:loc1++os=loc2) :
  VEf P ⟨d,.call { callee:=.value fo,args:=as.toArray,argTypes:=ci },ty,pos,aft,none⟩ E low loc fun v1 l1 l2=>v1=r∧l1=low1∧l2=loc2 :=
 Ggu hf hcall hc (by
  rintro r' low' ⟨rfl,rfl⟩
  obtain ⟨e1,e2,e3⟩:=hs
  exact ⟨low1,loc2,by rw [e1,← h2,List.append_assoc],e2,e3,rfl,rfl,rfl⟩)

theorem Sa {ff:Nat} {cs ds:List PV} {fo:Operand} {as:List Operand} {ci:Array TypeId} {r:PV} (hf:PE E fo = .fn ff cs ds) (hcall:∀ args w,(callFunc ff args).run P w = .ok (.enter ff args) w)
  (hc:Sh P ff (cs++as.map (PE E)++ds) (low++loc) fun r' low'=>r'=r∧low'=Ko (low++loc) ps++[]) (hs:Gle low loc ps low1 loc1) :
  VEf P ⟨d,.call { callee:=.value fo,args:=as.toArray,argTypes:=ci },ty,pos,aft,none⟩ E low loc fun v1 l1 l2=>v1=r∧l1=low1∧l2=loc1 :=
 Gdw hf hcall hc hs (List.append_nil _)

theorem Jx (hN:low0.length=N):(Ko low0 ps).length=N:=(Yc ps low0).trans hN

theorem Gbo {a b:Nat} (h:Nat.beq a b=false):N+a≠N+b:=fun e=>by
 have:a=b:=by omega
 subst this
 rw [Nat.beq_refl] at h
 cases h
theorem Gdd {b:Nat} (h:q<N):q≠N+b:=by omega
theorem Bor.ne (hB:Bor low0 qs) (i j:Nat) {a b:Nat} (hi:qs[i]?=some a) (hj:qs[j]?=some b) (hij:Nat.beq i j=false):a≠b:=by
 intro e
 subst e
 obtain ⟨h1,h2⟩:=List.getElem?_eq_some_iff.1 hi
 obtain ⟨h3,h4⟩:=List.getElem?_eq_some_iff.1 hj
 have:=(List.getElem_inj hB.1 (h₀:=h1) (h₁:=h3)).1 (h2.trans h4.symm)
 subst this
 rw [Nat.beq_refl] at hij
 cases hij
theorem nd0:([]:List Nat).Nodup:=List.nodup_nil
theorem nd1 {a:Nat} {l:List Nat} (h:∀ b ∈ l,a≠b) (hl:l.Nodup):(a::l).Nodup:=List.nodup_cons.2 ⟨fun hm=>h a hm rfl,hl⟩
theorem na0 {a:Nat}:∀ b ∈ ([]:List Nat),a≠b:=fun _ h=>by cases h
theorem na1 {a c:Nat} {l:List Nat} (h:a≠c) (hl:∀ b ∈ l,a≠b):∀ b ∈ c::l,a≠b:=fun b hb=>by
 rcases List.mem_cons.1 hb with rfl | hb
 ·exact h
 ·exact hl b hb

/-! ### a callee that looks at rows, and yields new ones -/

inductive ScR (B:Nat):PV→PV→Prop
 | sc (c:PV) (h:Sc c):ScR B c c
 | sl (q v off len:Nat):ScR B (.sl q v off len) (.sl (B+q) v off len)
 | agg (cs es:List PV) (hl:cs.length=es.length) (h:∀ (i:Nat) (c e:PV),cs[i]?=some c→es[i]?=some e→ScR B c e):ScR B (.agg cs) (.agg es)
 | tup (cs es:List PV) (hl:cs.length=es.length) (h:∀ (i:Nat) (c e:PV),cs[i]?=some c→es[i]?=some e→ScR B c e):ScR B (.tup cs) (.tup es)
def Gqa (B:Nat):List PV→List PV→Prop
 | [],[]=>True
 | c::cs,e::es=>ScR B c e∧Gqa B cs es
 | _,_=>False
theorem Gqa.get {B:Nat} {cs es:List PV} (h:Gqa B cs es):cs.length=es.length∧∀ (i:Nat) (c e:PV),cs[i]?=some c→es[i]?=some e→ScR B c e:=by
 induction cs generalizing es with
 | nil=>cases es with
  | nil=>exact ⟨rfl,by simp⟩
  | cons=>exact h.elim
 | cons c cs ih=>cases es with
  | nil=>exact h.elim
  | cons e es =>
   obtain ⟨h1,h2⟩:=ih h.2
   refine ⟨by simp [h1],fun i a b ha hb=>?_⟩
   match i,ha,hb with
   | 0,ha,hb=>simp at ha hb;subst ha;subst hb;exact h.1
   | i+1,ha,hb=>exact h2 i a b (by simpa using ha) (by simpa using hb)
theorem Gf8 {B:Nat} {c:PV} {cs es:List PV} (hc:c = .tup cs) (h:Gqa B cs es):ScR B c (.tup es):=by subst hc;exact .tup cs es h.get.1 h.get.2
theorem Gip {B:Nat} {c e:PV} (hc:c=e) (h:Sc e):ScR B c e:=by subst hc;exact .sc c h
theorem Gfi {B q m v off len:Nat} {c:PV} (hc:c = .sl q v off len) (hm:B+q=m):ScR B c (.sl m v off len):=by subst hc;subst hm;exact .sl q v off len
def Gor:List AObj→Prop
 | []=>True
 | o::os=>(∀ e ∈ o.es,Sc e)∧Gor os
theorem Gor.get:∀ {os:List AObj},Gor os→∀ o ∈ os,∀ e ∈ o.es,Sc e
 | [],_,o,h=>by cases h
 | a::os,h,o,hm=>by
  rcases List.mem_cons.1 hm with rfl | hm
  ·exact h.1
  ·exact Gor.get h.2 o hm
theorem Gfj {α:Type} {f:α→PV} {l:List α} (h:∀ x,Sc (f x)):∀ e ∈ l.map f,Sc e:=fun e he=>by
 obtain ⟨x,_,rfl⟩:=List.mem_map.1 he
 exact h x
theorem Sc.cells {e c:PV} (h:Sc e) {j:Nat} (hc:e.cells[j]?=some c):Sc c:=by
 cases h with
 | agg cs hh=>exact hh c (List.mem_of_getElem? hc)
 | _=>match j,hc with
  | 0,hc=>simp [PV.cells] at hc;subst hc;first | exact .bool _ | exact .int _ _ | exact .str _ | exact .nilp | exact .nils | exact .nilf | exact .any | (exact .tup _ ‹_›)
  | j+1,hc=>simp [PV.cells] at hc

theorem Gb3 {f:Nat} {fo:Operand} {as:List Operand} {ci:Array TypeId} {vs:List PV} {r r2:PV} {os loc2:List AObj} (hN:low.length=N) (hK:loc.length=K) (hf:PE E fo = .fn f [] []) (hcall:∀ args w,(callFunc f args).run P w = .ok (.enter f args) w)
  (hvw:Gjw low loc (as.map (PE E)) vs) (hc:Sh P f vs [] fun r' l'=>r'=r∧l'=[]++os) (hsc:ScR (N+K) r r2) (hos:Gor os) (h2:loc++os=loc2) :
  VEf P ⟨d,.call { callee:=.value fo,args:=as.toArray,argTypes:=ci },ty,pos,aft,none⟩ E low loc fun v1 low1 loc1=>v1=r2∧low1=low∧loc1=loc2:=by
 subst hN;subst hK;subst h2
 intro g nt a w hr Kr Qr hK
 obtain ⟨xs,hrun,hargs⟩:=Gfm (d:=d) (ty:=ty) (pos:=pos) (aft:=aft) (gd:=none) (ci:=ci) hr.e hf hcall
 unfold Oper.wp
 rw [hrun,Oper.upon_enter]
 obtain ⟨hl1,hl2⟩:=hvw.get
 simp only [List.nil_append,List.append_nil] at hargs
 have hm0:RelM ⟨fun b=>b<w.heap.size,fun _=>none⟩ 0 [] w:=⟨fun _ h=>h,(by intro _ _ _ _ _ h;cases h),(by intro _ _ _ h;cases h),(by intro r o h;simp at h),Nat.le_refl _,(by intro r o h;omega)⟩
 have ha0:Gme ⟨fun b=>b<w.heap.size,fun _=>none⟩ [] w vs xs:=by
  refine ⟨by rw [← hl1,hargs.1],fun i c x hcc hx=>.imm ?_⟩
  have hi:i<(as.map (PE E)).length:=by
   have:=(List.getElem?_eq_some_iff.1 hcc).1
   omega
  exact (hl2 i _ c (List.getElem?_eq_getElem hi) hcc).real hr.m (hargs.2 i _ x (List.getElem?_eq_getElem hi) hx)
 refine (hc _ xs w hm0 ha0).mono ?_
 rintro e w' ⟨x,g',r',low',rfl,⟨hr',hl'⟩,_,hm',hvr,hst⟩
 rw [List.nil_append] at hl'
 rw [hl'] at hm' hvr hst
 rw [hr'] at hvr
 clear hr' hl'
 have hkeep:∀ b,b<w.heap.size→w'.heap[b]?=w.heap[b]?:=hst.keep
 have hold:∀ b,b<w.heap.size→g'.F b:=hst.F
 let g2:Gh:=⟨g.F,fun r=>if r<low.length+loc.length then g.β r else g'.β (r-(low.length+loc.length))⟩
 have b1:∀ r,r<low.length+loc.length→g2.β r=g.β r:=fun r h=>if_pos h
 have b2:∀ q,g2.β (low.length+loc.length+q)=g'.β q:=fun q=>by
  show (if low.length+loc.length+q<low.length+loc.length then _ else g'.β (low.length+loc.length+q-(low.length+loc.length)))=_
  rw [if_neg (by omega),Nat.add_sub_cancel_left]
 have hs:GStep (low++loc).length g (low++loc) w g2 (low++(loc++os)) w':=by
  refine ⟨hst.os,hst.tape,hst.output,hst.size,fun _ h=>h,fun b hb=>hkeep b (hr.m.fb b hb),fun r o hr' ho=>⟨o,?_,Nat.le_refl _,fun _=>⟨rfl,rfl,?_⟩⟩⟩
  ·rw [← List.append_assoc,List.getElem?_append_left hr'];exact ho
  ·rw [List.length_append] at hr';exact b1 r hr'
 have hnew:∀ q,(low++(loc++os))[low.length+loc.length+q]?=os[q]?:=fun q=>by
  rw [← List.append_assoc,List.getElem?_append_right (by rw [List.length_append];omega),List.length_append,Nat.add_sub_cancel_left]
 have hbig:∀ q b C,g'.β q=some (b,C)→¬ b<w.heap.size:=fun q b C hb hlt=>by
  have hq:=hm'.dom q b C hb
  have:=(hm'.obj q _ (List.getElem?_eq_getElem hq)).mem
  rw [hb] at this
  exact this.1 (hold b hlt)
 have real:∀ (c e:PV),ScR (low.length+loc.length) c e→∀ x:Value,VR g' os w' c x→VR g2 (low++(loc++os)) w' e x:=by
  intro c e hce
  induction hce with
  | sc c h=>exact fun x hx=>h.move hx
  | sl q v off len =>
   intro x hx
   cases hx with
   | imm h=>cases h
   | sl _ _ _ _ o _ ho hv h1 hx =>
    refine .sl _ v off len o x ((hnew q).trans ho) hv h1 fun e=>?_
    have:=hx e
    unfold SL at this ⊢
    rw [b2 q]
    exact this
  | agg cs es hl hh ih =>
   intro x hx
   obtain ⟨xs,rfl,hlx,hvv⟩:=hx.agg_inv
   refine .agg es xs (by omega) fun i c x hc hx=>?_
   have hi:i<cs.length:=by
    have:=(List.getElem?_eq_some_iff.1 hc).1
    omega
   exact ih i _ c (List.getElem?_eq_getElem hi) hc x (hvv i _ x (List.getElem?_eq_getElem hi) hx)
  | tup cs es hl hh ih =>
   intro x hx
   obtain ⟨xs,rfl,hlx,hvv⟩:=hx.tup_inv
   refine .tup es xs (by omega) fun i c x hc hx=>?_
   have hi:i<cs.length:=by
    have:=(List.getElem?_eq_some_iff.1 hc).1
    omega
   exact ih i _ c (List.getElem?_eq_getElem hi) hc x (hvv i _ x (List.getElem?_eq_getElem hi) hx)
 have hcase:∀ r o,(low++(loc++os))[r]?=some o→(r<low.length+loc.length∧(low++loc)[r]?=some o)∨(∃ q,r=low.length+loc.length+q∧os[q]?=some o):=fun r o ho=>by
  by_cases h:r<low.length+loc.length
  ·refine .inl ⟨h,?_⟩
   rw [← List.append_assoc,List.getElem?_append_left (by rw [List.length_append];exact h)] at ho
   exact ho
  ·refine .inr ⟨r-(low.length+loc.length),by omega,?_⟩
   rw [← hnew,show low.length+loc.length+(r-(low.length+loc.length))=r by omega]
   exact ho
 refine hK x w' g2 r2 low (loc++os) ⟨rfl,rfl,rfl⟩ rfl (real _ _ hsc x hvr) ⟨fun b hb=>Nat.lt_of_lt_of_le (hr.m.fb b hb) hst.size,?_,?_,?_,by simp,?_⟩ hs
 ·intro r r' b C C' h1 h2
  by_cases e1:r<low.length+loc.length
  ·rw [b1 r e1] at h1
   by_cases e2:r'<low.length+loc.length
   ·rw [b1 r' e2] at h2
    exact hr.m.inj _ _ _ _ _ h1 h2
   ·have:=b2 (r'-(low.length+loc.length))
    rw [show low.length+loc.length+(r'-(low.length+loc.length))=r' by omega,h2] at this
    exact absurd (hr.m.beta_lt h1) (hbig _ _ _ this.symm)
  ·have k1:=b2 (r-(low.length+loc.length))
   rw [show low.length+loc.length+(r-(low.length+loc.length))=r by omega,h1] at k1
   by_cases e2:r'<low.length+loc.length
   ·rw [b1 r' e2] at h2
    exact absurd (hr.m.beta_lt h2) (hbig _ _ _ k1.symm)
   ·have k2:=b2 (r'-(low.length+loc.length))
    rw [show low.length+loc.length+(r'-(low.length+loc.length))=r' by omega,h2] at k2
    have:=hm'.inj _ _ _ _ _ k1.symm k2.symm
    omega
 ·intro r b C h1
  by_cases e1:r<low.length+loc.length
  ·simp;omega
  ·have k1:=b2 (r-(low.length+loc.length))
   rw [show low.length+loc.length+(r-(low.length+loc.length))=r by omega,h1] at k1
   have:=hm'.dom _ _ _ k1.symm
   simp;omega
 ·intro r o ho
  rcases hcase r o ho with ⟨e1,ho'⟩ | ⟨q,rfl,ho'⟩
  ·obtain ⟨a1,a2,a3⟩:=hr.m.obj r o ho'
   refine ⟨a1,a2,?_⟩
   rw [b1 r e1]
   cases hb:g.β r with
   | none=>rw [hb] at a3;exact a3
   | some bc =>
    obtain ⟨b,C⟩:=bc
    rw [hb] at a3
    obtain ⟨q1,cells',q2,q3,q4,q5,q6⟩:=a3
    exact ⟨q1,cells',(hkeep b (Gcz q2)).trans q2,q3,q4,q5,fun i j c hcc=>let ⟨u,h1,h2,h3⟩:=q6 i j c hcc;⟨u,h1,h2,h3.step' hs⟩⟩
  ·obtain ⟨a1,a2,a3⟩:=hm'.obj q o ho'
   refine ⟨a1,a2,?_⟩
   rw [b2 q]
   cases hb:g'.β q with
   | none=>rw [hb] at a3;exact a3
   | some bc =>
    obtain ⟨b,C⟩:=bc
    rw [hb] at a3
    obtain ⟨q1,cells',q2,q3,q4,q5,q6⟩:=a3
    refine ⟨fun hF=>hbig q b C hb (hr.m.fb b hF),cells',q2,q3,q4,q5,fun i j c hcc=>?_⟩
    obtain ⟨u,h1,h2,h3⟩:=q6 i j c hcc
    refine ⟨u,h1,h2,?_⟩
    obtain ⟨e,he,_⟩:=Yq hcc
    have hcj:e.cells[j]?=some c:=by
     unfold cellOf at hcc
     rw [he] at hcc
     exact hcc
    exact ((hos.get o (List.mem_of_getElem? ho') e (List.mem_of_getElem? he)).cells hcj).move h3
 ·intro r o hrn ho
  rw [List.getElem?_append_left hrn] at ho
  exact hr.m.lt r o hrn (by rw [List.getElem?_append_left hrn];exact ho)

/-! ### nil fields that become rows of the function's own -/

inductive Nn (q:Nat):PV→PV→Prop
 | same (c:PV):Nn q c c
 | nils:Nn q .nils (.sl q 0 0 0)
 | z0:Nn q .z0 (.sl q 0 0 0)
 | agg (cs es:List PV) (hl:cs.length=es.length) (h:∀ (i:Nat) (c e:PV),cs[i]?=some c→es[i]?=some e→Nn q c e):Nn q (.agg cs) (.agg es)
 | any (c:PV):Nn q c .any
def NnL (q:Nat):List PV→List PV→Prop
 | [],[]=>True
 | c::cs,e::es=>Nn q c e∧NnL q cs es
 | _,_=>False
theorem NnL.get {q:Nat} {cs es:List PV} (h:NnL q cs es):cs.length=es.length∧∀ (i:Nat) (c e:PV),cs[i]?=some c→es[i]?=some e→Nn q c e:=by
 induction cs generalizing es with
 | nil=>cases es with
  | nil=>exact ⟨rfl,by simp⟩
  | cons=>exact h.elim
 | cons c cs ih=>cases es with
  | nil=>exact h.elim
  | cons e es =>
   obtain ⟨h1,h2⟩:=ih h.2
   refine ⟨by simp [h1],fun i a b ha hb=>?_⟩
   match i,ha,hb with
   | 0,ha,hb=>simp at ha hb;subst ha;subst hb;exact h.1
   | i+1,ha,hb=>exact h2 i a b (by simpa using ha) (by simpa using hb)
theorem Kv {q:Nat} {c e:PV} (hc:c=e):Nn q c e:=by subst hc;exact .same c
theorem Gcm {q:Nat} {c:PV} (hc:c = .nils):Nn q c (.sl q 0 0 0):=by subst hc;exact .nils
def NnE (q:Nat) (E:Env):Env→Prop
 | []=>True
 | (t,v)::s=>Nn q (look E t) v∧NnE q E s
theorem NnE.look {q:Nat} {E E':Env} (h:NnE q E E') (t:Nat):look E' t = .any∨Nn q (look E t) (look E' t):=by
 induction E' with
 | nil=>exact .inl rfl
 | cons p s ih =>
  obtain ⟨d,v⟩:=p
  by_cases hd:d=t
  ·subst hd;rw [Wt];exact .inr h.1
  ·rw [Xm v s hd];exact ih h.2
inductive NnO (q:Nat):AObj→AObj→Prop
 | same (a:AObj):NnO q a a
 | agg (ty sz v:Nat) (cs es:List PV) (h:NnL q cs es):NnO q ⟨ty,sz,[.agg cs],v⟩ ⟨ty,sz,[.agg es],v⟩
 | one (ty sz v:Nat) (c e:PV) (h:Nn q c e) (hc:c.cells=[c]) (he:e.cells=[e]):NnO q ⟨ty,sz,[c],v⟩ ⟨ty,sz,[e],v⟩
def Gqb (q:Nat):List AObj→List AObj→Prop
 | [],[]=>True
 | a::l,b::m=>NnO q a b∧Gqb q l m
 | _,_=>False
theorem Gqb.get {q:Nat} {l m:List AObj} (h:Gqb q l m):l.length=m.length∧∀ (i:Nat) (a b:AObj),l[i]?=some a→m[i]?=some b→NnO q a b:=by
 induction l generalizing m with
 | nil=>cases m with
  | nil=>exact ⟨rfl,by simp⟩
  | cons=>exact h.elim
 | cons c cs ih=>cases m with
  | nil=>exact h.elim
  | cons e es =>
   obtain ⟨h1,h2⟩:=ih h.2
   refine ⟨by simp [h1],fun i a b ha hb=>?_⟩
   match i,ha,hb with
   | 0,ha,hb=>simp at ha hb;subst ha;subst hb;exact h.1
   | i+1,ha,hb=>exact h2 i a b (by simpa using ha) (by simpa using hb)
theorem NnO.cells {q:Nat} {a b:AObj} (h:NnO q a b) (hw:∀ (i:Nat) (e:PV),a.es[i]?=some e→e.cells.length=a.sz) :
  b.sz=a.sz∧b.ty=a.ty∧b.ver=a.ver∧b.es.length=a.es.length∧(∀ (i:Nat) (e:PV),b.es[i]?=some e→e.cells.length=b.sz)∧(∀ i j e,cellOf b.es i j=some e→∃ c,cellOf a.es i j=some c∧Nn q c e):=by
 cases h with
 | same=>exact ⟨rfl,rfl,rfl,rfl,hw,fun i j e hx=>⟨e,hx,.same e⟩⟩
 | agg ty sz v cs ds h =>
  obtain ⟨hl,hh⟩:=h.get
  refine ⟨rfl,rfl,rfl,rfl,fun i e he=>?_,fun i j e h'=>?_⟩
  ·match i,he with
   | 0,he =>
    simp at he
    subst he
    have:=hw 0 (.agg cs) rfl
    simp only [PV.cells] at this ⊢
    omega
   | i+1,he=>simp at he
  ·obtain ⟨rfl,h2⟩:=Xy h'
   clear h'
   simp only [PV.cells] at h2
   have hj:j<cs.length:=by
    have:=(List.getElem?_eq_some_iff.1 h2).1
    omega
   exact ⟨cs[j],by simp [cellOf,PV.cells,hj],hh j _ e (List.getElem?_eq_getElem hj) h2⟩
 | one ty sz v c e h hc he =>
  refine ⟨rfl,rfl,rfl,rfl,fun i e' he'=>?_,fun i j e' h'=>?_⟩
  ·match i,he' with
   | 0,he' =>
    simp at he'
    subst he'
    have:=hw 0 c rfl
    rw [he]
    rw [hc] at this
    exact this
   | i+1,he'=>simp at he'
  ·obtain ⟨rfl,h2⟩:=Xy h'
   clear h'
   rw [he] at h2
   match j,h2 with
   | 0,h2 =>
    simp at h2
    subst h2
    exact ⟨c,by simp [cellOf,hc],h⟩
   | j+1,h2=>simp at h2

theorem Gab (hN:low.length=N) (hK:loc.length=K) (elem sz:Nat) (hp:0<sz) (hE:NnE (N+K) E E') (hO:Gqb (N+K) loc loc1):Jn E low loc E' low (loc1++[⟨elem,sz,[],0⟩]):=by
 subst hN;subst hK
 refine ⟨rfl,fun g nt a w hr=>?_⟩
 obtain ⟨hlen,hob⟩:=hO.get
 obtain ⟨hs0,hm0⟩:=hr.m.new0 elem sz hp
 generalize hg:g.push (low++loc).length none=g' at hs0 hm0
 have hβ:g'.β (low.length+loc.length)=none:=by rw [← hg,← List.length_append];exact Gh.push_same _ _ _
 have hF:∀ b,g.F b→g'.F b:=hs0.F
 -- the memory,its nil fields turned
 have hget:∀ r,r<low.length→(low++(loc1++[⟨elem,sz,[],0⟩]))[r]?=(low++loc++[⟨elem,sz,[],0⟩])[r]?:=fun r hr'=>by
  rw [List.getElem?_append_left hr',List.append_assoc,List.getElem?_append_left hr']
 have hlast:(low++(loc1++[⟨elem,sz,[],0⟩]))[low.length+loc.length]?=some ⟨elem,sz,[],0⟩:=by
  rw [List.getElem?_append_right (by omega),Nat.add_sub_cancel_left,List.getElem?_append_right (by omega),hlen,Nat.sub_self]
  rfl
 have hmid:∀ i,i<loc.length→(low++(loc1++[⟨elem,sz,[],0⟩]))[low.length+i]?=loc1[i]?:=fun i hi=>by
  rw [List.getElem?_append_right (by omega),Nat.add_sub_cancel_left,List.getElem?_append_left (by omega)]
 have hst:GStep (low++loc).length g' (low++loc++[⟨elem,sz,[],0⟩]) w g' (low++(loc1++[⟨elem,sz,[],0⟩])) w:=by
  refine ⟨rfl,rfl,rfl,Nat.le_refl _,fun b h=>h,fun _ _=>rfl,fun r o hr' ho=>?_⟩
  by_cases h1:r<low.length
  ·exact ⟨o,(hget r h1).trans ho,Nat.le_refl _,fun _=>⟨rfl,rfl,rfl⟩⟩
  ·rw [List.length_append] at hr'
   have ho':loc[r-low.length]?=some o:=by
    rw [List.getElem?_append_left (by rw [List.length_append];exact hr'),List.getElem?_append_right (by omega)] at ho
    exact ho
   have hb:loc1[r-low.length]?=some (loc1[r-low.length]'(by omega)):=List.getElem?_eq_getElem (by omega)
   obtain ⟨s1,s2,s3,s4,_⟩:=(hob _ _ _ ho' hb).cells (hm0.obj r o ho).width
   refine ⟨_,by rw [← hb,← hmid (r-low.length) (by omega),show low.length+(r-low.length)=r by omega],by omega,fun _=>⟨s1,s4,rfl⟩⟩
 have real:∀ (c e:PV),Nn (low.length+loc.length) c e→∀ x:Value,VR g' (low++loc++[⟨elem,sz,[],0⟩]) w c x→LtN (low++loc).length c→VR g' (low++(loc1++[⟨elem,sz,[],0⟩])) w e x:=by
  intro c e hce
  have sl0:∀ a:Option Addr,VR g' (low++(loc1++[⟨elem,sz,[],0⟩])) w (.sl (low.length+loc.length) 0 0 0) (.slice a 0 0):=fun a =>
   .sl _ 0 0 0 _ _ hlast (Nat.le_refl _) rfl fun _=>by
    refine ⟨by simp,?_⟩
    rw [hβ]
    exact ⟨rfl,rfl,a,rfl⟩
  induction hce with
  | same c=>exact fun x hx hlt=>hx.step hst hlt
  | nils=>intro x hx _;rw [hx.nils_inv];exact sl0 none
  | z0=>intro x hx _;obtain ⟨a,rfl⟩:=hx.z0_inv;exact sl0 a
  | agg cs es hl hh ih =>
   intro x hx hlt
   obtain ⟨xs,rfl,hlx,hvv⟩:=hx.agg_inv
   refine .agg es xs (by omega) fun i c x hc hx=>?_
   have hi:i<cs.length:=by
    have:=(List.getElem?_eq_some_iff.1 hc).1
    omega
   cases hlt with
   | agg _ hlt=>exact ih i _ c (List.getElem?_eq_getElem hi) hc x (hvv i _ x (List.getElem?_eq_getElem hi) hx) (hlt _ (List.getElem_mem hi))
  | any c=>exact fun x _ _=>.any x
 refine ⟨g',⟨⟨hm0.fb,hm0.inj,fun r b C hb=>?_,fun r o ho=>?_,by simp,fun r o hrn ho=>?_⟩,⟨hr.e.defers,hr.e.size,fun t=>?_⟩⟩,(hs0.trans hst).less (by simp)⟩
 ·have:=hm0.dom r b C hb
  simp at this ⊢
  omega
 ·by_cases h1:r<low.length
  ·have ho':=(hget r h1).symm.trans ho
   obtain ⟨a1,a2,a3⟩:=hm0.obj r o ho'
   refine ⟨a1,a2,?_⟩
   cases hbb:g'.β r with
   | none=>rw [hbb] at a3;exact a3
   | some bc =>
    rw [hbb] at a3
    obtain ⟨q1,cells',q2,q3,q4,q5,q6⟩:=a3
    refine ⟨q1,cells',q2,q3,q4,q5,fun i j e hcc=>?_⟩
    obtain ⟨u,u1,u2,u3⟩:=q6 i j e hcc
    obtain ⟨x,hx,_⟩:=Yq hcc
    have hcc':=hcc
    unfold cellOf at hcc'
    rw [hx] at hcc'
    exact ⟨u,u1,u2,u3.step hst ((Gba (hm0.lt r o h1 ho' x (List.mem_of_getElem? hx)) hcc').mono (by rw [List.length_append];omega))⟩
  ·by_cases h2:r=low.length+loc.length
   ·subst h2
    rw [hlast] at ho
    injection ho with ho
    subst ho
    exact ⟨hp,by simp,by rw [hβ]⟩
   ·have hrl:=(List.getElem?_eq_some_iff.1 ho).1
    simp at hrl
    have hrl':r-low.length<loc.length:=by omega
    have hb:loc1[r-low.length]?=some o:=by
     rw [← hmid (r-low.length) hrl',show low.length+(r-low.length)=r by omega];exact ho
    have ha:(low++loc++[⟨elem,sz,[],0⟩])[r]?=some (loc[r-low.length]'hrl'):=by
     rw [List.getElem?_append_left (by rw [List.length_append];omega),List.getElem?_append_right (by omega)]
     exact List.getElem?_eq_getElem hrl'
    obtain ⟨a1,a2,a3⟩:=hm0.obj r _ ha
    obtain ⟨s1,s2,s3,s4,s5,s6⟩:=(hob _ _ _ (List.getElem?_eq_getElem hrl') hb).cells a2
    refine ⟨by omega,s5,?_⟩
    have ha0:(low++loc)[r]?=some (loc[r-low.length]'hrl'):=by
     rw [List.getElem?_append_right (by omega)]
     exact List.getElem?_eq_getElem hrl'
    obtain ⟨_,_,a3'⟩:=hr.m.obj r _ ha0
    have hgb:g'.β r=g.β r:=by rw [← hg];exact Gh.push_ne g _ (by rw [List.length_append];omega)
    cases hbb:g'.β r with
    | none =>
     rw [hbb] at a3
     refine List.eq_nil_of_length_eq_zero ?_
     rw [s4,a3]
     rfl
    | some bc =>
     rw [hbb] at a3
     rw [← hgb,hbb] at a3'
     obtain ⟨q1,cells',q2,q3,q4,q5,q6⟩:=a3
     obtain ⟨_,_,_,_,_,_,q6'⟩:=a3'
     refine ⟨q1,cells',by rw [s2];exact q2,by rw [s1];exact q3,q4,by rw [s4];exact q5,fun i j e hcc=>?_⟩
     obtain ⟨c,hc1,hc2⟩:=s6 i j e hcc
     obtain ⟨u,u1,u2,u3⟩:=q6 i j c hc1
     obtain ⟨_,_,_,u3'⟩:=q6' i j c hc1
     exact ⟨u,by rw [s1];exact u1,u2,real c e hc2 u u3 u3'.ltN⟩
 ·rw [hget r hrn] at ho
  exact hm0.lt r o hrn ho
 ·rcases hE.look t with h | h
  ·rw [h];exact .any _
  ·exact real _ _ h _ ((hr.e.at_ t).step' hs0) (hr.e.at_ t).ltN
end
end Go.Aml
namespace Go.Aml
open Go
section
variable {P:Program} {E:Env} {low loc:List AObj} {N:Nat}
theorem Gcv {rs:List ResultVar} {Qr:PV→List AObj→Prop} {e:Exit} (hN:low.length=N) (m:Nat) {loc1:List AObj} (hm:loc.take m=loc1) (hle:m≤loc.length) (he:e = .normal∨e = .ret) (vs:List PV) (hr:Gc7 P E low loc rs vs) (hl:LtN (N+m) (Gam vs)) (ho:Gcy (N+m) loc1) (hq:Qr (Gam vs) (low++loc1)):Gju P rs Qr e E low loc:=by
 subst hN;subst hm
 have:∃ vs m,Gc7 P E low loc rs vs∧m≤loc.length∧(m=loc.length∨(LtN (low.length+m) (Gam vs)∧Gcy (low.length+m) (loc.take m)))∧Qr (Gam vs) (low++loc.take m) :=
  ⟨vs,m,hr,hle,.inr ⟨hl,ho⟩,hq⟩
 rcases he with rfl | rfl <;> exact this
/-! ### what a partial function yields, if it yields anything -/
def LP {α:Type} (m:Option α) (Q:α→Prop):Prop:=∀ a,m=some a→Q a
theorem Xs {α:Type} {Q:α→Prop} {a:α} (h:Q a):LP (some a) Q:=fun b hb=>by injection hb with hb;subst hb;exact h
theorem Gbv {α β:Type} {m:Option α} {k:α→Option β} {Q:α→Prop} {R:β→Prop} (h:LP m Q) (hk:∀ a,Q a→LP (k a) R):LP (m.bind k) R:=fun b hb=>by
 obtain ⟨a,h1,h2⟩:=bnd hb
 exact hk a (h a h1) b h2
theorem Vn {α β:Type} {m:Option α} {k:α→Option β} {R:β→Prop} (hk:∀ a,m=some a→LP (k a) R):LP (m.bind k) R:=fun b hb=>by
 obtain ⟨a,h1,h2⟩:=bnd hb
 exact hk a h1 b h2
theorem Gcu {α:Type} {c:Bool} {x y:Option α} {R:α→Prop} (h1:c=true→LP x R) (h2:c=false→LP y R):LP (bif c then x else y) R:=by
 cases c with
 | true=>exact h1 rfl
 | false=>exact h2 rfl
theorem Geu {α β:Type} {f:α→Option (α⊕β)} {K:β→Prop} {a:α} (I:α→Prop) (h0:I a) (hs:∀ s,I s→LP (f s) fun o=>match o with | .inl s'=>I s' | .inr b=>K b):LP (Sb f a) K:=by
 intro b hb
 obtain ⟨n,hn⟩:=Gc0 hb
 induction n generalizing a with
 | zero=>simp [Ys] at hn
 | succ n ih =>
  unfold Ys at hn
  obtain ⟨o,h1,h2⟩:=bnd hn
  have:=hs a h0 o h1
  cases o with
  | inl a'=>exact ih this (Zg h2) h2
  | inr b' =>
   injection h2 with h2
   subst h2
   exact this
variable {d:Option Nat} {ty:TypeId} {pos:String} {aft:Array Edge} {gd:Option (Nat×Bool)} {x y z:Operand}
theorem Gpy {k:IntKind} {m n q:Int} {ci:Array TypeId} (hx:PE E x = .int k m) (hy:PE E y = .int k n) (hz:PE E z = .int k q) :
  VRd P ⟨d,.call { callee:=.builtin .min,args:=#[x,y,z],argTypes:=ci },ty,pos,aft,gd⟩ E low loc (.int k (min (min m n) q)):=by
 intro g nt a w hr
 have hxx:=(hx ▸ hr.e.eval x).int_inv
 have hyy:=(hy ▸ hr.e.eval y).int_inv
 have hzz:=(hz ▸ hr.e.eval z).int_inv
 have e:∀ m n:Int,(if n<m then n else m)=min m n:=fun m n=>by split <;> omega
 refine ⟨.int k (min (min m n) q),?_,.imm (.int _ _)⟩
 simp [execOp,resolve,invoke,builtin,hxx,hyy,hzz,Builtin.min_,Builtin.min2,e]
theorem Gpz {k:IntKind} {m n q:Int} {ci:Array TypeId} (hx:PE E x = .int k m) (hy:PE E y = .int k n) (hz:PE E z = .int k q) :
  VRd P ⟨d,.call { callee:=.builtin .max,args:=#[x,y,z],argTypes:=ci },ty,pos,aft,gd⟩ E low loc (.int k (max (max m n) q)):=by
 intro g nt a w hr
 have hxx:=(hx ▸ hr.e.eval x).int_inv
 have hyy:=(hy ▸ hr.e.eval y).int_inv
 have hzz:=(hz ▸ hr.e.eval z).int_inv
 have e:∀ m n:Int,(if m<n then n else m)=max m n:=fun m n=>by split <;> omega
 refine ⟨.int k (max (max m n) q),?_,.imm (.int _ _)⟩
 simp [execOp,resolve,invoke,builtin,hxx,hyy,hzz,Builtin.max_,Builtin.max2,e]
end
end Go.Aml
