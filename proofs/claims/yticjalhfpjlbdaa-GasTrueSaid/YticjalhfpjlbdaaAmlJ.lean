/- The abstract memory logic, part J: calls; functions; what may be forgotten. -/
import Derived.Test.YticjalhfpjlbdaaAmlI
namespace Go.Aml
open Go

theorem Ga6.of_cells {n:Nat} {o:AObj} (h:∀ i j c,cellOf o.es i j=some c→LtN n c):Ga6 n o:=by
 intro e he
 obtain ⟨i,hi,rfl⟩:=List.getElem_of_mem he
 have hc:∀ (j:Nat) (c:PV),o.es[i].cells[j]?=some c→LtN n c:=fun j c hj=>h i j c (by unfold cellOf;rw [List.getElem?_eq_getElem hi];exact hj)
 generalize o.es[i]=e at hc
 by_cases ha:∃ cs,e = .agg cs
 ·obtain ⟨cs,rfl⟩:=ha
  refine .agg cs fun c hm=>?_
  obtain ⟨j,hj,rfl⟩:=List.getElem_of_mem hm
  exact hc j _ (List.getElem?_eq_getElem hj)
 ·have h1:e.cells=[e]:=by cases e <;> first | rfl | exact absurd ⟨_,rfl⟩ ha
  exact hc 0 e (by rw [h1];rfl)

theorem RelM.full {g:Gh} {n:Nat} {H:List AObj} {w:World} (h:RelM g n H w):RelM g H.length H w:=by
 refine ⟨h.fb,h.inj,h.dom,h.obj,Nat.le_refl _,fun r o _ ho=>Ga6.of_cells fun i j c hc=>?_⟩
 have hm:=(h.obj r o ho).mem
 cases hb:g.β r with
 | none=>rw [hb] at hm;simp [hm,cellOf] at hc
 | some bc =>
  obtain ⟨b,C⟩:=bc
  rw [hb] at hm
  obtain ⟨_,cells,_,_,_,_,q6⟩:=hm
  obtain ⟨u,_,_,h3⟩:=q6 i j c hc
  exact h3.ltN

def Gme (g:Gh) (H:List AObj) (w:World) (args:List PV) (xs:List Value):Prop :=
 args.length=xs.length∧∀ (i:Nat) (c:PV) (x:Value),args[i]?=some c→xs[i]?=some x→VR g H w c x

def Sh (P:Program) (f:FuncId) (args:List PV) (low:List AObj) (Q:PV→List AObj→Prop):Prop :=
 ∀ g xs w,RelM g low.length low w→Gme g low w args xs→Calls P f xs.toArray w fun e w'=>∃ x g' r low',e = .returned x∧Q r low'∧low.length≤low'.length∧RelM g' low'.length low' w'∧VR g' low' w' r x∧GStep low.length g low w g' low' w'

theorem Sh.mono {P:Program} {f:FuncId} {args:List PV} {low:List AObj} {Q Q':PV→List AObj→Prop} (h:Sh P f args low Q) (hq:∀ r low',Q r low'→Q' r low'):Sh P f args low Q' :=
 fun g xs w hm ha=>(h g xs w hm ha).mono fun _ _ ⟨x,g',r,low',he,hQ,rest⟩=>⟨x,g',r,low',he,hq _ _ hQ,rest⟩

def Goh (low low1:List AObj):Prop:=∀ (r:Nat) (o:AObj),low1[r]?=some o→low[r]?=some o∨Ga6 low.length o
theorem Geh (low:List AObj):Goh low low:=fun _ _ h=>.inl h
section
variable {P:Program} {nt:Nat} {Q:Xt} {E:Env} {low loc:List AObj} {d:Option Nat} {ty:TypeId} {pos:String} {aft:Array Edge} {gd:Option (Nat×Bool)} {x y z:Operand} {t:TypeId} {all:Array Oper} {rest:List Oper}

theorem Gfm {f:Nat} {cs ds:List PV} {fo:Operand} {as:List Operand} {ci:Array TypeId} {a:Act} {w:World} {g:Gh} {H:List AObj} (hr:RelE g H w nt E a) (hf:PE E fo = .fn f cs ds) (hcall:∀ args w,(callFunc f args).run P w = .ok (.enter f args) w) :
  ∃ xs:List Value,(execOp a.eval ⟨d,.call { callee:=.value fo,args:=as.toArray,argTypes:=ci },ty,pos,aft,gd⟩).run P w = .ok (.enter f xs.toArray) w∧Gme g H w (cs++as.map (PE E)++ds) xs:=by
 have hv:=hf ▸ hr.eval fo
 have key:∃ us vs:List Value,a.eval fo = .func (.func f) us.toArray vs.toArray∧cs.length=us.length∧(∀ (i:Nat) (c:PV) (x:Value),cs[i]?=some c→us[i]?=some x→VR g H w c x)∧ds.length=vs.length ∧
   (∀ (i:Nat) (c:PV) (x:Value),ds[i]?=some c→vs[i]?=some x→VR g H w c x):=by
  generalize a.eval fo=z at hv
  cases hv with
  | imm h=>cases h with | fn _ _ _ us vs hl hv hl2 hv2=>exact ⟨us,vs,rfl,hl,fun i c x h1 h2=>.imm (hv i c x h1 h2),hl2,fun i c x h1 h2=>.imm (hv2 i c x h1 h2)⟩
  | fn _ _ _ us vs hl hv hl2 hv2=>exact ⟨us,vs,rfl,hl,hv,hl2,hv2⟩
 obtain ⟨us,vs,hfo,hl,hv1,hl2,hv2⟩:=key
 refine ⟨us++as.map a.eval++vs,?_,by simp [hl,hl2],fun i c x hc hx=>?_⟩
 ·simp only [execOp,resolve,hfo,Deferred.ofValue,invoke,Sem.run_bind,Sem.run_pure,Result.andThen_ok]
  rw [show (us.toArray++Array.map a.eval as.toArray++vs.toArray)=(us++as.map a.eval++vs).toArray by simp]
  exact hcall _ w
 ·by_cases h1:i<us.length
  ·rw [List.append_assoc,List.getElem?_append_left (by omega)] at hc hx
   exact hv1 i c x hc hx
  ·rw [List.append_assoc,List.getElem?_append_right (by omega)] at hc hx
   rw [hl] at hc
   by_cases h2:i-us.length<as.length
   ·rw [List.getElem?_append_left (by simpa using h2)] at hc hx
    rw [List.getElem?_map] at hc hx
    cases ho:as[i-us.length]? with
    | none=>simp [ho] at hc
    | some o =>
     simp [ho] at hc hx
     subst hc;subst hx
     exact hr.eval o
   ·rw [List.getElem?_append_right (by simp;omega)] at hc hx
    simp only [List.length_map] at hc hx
    exact hv2 _ c x hc hx

theorem Ggu {f:Nat} {cs ds:List PV} {fo:Operand} {as:List Operand} {ci:Array TypeId} {Qc:PV→List AObj→Prop} {K:PV→List AObj→List AObj→Prop} (hf:PE E fo = .fn f cs ds) (hcall:∀ args w,(callFunc f args).run P w = .ok (.enter f args) w)
  (hc:Sh P f (cs++as.map (PE E)++ds) (low++loc) Qc)
  (hk:∀ r low',Qc r low'→∃ low1 loc1,low'=low1++loc1∧low1.length=low.length∧Goh low low1∧K r low1 loc1) :
  VEf P ⟨d,.call { callee:=.value fo,args:=as.toArray,argTypes:=ci },ty,pos,aft,none⟩ E low loc K:=by
 intro g nt a w hr Kr Qr hK
 obtain ⟨xs,hrun,hargs⟩:=Gfm (d:=d) (ty:=ty) (pos:=pos) (aft:=aft) (gd:=none) (ci:=ci) hr.e hf hcall
 unfold Oper.wp
 rw [hrun,Oper.upon_enter]
 refine (hc g xs w hr.m.full hargs).mono ?_
 rintro e w' ⟨x,g',r,low',rfl,hQ,hlen,hm',hvr,hst⟩
 obtain ⟨low1,loc1,rfl,h1,hlow,hops⟩:=hk r low' hQ
 refine hK x w' g' r low1 loc1 hops h1 hvr ⟨hm'.fb,hm'.inj,hm'.dom,hm'.obj,by rw [List.length_append];omega,fun q o hq ho=>?_⟩ hst
 rw [List.getElem?_append_left (by omega)] at ho
 rcases hlow q o ho with h | h
 ·exact hr.m.lt q o hq (by rw [List.getElem?_append_left (by omega)];exact h)
 ·exact h

theorem Jp {f:Nat} {cs ds:List PV} {fo:Operand} {as:List Operand} {ci:Array TypeId} {r:PV} (hf:PE E fo = .fn f cs ds) (hcall:∀ args w,(callFunc f args).run P w = .ok (.enter f args) w)
  (hc:Sh P f (cs++as.map (PE E)++ds) (low++loc) fun r' low'=>r'=r∧low'=low++loc) :
  VEf P ⟨d,.call { callee:=.value fo,args:=as.toArray,argTypes:=ci },ty,pos,aft,none⟩ E low loc fun v1 low1 loc1=>v1=r∧low1=low∧loc1=loc :=
 Ggu hf hcall hc fun _ _ ⟨h1,h2⟩=>⟨low,loc,h2,rfl,Geh low,h1,rfl,rfl⟩

/-! ### a callee that only looks, and whose result holds no memory: its arguments may be slices of changeable objects, taken by value -/

inductive Sc:PV→Prop
 | bool (b:Bool):Sc (.bool b)
 | int (k:IntKind) (n:Int):Sc (.int k n)
 | str (s:ByteArray):Sc (.str s)
 | nilp:Sc .nilp
 | nils:Sc .nils
 | nilf:Sc .nilf
 | any:Sc .any
 | agg (cs:List PV) (h:∀ c,c ∈ cs→Sc c):Sc (.agg cs)
 | tup (cs:List PV) (h:∀ c,c ∈ cs→Sc c):Sc (.tup cs)

theorem Sc.move {c:PV} (h:Sc c):∀ {g g':Gh} {H H':List AObj} {w w':World} {x:Value},VR g H w c x→VR g' H' w' c x:=by
 induction h with
 | bool b=>intro _ _ _ _ _ _ _ h;rw [h.bool_inv];exact .bool b
 | int k n=>intro _ _ _ _ _ _ _ h;rw [h.int_inv];exact .int k n
 | str s=>intro _ _ _ _ _ _ _ h;rw [h.str_inv];exact .imm (.str s)
 | nilp=>intro _ _ _ _ _ _ _ h;rw [h.nilp_inv];exact .imm .nilp
 | nils=>intro _ _ _ _ _ _ _ h;rw [h.nils_inv];exact .imm .nils
 | nilf=>intro _ _ _ _ _ _ _ h;cases h with | imm h=>cases h;exact .imm .nilf
 | any=>intro _ _ _ _ _ _ x _;exact .any x
 | agg cs h ih =>
  intro _ _ _ _ _ _ _ hv
  obtain ⟨xs,rfl,hl,hh⟩:=hv.agg_inv
  exact .agg cs xs hl fun i c x hc hx=>ih c (List.mem_of_getElem? hc) (hh i c x hc hx)
 | tup cs h ih =>
  intro _ _ _ _ _ _ _ hv
  obtain ⟨xs,rfl,hl,hh⟩:=hv.tup_inv
  exact .tup cs xs hl fun i c x hc hx=>ih c (List.mem_of_getElem? hc) (hh i c x hc hx)

theorem VR.toVI {g:Gh} {H:List AObj} {w:World} {c:PV} {x:Value} (h:VR g H w c x) (hp:LtN 0 c):VI g.F w c x:=by
 induction h with
 | imm h=>exact h
 | ptr r v i j o a ho hv ha=>cases hp with | ptr _ _ _ _ h=>omega
 | sl r v off len o x ho hv h1 hx=>cases hp with | sl _ _ _ _ h=>omega
 | agg cs xs hl hv ih=>cases hp with | agg _ hh=>exact .agg cs xs hl fun i c x hc hx=>ih i c x hc hx (hh c (List.mem_of_getElem? hc))
 | tup cs xs hl hv ih=>cases hp with | tup _ hh=>exact .tup cs xs hl fun i c x hc hx=>ih i c x hc hx (hh c (List.mem_of_getElem? hc))
 | fn f cs ds xs ys hl hv hl2 hv2 ih ih2 =>
  cases hp with | fn _ _ _ hh hh2=>exact .fn f cs ds xs ys hl (fun i c x hc hx=>ih i c x hc hx (hh c (List.mem_of_getElem? hc))) hl2 (fun i c x hc hx=>ih2 i c x hc hx (hh2 c (List.mem_of_getElem? hc)))

inductive View (low loc:List AObj):PV→PV→Prop
 | same (c:PV) (h:LtN 0 c):View low loc c c
 | sl (r v off len:Nat) (o:AObj) (ho:Gbq low loc r o) (hv:o.ver=v) (hp:∀ e,e ∈ o.es→LtN 0 e) (es:List PV) (he:(o.es.drop off).take len=es):View low loc (.sl r v off len) (.vs o.sz es)
 | agg (cs ds:List PV) (hl:cs.length=ds.length) (h:∀ (i:Nat) (c e:PV),cs[i]?=some c→ds[i]?=some e→View low loc c e):View low loc (.agg cs) (.agg ds)

def Gjw (low loc:List AObj):List PV→List PV→Prop
 | [],[]=>True
 | c::cs,e::es=>View low loc c e∧Gjw low loc cs es
 | _,_=>False
theorem Gjw.get {cs es:List PV} (h:Gjw low loc cs es):cs.length=es.length∧∀ (i:Nat) (c e:PV),cs[i]?=some c→es[i]?=some e→View low loc c e:=by
 induction cs generalizing es with
 | nil=>cases es with
  | nil=>exact ⟨rfl,by simp⟩
  | cons=>exact h.elim
 | cons c cs ih=>cases es with
  | nil=>exact h.elim
  | cons e es =>
   obtain ⟨h1,h2⟩:=ih h.2
   refine ⟨by simp [h1],fun i a b ha hb=>?_⟩
   match i,ha,hb with
   | 0,ha,hb=>simp at ha hb;subst ha;subst hb;exact h.1
   | i+1,ha,hb=>exact h2 i a b (by simpa using ha) (by simpa using hb)

theorem Gba {n:Nat} {e:PV} (h:LtN n e) {j:Nat} {c:PV} (hc:e.cells[j]?=some c):LtN n c:=by
 by_cases ha:∃ cs,e = .agg cs
 ·obtain ⟨cs,rfl⟩:=ha
  cases h with | agg _ hh=>exact hh c (List.mem_of_getElem? hc)
 ·have h1:e.cells=[e]:=by cases e <;> first | rfl | exact absurd ⟨_,rfl⟩ ha
  rw [h1] at hc
  match j,hc with
  | 0,hc=>simp at hc;subst hc;exact h

theorem Giz {g:Gh} {n:Nat} {w:World} {r v off len:Nat} {o:AObj} {zv:Value} {F:Nat→Prop} (hm:RelM g n (low++loc) w) (h:VR g (low++loc) w (.sl r v off len) zv) (ho:Gbq low loc r o) (hv:o.ver=v) (hp:∀ e,e ∈ o.es→LtN 0 e)
  (hF:∀ b,g.F b→F b) (hb:∀ b C,g.β r=some (b,C)→F b):VI F w (.vs o.sz ((o.es.drop off).take len)) zv:=by
 have hsl:=Ggv h ho hv
 have hob:=hm.obj r o ho
 unfold SL at hsl
 obtain ⟨hlen,hsl⟩:=hsl
 have hl:((o.es.drop off).take len).length=len:=by simp;omega
 cases hbb:g.β r with
 | none =>
  rw [hbb] at hsl
  obtain ⟨rfl,rfl,a,rfl⟩:=hsl
  simp only [List.take_zero]
  exact .vs0 o.sz a 0
 | some bc =>
  obtain ⟨b,C⟩:=bc
  rw [hbb] at hsl
  obtain ⟨cap,a,rfl,hlc,hne,_⟩:=hsl
  by_cases h0:len=0
  ·subst h0
   simp only [List.take_zero]
   exact .vs0 o.sz a cap
  ·obtain rfl:=hne h0
   have hmem:=hob.mem
   rw [hbb] at hmem
   obtain ⟨_,cells,q2,q3,q4,q5,q6⟩:=hmem
   have hcell:∀ i j c,cellOf ((o.es.drop off).take len) i j=some c→cellOf o.es (off+i) j=some c:=fun i j c hc=>by
    unfold cellOf at hc ⊢
    by_cases hi:i<len
    ·rw [List.getElem?_take_of_lt hi,List.getElem?_drop] at hc
     exact hc
    ·rw [List.getElem?_eq_none (by rw [hl];omega)] at hc
     simp at hc
   have hall:∀ i j c,cellOf ((o.es.drop off).take len) i j=some c→cells[(off+i)*o.sz+j]?=some (cells.getD (off*o.sz+(i*o.sz+j)) undef)∧(cells.getD (off*o.sz+(i*o.sz+j)) undef).oneCell'=true∧VI F w c (cells.getD (off*o.sz+(i*o.sz+j)) undef):=fun i j c hc=>by
    have hc':=hcell i j c hc
    obtain ⟨u,hu,h1,h2⟩:=q6 _ _ _ hc'
    have hidx:(off+i)*o.sz+j=off*o.sz+(i*o.sz+j):=by rw [Nat.add_mul];omega
    have hg:cells.getD (off*o.sz+(i*o.sz+j)) undef=u:=by rw [← hidx];simp [Array.getD_eq_getD_getElem?,hu]
    rw [hg]
    obtain ⟨e,he,_⟩:=Yq hc'
    have hcj:e.cells[j]?=some c:=by
     unfold cellOf at hc'
     rw [he] at hc'
     exact hc'
    exact ⟨hu,h1,(h2.toVI (Gba (hp e (List.mem_of_getElem? he)) hcj)).mono hF fun _ _=>rfl⟩
   have:=VI.vs (F:=F) (w:=w) o.sz ((o.es.drop off).take len) b (off*o.sz) cap (fun i j=>cells.getD (off*o.sz+(i*o.sz+j)) undef) (by omega) (hb b C hbb)
    (fun i e he=>by
     rw [List.getElem?_take] at he
     split at he
     ·rw [List.getElem?_drop] at he
      exact hob.width _ e he
     ·cases he)
    (fun i j c hc=>by
     rw [cell_of_row w b _ cells o.ty (0,0) q2]
     have:=(hall i j c hc).1
     rw [← this]
     congr 1
     rw [Nat.add_mul];omega)
    (fun i j c hc=>(hall i j c hc).2.1) (fun i j c hc=>(hall i j c hc).2.2)
   rw [hl] at this
   exact this

theorem View.real {g:Gh} {n:Nat} {w:World} {c e:PV} {zv:Value} (hm:RelM g n (low++loc) w) (hv:View low loc c e) (h:VR g (low++loc) w c zv):VI (fun b=>b<w.heap.size) w e zv:=by
 induction hv generalizing zv with
 | same c hp=>exact (h.toVI hp).mono (fun b hb=>hm.fb b hb) fun _ _=>rfl
 | sl r v off len o ho hv hp es he=>exact he ▸ Giz hm h ho hv hp (fun b hb=>hm.fb b hb) (fun b C hb=>hm.beta_lt hb)
 | agg cs ds hl hh ih =>
  obtain ⟨xs,rfl,hlx,hvv⟩:=h.agg_inv
  refine .agg ds xs (by omega) fun i c x hc hx=>?_
  have hi:i<cs.length:=by
   have:=(List.getElem?_eq_some_iff.1 hc).1
   omega
  exact ih i _ c (List.getElem?_eq_getElem hi) hc (hvv i _ x (List.getElem?_eq_getElem hi) hx)

theorem Xh {f:Nat} {fo:Operand} {as:List Operand} {ci:Array TypeId} {vs:List PV} {r:PV} (hf:PE E fo = .fn f [] []) (hcall:∀ args w,(callFunc f args).run P w = .ok (.enter f args) w)
  (hvw:Gjw low loc (as.map (PE E)) vs) (hc:Sh P f vs [] fun r' _=>r'=r) (hsc:Sc r) :
  VEf P ⟨d,.call { callee:=.value fo,args:=as.toArray,argTypes:=ci },ty,pos,aft,none⟩ E low loc fun v1 low1 loc1=>v1=r∧low1=low∧loc1=loc:=by
 intro g nt a w hr Kr Qr hK
 obtain ⟨xs,hrun,hargs⟩:=Gfm (d:=d) (ty:=ty) (pos:=pos) (aft:=aft) (gd:=none) (ci:=ci) hr.e hf hcall
 unfold Oper.wp
 rw [hrun,Oper.upon_enter]
 obtain ⟨hl1,hl2⟩:=hvw.get
 simp only [List.nil_append,List.append_nil] at hargs
 have hm0:RelM ⟨fun b=>b<w.heap.size,fun _=>none⟩ 0 [] w:=⟨fun _ h=>h,(by intro _ _ _ _ _ h;cases h),(by intro _ _ _ h;cases h),(by intro r o h;simp at h),Nat.le_refl _,(by intro r o h;omega)⟩
 have ha0:Gme ⟨fun b=>b<w.heap.size,fun _=>none⟩ [] w vs xs:=by
  refine ⟨by rw [← hl1,hargs.1],fun i c x hcc hx=>.imm ?_⟩
  have hi:i<(as.map (PE E)).length:=by
   have:=(List.getElem?_eq_some_iff.1 hcc).1
   omega
  exact (hl2 i _ c (List.getElem?_eq_getElem hi) hcc).real hr.m (hargs.2 i _ x (List.getElem?_eq_getElem hi) hx)
 refine (hc _ xs w hm0 ha0).mono ?_
 rintro e w' ⟨x,g',r',low',rfl,rfl,_,hm',hvr,hst⟩
 have hkeep:∀ b,b<w.heap.size→w'.heap[b]?=w.heap[b]?:=hst.keep
 have hs:GStep (low++loc).length g (low++loc) w g (low++loc) w':=⟨hst.os,hst.tape,hst.output,hst.size,fun _ h=>h,fun b hb=>hkeep b (hr.m.fb b hb),fun r o _ ho=>⟨o,ho,Nat.le_refl _,fun _=>⟨rfl,rfl,rfl⟩⟩⟩
 refine hK x w' g r' low loc ⟨rfl,rfl,rfl⟩ rfl (hsc.move hvr) ⟨fun b hb=>Nat.lt_of_lt_of_le (hr.m.fb b hb) hst.size,hr.m.inj,hr.m.dom,fun q o ho=>?_,hr.m.low,hr.m.lt⟩ hs
 obtain ⟨a1,a2,a3⟩:=hr.m.obj q o ho
 refine ⟨a1,a2,?_⟩
 cases hb:g.β q with
 | none=>rw [hb] at a3;exact a3
 | some bc =>
  obtain ⟨b,C⟩:=bc
  rw [hb] at a3
  obtain ⟨q1,cells',q2,q3,q4,q5,q6⟩:=a3
  exact ⟨q1,cells',(hkeep b (Gcz q2)).trans q2,q3,q4,q5,fun i j c hcc=>let ⟨u,h1,h2,h3⟩:=q6 i j c hcc;⟨u,h1,h2,h3.step' hs⟩⟩

end
end Go.Aml
