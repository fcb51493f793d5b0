/- The abstract memory logic, part N: the row of a law. -/
import Derived.Test.YticjalhfpjlbdaaAmlM
import Derived.WalkKit
import Derived.ShutString
import Derived.Below
import Derived.Carry
namespace Go.Aml
open Go Go.ChangeShapes Go.WideShapes Go.RowKit Go.ChangeAt

def Ghz (P:Program) (ts:List TypeId) (pcs:List PV):Prop :=
 pcs.length=ts.length∧∀ (i:Nat) (t:TypeId) (c:PV),ts[i]?=some t→pcs[i]?=some c→∃ p,TP P t p∧c=mkE (Ws P t) p

section
variable {H:Type} {enc:TypeId×Value→H} {P:Program} {f:FuncId}

theorem Gnq {args:Array Value} {W:World} {ts:List TypeId} {ds:List (DataW H)} {ps:List MemPlace} {base:Nat} (hT:Ge4 P=true) (hA:DataW.TrodAll enc P W 0 (fun _=>true) true ts args.toList ds ps) (hlt:∀ t,t ∈ ts→t<P.types.size)
  (hok:∀ (j:Nat) t v,ts[j]?=some t→args.toList[j]?=some v→Value.okWide P W .any base t v) (hc:∀ pcs,Ghz P ts pcs→Sh P f pcs [] fun r _=>r = .bool true) :
  Calls P f args W fun e w'=>e = .returned (.bool true)∧Below W.heap.size W w':=by
 obtain ⟨pcs,k1,k2,k3,k4⟩:=Gid hT ts args.toList ds ps hA hlt hok
 have h:=hc pcs ⟨k1.trans k2,k3⟩ ⟨fun b=>b<W.heap.size,fun _=>none⟩ args.toList W ⟨fun b h=>h,fun r r' b C C' h=>by simp at h,fun r b C h=>by simp at h,fun r o h=>by simp at h,Nat.zero_le _,fun r o h=>by simp at h⟩ ⟨k1,fun i c x hcx hx=>.imm (k4 i c x hcx hx)⟩
 rw [Array.toArray_toList] at h
 refine Calls.mono h fun e w' hh=>?_
 obtain ⟨x,g',r,low',he,hr,_,_,hv,hst⟩:=hh
 subst hr
 rw [he,hv.bool_inv]
 exact ⟨rfl,hst.os,hst.tape,hst.output,hst.size,fun k hk=>hst.keep k hk⟩

theorem Gd8 (hl:laidOutB P=true) {W W':World} (hb:Below W.heap.size W W'):∀ (ts:List TypeId) (vs:List Value) (ds:List (DataW H)) (ps:List MemPlace),(∀ t,t ∈ ts→P.readableRec t=true∧t<P.types.size)→DataW.TrodAll enc P W 0 (fun _=>true) true ts vs ds ps →
  DataW.TrodAll enc P W' 0 (fun b=>decide (b<W.heap.size)) true ts vs ds ps∧ds.length=ts.length
 | [],[],[],_,_,h=>⟨h,rfl⟩
 | [],[],_::_,_,_,h=>h.elim
 | [],_::_,[],_,_,h=>h.elim
 | [],_::_,_::_,_,_,h=>h.elim
 | _::_,[],[],_,_,h=>h.elim
 | _::_,[],_::_,_,_,h=>h.elim
 | _::_,_::_,[],_,_,h=>h.elim
 | t::ts,v::vs,d::ds,ps,hr,h=>by
  obtain ⟨p,q,h1,h2,he⟩:=h
  have hx:∀ x ∈ p,x.block<W.heap.size:=by obtain ⟨m,hm⟩:=h1;exact DataW.trod_lt m _ _ _ hm
  obtain ⟨i1,i2⟩:=Gd8 hl hb ts vs ds q (fun t ht=>hr t (by simp [ht])) h2
  exact ⟨⟨p,q,Below.trod hl (hr t (by simp)).1 (hr t (by simp)).2 h1 hb hx,i1,he⟩,by simp [i2]⟩

theorem Gk0 {C:Checked} {os:Os} {fn:Func} {s:ChangeSpec} {conds:List PathCond} {tb:TypeId} (own:ownKnob C.prog.godebug=none) (started:os.Started) (noInit:C.prog.inits.idxOf? f=none) (hfn:C.prog.funcs[f]?=some fn)
  (witness:∃ (w:World) (tape:Tape) (i:Input),w.os=os∧(w.forCall tape i).Shaped C.prog∧i.vars=[]∧Input.okWide C.prog (w.forCall tape i) .any w.heap.size f i ∧
   s.pre6 enc C.prog fn conds false (w.forCall tape i).memory i.args∧({}:Assume).holds C.prog (lone (Frame.enter C.prog f i.args .normal) [] (w.forCall tape i)))
  (hT:Ge4 C.prog=true) (hl:laidOutB C.prog=true) (hrd:fn.params.toList.all (fun t=>C.prog.readableRec t&&Nat.blt t C.prog.types.size)=true) (hvars:s.vars=[]) (hres:fn.resultTypes=#[tb]) (htb:C.prog.underlying tb=some .bool)
  (hs:∀ ds:List (DataW H),ds.length=fn.params.toList.length→s.fn H ds={ results:=[.lit (.bool true)],args:=ds }) (hc:∀ pcs,Ghz C.prog fn.params.toList pcs→Sh C.prog f pcs [] fun r _=>r = .bool true) :
  ReturnsInHanded {} C os f .any (s.pre6 enc C.prog fn conds false) (s.post enc C.prog fn false true false false):=by
 have hrd':∀ t,t ∈ fn.params.toList→C.prog.readableRec t=true∧t<C.prog.types.size:=fun t ht=>by
  have:=(List.all_eq_true.1 hrd) t ht
  rw [Bool.and_eq_true] at this
  exact ⟨this.1,Nat.le_of_ble_eq_true this.2⟩
 refine returnsInHanded_of_change own started noInit hfn witness ?_
 intro W base args ds gs before hval hW hcnd _
 have hW':=hW
 obtain ⟨p,q,hA,hV,rfl,hfz,hnd⟩:=hW
 rw [hvars] at hV
 obtain ⟨rfl,rfl⟩:=trodVars_none hV
 refine (Gnq (base:=base) hT hA (fun t ht=>(hrd' t ht).2) (fun j t v ht hv=>hval j t v (by simpa using ht) (by simpa using hv)) hc).mono fun e W' ⟨he,bel⟩=>?_
 subst he
 obtain ⟨b1,b2⟩:=Gd8 hl bel fn.params.toList args.toList ds p hrd' hA
 have hsd:s.fn H (ds++[])={ results:=[.lit (.bool true)],args:=ds }:=by rw [List.append_nil];exact hs ds b2
 refine ⟨_,rfl,ds,[],_,[],p,[],hW',?_,?_,?_,bel.frame _,fun h=>by cases h⟩
 ·rw [hsd,hres]
  exact trodAll_mk1 (shut_bool htb _)
 ·rw [hsd];exact b1
 ·rw [hsd,hvars];rfl
end
end Go.Aml
