/- The abstract memory logic, part G: append; slices of slices; bytes as strings; literals. -/
import Derived.Test.YticjalhfpjlbdaaAmlF
namespace Go.Aml
open Go

section
variable {P:Program} {nt:Nat} {Q:Xt} {E:Env} {low loc:List AObj} {d:Option Nat} {ty:TypeId} {pos:String} {aft:Array Edge} {x y z:Operand} {t:TypeId} {all:Array Oper} {rest:List Oper}

theorem Gae {w:World} {tt e:TypeId} {sz n cap c:Nat} {a a':Option Addr} (ht:P.underlying t=some (.slice e)) (hi:Ut P e=some sz) (hcap:n≤cap) :
  (Builtin.append_ #[t,t] tt #[.slice a n cap,.slice a' 0 c]).run P w = .ok (.slice a n cap) w:=by
 cases a <;> cases a' <;> simp [Builtin.append_,run_underlying ht,Ww hi,Builtin.lenOf,Builtin.firstCells,hcap,loadCells,loadCellsFrom,storeCells]

theorem Gdg {s:Operand} {a:Act} {w:World}:(execOp a.eval ⟨d,.call { callee:=.builtin .append,args:=#[s,x],argTypes:=#[t,t] },ty,pos,aft,none⟩).run P w =
  ((Builtin.append_ #[t,t] ty #[a.eval s,a.eval x]).run P w).andThen fun v w'=>.ok (.value v) w':=by
 simp [execOp,resolve,invoke,builtin]

theorem Gk9 {s:Operand} {r v len by_:Nat} {o:AObj} {p:PV} {ys:List PV} {zv:Value} {low' loc':List AObj} (hs:PE E s = .sl r v 0 len) (ho:Gbq low loc r o) (hv:o.ver=v) (hx:PE E x=p) (hsrc:Ge1 low loc p o.sz ys)
  (ht:Wz P t=some o.ty) (hsz:Ut P o.ty=some o.sz) (hby:Yg P o.ty=some by_) (hz:Wp P o.ty=some zv) (hzs:zv.cells.size=o.sz) (hbound:(len+ys.length)*by_≤140737488355328) (h63:len+ys.length≤9223372036854775807)
  (hset:Gi2 low loc r ⟨o.ty,o.sz,o.es.take len++ys,v+1⟩ low' loc') :
  VEf P ⟨d,.call { callee:=.builtin .append,args:=#[s,x],argTypes:=#[t,t] },ty,pos,aft,none⟩ E low loc fun v1 low1 loc1=>v1 = .sl r (v+1) 0 (len+ys.length)∧low1=low'∧loc1=loc':=by
 intro g nt a w hr Kr Qr hK
 have hob:=hr.m.obj r o ho
 have hpos:=hob.pos
 have hsl:=Ggv (hs ▸ hr.e.eval s) ho hv
 obtain ⟨hwid,ax,capx,hxx,hsrc'⟩:=hsrc.real hr.m (hx ▸ hr.e.eval x) hpos
 obtain ⟨hlen,hsl'⟩:=id hsl
 simp only [Nat.zero_add] at hlen
 have hlt0:(low++loc)[r]?=some o:=ho
 have hml:len+ys.length≤maxLen:=by unfold maxLen;omega
 cases hi:P.info? o.ty with
 | none=>simp [Ut,hi] at hsz
 | some inf =>
 have hz':inf.zero=some zv:=by simpa [Wp,hi] using hz
 have hs':inf.size=o.sz:=by simpa [Ut,hi] using hsz
 have hb':inf.bytes=by_:=by simpa [Yg,hi] using hby
 have htl:(o.es.take len).length=len:=by simp;omega
 have hwid':∀ (i:Nat) (e:PV),(o.es.take len++ys)[i]?=some e→e.cells.length=o.sz:=by
  intro i e he
  by_cases hil:i<len
  ·rw [List.getElem?_append_left (by omega),List.getElem?_take_of_lt hil] at he
   exact hob.width i e he
  ·rw [List.getElem?_append_right (by omega)] at he
   exact hwid _ e he
 -- what the run yields: a value and a world,and where the object lies now
 have key:∃ (x':Value) (w':World) (q:Option (Nat×Nat)),(Builtin.append_ #[t,t] ty #[a.eval s,a.eval x]).run P w = .ok x' w' ∧
   w'.os=w.os∧w'.tape=w.tape∧w'.output=w.output∧w.heap.size≤w'.heap.size∧(∀ b,b<w.heap.size→(∀ C,g.β r≠some (b,C))→w'.heap[b]?=w.heap[b]?) ∧
   (∀ b C,q=some (b,C)→(∃ C',g.β r=some (b,C'))∨w.heap.size≤b) ∧
   Goj g (low++loc) w w' ⟨o.ty,o.sz,o.es.take len++ys,v+1⟩ q ∧
   (match q with
    | none=>len+ys.length=0∧∃ ad,x' = .slice ad 0 0
    | some (b,C)=>x' = .slice (some ⟨b,0,none⟩) (len+ys.length) C∧len+ys.length≤C):=by
  -- the elements that are there,in a row
  have cellsOfRow:∀ (xs us:List Value) (cells:Array Value),xs.length=len*o.sz→Gej g (low++loc) w o.sz ys us→(∀ i j c,i<len→cellOf o.es i j=some c→∃ u,xs[i*o.sz+j]?=some u∧u.oneCell'=true∧VR g (low++loc) w c u) →
    cells.toList.take ((len+ys.length)*o.sz)=xs++us→∀ i j c,cellOf (o.es.take len++ys) i j=some c→∃ u,cells[i*o.sz+j]?=some u∧u.oneCell'=true∧VR g (low++loc) w c u:=by
   intro xs us cells hxl hus hold htake i j c hc
   obtain ⟨e,he,hj⟩:=Yq hc
   have hj':=hwid' i e he
   have hil:=(List.getElem?_eq_some_iff.1 he).1
   rw [List.length_append,htl] at hil
   have hidx:i*o.sz+j<(len+ys.length)*o.sz:=by
    have:(i+1)*o.sz≤(len+ys.length)*o.sz:=Nat.mul_le_mul_right _ (by omega)
    rw [Nat.add_mul,Nat.one_mul] at this
    omega
   have hget:cells[i*o.sz+j]?=(xs++us)[i*o.sz+j]?:=by rw [← htake,List.getElem?_take_of_lt hidx,Array.getElem?_toList]
   rw [hget]
   by_cases hi2:i<len
   ·have hc':cellOf o.es i j=some c:=by
     unfold cellOf at hc ⊢
     rw [List.getElem?_append_left (by omega),List.getElem?_take_of_lt hi2] at hc
     exact hc
    obtain ⟨u,hu,h1,h2⟩:=hold i j c hi2 hc'
    refine ⟨u,?_,h1,h2⟩
    rw [List.getElem?_append_left (List.getElem?_eq_some_iff.1 hu).1]
    exact hu
   ·have hc':cellOf ys (i-len) j=some c:=by
     unfold cellOf at hc ⊢
     rw [List.getElem?_append_right (by omega),htl] at hc
     exact hc
    obtain ⟨u,hu,h1,h2⟩:=hus.2 _ _ _ hc'
    refine ⟨u,?_,h1,h2⟩
    have e1:i*o.sz=len*o.sz+(i-len)*o.sz:=by rw [← Nat.add_mul];congr 1;omega
    rw [List.getElem?_append_right (by rw [hxl,e1];omega),hxl,e1]
    rw [show len*o.sz+(i-len)*o.sz+j-len*o.sz=(i-len)*o.sz+j by omega]
    exact hu
  rw [hxx]
  cases hb:g.β r with
  | none =>
   rw [hb] at hsl'
   obtain ⟨_,rfl,as,hss⟩:=hsl'
   rw [hss]
   have hnil:o.es=[]:=by have:=hob.mem;rw [hb] at this;exact this
   rcases hsrc' with rfl | ⟨ad,us,rfl,hus,hcell⟩
   ·exact ⟨_,w,none,Gae (Vy ht) hsz (Nat.le_refl _),rfl,rfl,rfl,Nat.le_refl _,fun _ _ _=>rfl,(fun _ _ h=>by cases h),by simp [Goj],by simp⟩
   ·by_cases hy0:ys=[]
    ·subst hy0
     exact ⟨_,w,none,Gae (Vy ht) hsz (Nat.le_refl _),rfl,rfl,rfl,Nat.le_refl _,fun _ _ _=>rfl,(fun _ _ h=>by cases h),by simp [Goj],by simp⟩
    ·have hy1:0<ys.length:=List.length_pos_iff.2 hy0
     have hul:us.length=ys.length*inf.size:=by rw [hs'];exact hus.1
     simp only [Nat.zero_add] at hbound h63 hml
     have hcap:∃ C,(Builtin.append_ #[t,t] ty #[.slice as 0 0,.slice (some ad) ys.length capx]).run P w = .ok (.slice (some ⟨w.heap.size,0,none⟩) ys.length C) (w.drew.alloc (.cells (us.toArray++Builtin.zeroCells zv.cells (C-ys.length)) o.ty))∧ys.length≤C∧C≤maxLen:=by
      refine ⟨grownCap w ys.length 0 o.ty,?_,grownCap_ge w _ _ _,grownCap_le_maxLen w _ _ _ hml⟩
      cases as with
      | none=>exact run_append_nil w t ty o.ty inf zv (Vy ht) hi hz' ad ys.length capx us hul hcell hy1 (by omega) (by rw [hb'];omega)
      | some bs =>
       have:=run_append_grow (P:=P) w t ty o.ty inf zv (Vy ht) hi hz' bs 0 0 [] (by simp) (by simp) ad ys.length capx us hul hcell (by omega) (by omega) (growslice_fits (by omega) (by rw [hb',Nat.zero_add];omega))
       simpa using this
     obtain ⟨C,hrun,hC1,hC2⟩:=hcap
     refine ⟨_,_,some (w.heap.size,C),hrun,rfl,rfl,rfl,by simp,fun b hbl _=>Go.RowKit.Below.heap_alloc w.drew _ b hbl,fun b C' h=>by injection h with h;injection h with h1 h2;exact .inr (by omega),?_,by simp,by simpa using hC1⟩
     refine ⟨_,heap_alloc_new w.drew _,?_,hC2,by simpa using hC1,?_⟩
     ·simp only [Array.size_append,List.size_toArray,size_zeroCells,hzs,hus.1,← Nat.add_mul]
      congr 1
      omega
     ·refine cellsOfRow [] us _ (by simp) hus (fun i j c hi=>by omega) ?_
      simp only [Array.toList_append,List.nil_append,Nat.zero_add]
      rw [← hus.1]
      exact List.take_left
  | some bc =>
   obtain ⟨b,C⟩:=bc
   rw [hb] at hsl'
   obtain ⟨cap,as,hss,hlc,_,has⟩:=hsl'
   obtain ⟨rfl,rfl⟩:=has rfl
   rw [hss]
   have hmem:=hob.mem
   rw [hb] at hmem
   obtain ⟨hnF,cur,q2,q3,q4,q5,q6⟩:=hmem
   have hold:∀ i j c,i<len→cellOf o.es i j=some c→∃ u,(cur.toList.take (len*o.sz))[i*o.sz+j]?=some u∧u.oneCell'=true∧VR g (low++loc) w c u:=by
    intro i j c hil hc
    obtain ⟨u,hu,h1,h2⟩:=q6 i j c hc
    refine ⟨u,?_,h1,h2⟩
    obtain ⟨e,he,hj⟩:=Yq hc
    have hw:=hob.width i e he
    have hlt:i*o.sz+j<len*o.sz:=by
     have:(i+1)*o.sz≤len*o.sz:=Nat.mul_le_mul_right _ (by omega)
     rw [Nat.add_mul,Nat.one_mul] at this
     omega
    rw [List.getElem?_take_of_lt hlt,Array.getElem?_toList]
    exact hu
   have hxl:(cur.toList.take (len*o.sz)).length=len*o.sz:=by
    have:len*o.sz≤cap*o.sz:=Nat.mul_le_mul_right _ hlc
    simp
    omega
   have zeroCase:ys=[]→∃ (x':Value) (w':World) (q:Option (Nat×Nat)),(Builtin.append_ #[t,t] ty #[.slice (some ⟨b,0,none⟩) len cap,.slice ax ys.length capx]).run P w = .ok x' w' ∧
     w'.os=w.os∧w'.tape=w.tape∧w'.output=w.output∧w.heap.size≤w'.heap.size∧(∀ b',b'<w.heap.size→(∀ C,some (b,cap)≠some (b',C))→w'.heap[b']?=w.heap[b']?) ∧
     (∀ b' C,q=some (b',C)→(∃ C',some (b,cap)=some (b',C'))∨w.heap.size≤b') ∧
     Goj g (low++loc) w w' ⟨o.ty,o.sz,o.es.take len++ys,v+1⟩ q ∧
     (match q with
      | none=>len+ys.length=0∧∃ ad,x' = .slice ad 0 0
      | some (b,C)=>x' = .slice (some ⟨b,0,none⟩) (len+ys.length) C∧len+ys.length≤C):=by
    rintro rfl
    refine ⟨_,w,some (b,cap),Gae (Vy ht) hsz hlc,rfl,rfl,rfl,Nat.le_refl _,fun _ _ _=>rfl,fun b' C' h=>by injection h with h;injection h with h1 h2;exact .inl ⟨cap,by rw [h1]⟩,?_,by simp,by simpa using hlc⟩
    refine ⟨cur,q2,q3,q4,by simp;omega,cellsOfRow _ [] cur hxl ⟨by simp,by simp [cellOf]⟩ hold (by simp)⟩
   rcases hsrc' with rfl | ⟨ad,us,rfl,hus,hcell⟩
   ·exact zeroCase rfl
   ·have hown:w.ownsRow 0 o.ty o.sz (.slice (some ⟨b,0,none⟩) len cap) len (cur.toList.take (len*o.sz)) :=
     ⟨hxl,.inr ⟨b,cap,cur,rfl,Nat.zero_le _,q2,hlc,q4,q3,rfl⟩⟩
    obtain ⟨v',w',hrun,hown',hgr,_,hat⟩:=run_append_own_at (P:=P) w 0 t ty o.ty inf zv o.sz by_ (Vy ht) hi hz' hs' hb' hzs hpos _ len _ hown ad ys.length capx us hus.1 hcell (hus.one hpos hwid) hml hbound (Nat.zero_le _)
    rcases hown'.2 with ⟨rfl,h0⟩ | ⟨g',cap',cur',rfl,_,k1,k2,k3,k4,k5⟩
    ·refine zeroCase ?_
     have:ys.length=0:=by omega
     exact List.eq_nil_of_length_eq_zero this
    ·refine ⟨_,w',some (g',cap'),hrun,hgr.os,hgr.tape,hgr.output,hgr.size,fun b' hb' hne=>hgr.block b' hb' (fun e=>hne cap (by simp [Value.ownBlock] at e;rw [e])),fun b' C' h=>?_,⟨cur',k1,k4,k3,by rw [List.length_append,htl];exact k2,cellsOfRow _ us cur' hxl hus hold k5⟩,rfl,k2⟩
     injection h with h
     injection h with h1 h2
     subst h1
     simp only [Value.ownBlock] at hat
     rcases hat with h | h
     ·injection h with h
      exact .inl ⟨cap,by rw [h]⟩
     ·injection h with h
      exact .inr (by omega)
 obtain ⟨x',w',q,hrun,k1,k2,k3,k4,k5,k6,k7,k8⟩:=key
 unfold Oper.wp
 rw [Gdg,hrun]
 obtain ⟨hst,hm'⟩:=hr.m.set (o':=⟨o.ty,o.sz,o.es.take len++ys,v+1⟩) hlt0 k1 k2 k3 k4 k5 (by simp;omega) (fun e=>absurd e (by simp;omega)) k6 hpos hwid' k7 hset.2.2
 have hrl:r<(low++loc).length:=(List.getElem?_eq_some_iff.1 hlt0).1
 refine hK x' w' (g.push r q) _ low' loc' ⟨rfl,rfl,rfl⟩ hset.2.1 ?_ (by rw [hset.1];exact hm') (by rw [hset.1];exact hst)
 rw [hset.1]
 refine .sl r (v+1) 0 _ ⟨o.ty,o.sz,o.es.take len++ys,v+1⟩ x' (by rw [List.getElem?_set_self hrl]) (Nat.le_refl _) ?_ fun _=>?_
 ·cases q with
  | none=>obtain ⟨_,ad,rfl⟩:=k8;rfl
  | some bc=>obtain ⟨b,C⟩:=bc;obtain ⟨rfl,_⟩:=k8;rfl
 ·refine ⟨by simp [htl],?_⟩
  rw [Gh.push_same]
  cases q with
  | none =>
   obtain ⟨h0,ad,rfl⟩:=k8
   exact ⟨rfl,h0,ad,rfl⟩
  | some bc =>
   obtain ⟨b,C⟩:=bc
   obtain ⟨rfl,hle⟩:=k8
   exact ⟨C,_,rfl,hle,fun _=>by simp,fun _=>⟨rfl,rfl⟩⟩

end
end Go.Aml
