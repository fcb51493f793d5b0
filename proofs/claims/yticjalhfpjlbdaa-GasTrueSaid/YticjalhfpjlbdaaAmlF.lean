/- The abstract memory logic, part F: store, append. -/
import Derived.Test.YticjalhfpjlbdaaAmlE
namespace Go.Aml
open Go

section
variable {P:Program} {nt:Nat} {Q:Xt} {E:Env} {low loc:List AObj} {d:Option Nat} {ty:TypeId} {pos:String} {aft:Array Edge} {x y z:Operand} {t:TypeId} {all:Array Oper} {rest:List Oper}

theorem Gla {es:List PV} {i:Nat} {e e':PV} (he:es[i]?=some e) (i' j':Nat):cellOf (es.set i e') i' j'=if i'=i then e'.cells[j']? else cellOf es i' j':=by
 unfold cellOf
 by_cases h:i'=i
 ·subst h
  have hl:=(List.getElem?_eq_some_iff.1 he).1
  simp [hl]
 ·simp [h,List.getElem?_set_ne (Ne.symm h)]

theorem Jg {r v i j:Nat} {o:AObj} {p e e':PV} {low' loc':List AObj} (hx:PE E x = .ptr r v i j) (ho:Gbq low loc r o) (hv:o.ver=v) (hy:PE E y=p) (hsz:Ut P t=some p.cells.length)
  (hone:p.cells.all PV.one=true) (ht:∀ vs,p ≠ .tup vs) (he:o.es[i]?=some e) (hj:j+p.cells.length≤e.cells.length) (he':e'.cells=e.cells.take j++p.cells++e.cells.drop (j+p.cells.length))
  (hset:Gi2 low loc r ⟨o.ty,o.sz,o.es.set i e',o.ver⟩ low' loc') :
  VEf P ⟨d,.store t x y,ty,pos,aft,none⟩ E low loc fun v1 low1 loc1=>v1 = .any∧low1=low'∧loc1=loc':=by
 intro g nt a w hr Kr Qr hK
 obtain ⟨b,C,cur,hz,hb,hil,hheap,hC,hle,hcells⟩:=Ggz hr.m (hx ▸ hr.e.eval x) ho hv
 have hvr:=hy ▸ hr.e.eval y
 obtain ⟨hlen,hvc⟩:=hvr.cellsR hone ht
 have hob:=hr.m.obj r o ho
 have hwid:=hob.width i e he
 have hfit:i*o.sz+j+0+(a.eval y).cells.toList.length≤cur.size:=by
  rw [hC,hlen]
  have:(i+1)*o.sz≤C*o.sz:=Nat.mul_le_mul_right _ (by omega)
  rw [Nat.add_mul,Nat.one_mul] at this
  omega
 have h1:∀ u ∈ (a.eval y).cells.toList,u.oneCell'=true:=by
  intro u hu
  obtain ⟨k,hk,rfl⟩:=List.getElem_of_mem hu
  have hk':k<p.cells.length:=by omega
  obtain ⟨u,hu,h2,_⟩:=hvc k _ (List.getElem?_eq_getElem hk')
  have:(a.eval y).cells.toList[k]=u:=by
   rw [← Array.getElem?_toList,List.getElem?_eq_getElem hk] at hu
   injection hu
  rw [this]
  exact h2
 have hst:=run_storeCells_at P b (i*o.sz+j) o.ty (a.eval y).cells.toList 0 cur w hheap hfit h1
 simp only [Nat.add_zero] at hst
 have hlt0:(low++loc)[r]?=some o:=ho
 have hrun:(execOp a.eval ⟨d,.store t x y,ty,pos,aft,none⟩).run P w = .ok .skip (w.setRow b (cur.toList.take (i*o.sz+j)++(a.eval y).cells.toList++cur.toList.drop (i*o.sz+j+(a.eval y).cells.toList.length)).toArray):=by
  have hsz2:(a.eval y).cells.size=p.cells.length:=by simpa using hlen
  simp only [execOp,hz,Instr.storeAt,Instr.sureAddr,Sem.run_bind,Sem.run_pure,Result.andThen_ok,storeVar,Ww hsz,hsz2,ne_eq,not_true_eq_false,if_false,hst]
 unfold Oper.wp
 rw [hrun]
 generalize hcur':(cur.toList.take (i*o.sz+j)++(a.eval y).cells.toList++cur.toList.drop (i*o.sz+j+(a.eval y).cells.toList.length)).toArray=cur'
 have hsize':cur'.size=cur.size:=by
  rw [← hcur']
  simp only [List.size_toArray,List.length_append,List.length_take,List.length_drop,Array.length_toList]
  simp at hfit ⊢
  omega
 have hin:∀ k,k<p.cells.length→cur'[i*o.sz+j+k]?=(a.eval y).cells[k]?:=fun k hk=>by
  rw [← hcur',List.getElem?_toArray,List.append_assoc,List.getElem?_append_right (by simp;omega),List.getElem?_append_left (by simp at hlen ⊢;omega)]
  simp
  congr 1
  simp at hfit
  omega
 have hout:∀ q,q<i*o.sz+j∨i*o.sz+j+p.cells.length≤q→cur'[q]?=cur[q]?:=fun q hq=>by
  rw [← hcur',List.getElem?_toArray]
  simp at hfit
  rcases hq with hq | hq
  ·rw [List.append_assoc,List.getElem?_append_left (by simp;omega),List.getElem?_take_of_lt hq]
   simp
  ·rw [List.getElem?_append_right (by simp at hlen ⊢;omega),List.getElem?_drop]
   simp at hlen ⊢
   congr 1
   omega
 have hmin:i*o.sz+j≤cur.size:=by simp at hfit;omega
 have key:=hr.m.set (r:=r) (o:=o) (o':=⟨o.ty,o.sz,o.es.set i e',o.ver⟩) (w':=w.setRow b cur') (p:=some (b,C)) hlt0 rfl rfl rfl (by simp)
  (fun b' hb' hne=>setRow_other w b b' cur' (fun e=>hne C (by rw [e];exact hb))) (Nat.le_refl _) (fun _=>⟨rfl,by simp,hb.symm⟩)
  (fun b' C' h=>by injection h with h;injection h with h1 h2;subst h1;exact .inl ⟨C,hb⟩) hob.pos
  (fun i' e1 h'=>by
   by_cases hi:i'=i
   ·subst hi
    simp [hil] at h'
    subst h'
    rw [he']
    simp
    omega
   ·simp only at h'
    rw [List.getElem?_set_ne (Ne.symm hi)] at h'
    exact hob.width i' e1 h')
  (by
   have hob':=hob.mem
   rw [hb] at hob'
   obtain ⟨_,cells0,q2,q3,q4,q5,q6⟩:=hob'
   refine ⟨cur',setRow_heap w b cur cur' o.ty (0,0) hheap,by rw [hsize',hC],q4,by simpa using hle,fun i' j' c hc=>?_⟩
   show ∃ u,cur'[i'*o.sz+j']?=some u∧u.oneCell'=true∧VR g (low++loc) w c u
   simp only at hc
   rw [Gla he] at hc
   by_cases hi:i'=i
   ·subst hi
    rw [if_pos rfl,he',List.append_assoc] at hc
    by_cases hj1:j'<j
    ·rw [List.getElem?_append_left (by simp;omega),List.getElem?_take_of_lt hj1] at hc
     obtain ⟨u,hu,h2,h3⟩:=hcells i' j' c (by unfold cellOf;rw [he];exact hc)
     exact ⟨u,(hout _ (.inl (by omega))).trans hu,h2,h3⟩
    ·rw [List.getElem?_append_right (by simp;omega)] at hc
     have hmj:min j e.cells.length=j:=by omega
     simp only [List.length_take,hmj] at hc
     by_cases hj2:j'-j<p.cells.length
     ·rw [List.getElem?_append_left hj2] at hc
      obtain ⟨u,hu,h2,h3⟩:=hvc _ c hc
      refine ⟨u,?_,h2,h3⟩
      have:=hin (j'-j) hj2
      rw [show i'*o.sz+j+(j'-j)=i'*o.sz+j' by omega] at this
      exact this.trans hu
     ·rw [List.getElem?_append_right (by omega),List.getElem?_drop] at hc
      rw [show j+p.cells.length+(j'-j-p.cells.length)=j' by omega] at hc
      obtain ⟨u,hu,h2,h3⟩:=hcells i' j' c (by unfold cellOf;rw [he];exact hc)
      exact ⟨u,(hout _ (.inr (by omega))).trans hu,h2,h3⟩
   ·rw [if_neg hi] at hc
    obtain ⟨u,hu,h2,h3⟩:=hcells i' j' c hc
    refine ⟨u,(hout _ ?_).trans hu,h2,h3⟩
    obtain ⟨e1,he1,hj'⟩:=Yq hc
    have hw1:=hob.width i' e1 he1
    rcases Nat.lt_or_gt_of_ne hi with hlt | hgt
    ·have:(i'+1)*o.sz≤i*o.sz:=Nat.mul_le_mul_right _ hlt
     rw [Nat.add_mul,Nat.one_mul] at this
     exact .inl (by omega)
    ·have:(i+1)*o.sz≤i'*o.sz:=Nat.mul_le_mul_right _ hgt
     rw [Nat.add_mul,Nat.one_mul] at this
     exact .inr (by omega))
  hset.2.2
 obtain ⟨hs,hm'⟩:=key
 exact hK undef _ (g.push r (some (b,C))) .any low' loc' ⟨rfl,rfl,rfl⟩ hset.2.1 (.any _) (by rw [hset.1];exact hm') (by rw [hset.1];exact hs)

/-! ### append -/

def Ge1 (low loc:List AObj) (p:PV) (sz:Nat) (ys:List PV):Prop :=
 p = .vs sz ys∨(p = .nils∧ys=[])∨(p = .z0∧ys=[])∨∃ r v off len o,p = .sl r v off len∧Gbq low loc r o∧o.ver=v∧o.sz=sz∧ys=(o.es.drop off).take len

theorem Gg0 {n sz q:Nat} (hp:0<sz) (h:q<n*sz):q / sz<n∧q % sz<sz∧q / sz*sz+q % sz=q:=by
 refine ⟨(Nat.div_lt_iff_lt_mul hp).2 h,Nat.mod_lt _ hp,?_⟩
 rw [Nat.mul_comm]
 exact Nat.div_add_mod q sz

theorem Gh6 {es:List PV} {sz i j:Nat} (hw:∀ (i:Nat) (e:PV),es[i]?=some e→e.cells.length=sz) (hi:i<es.length) (hj:j<sz):∃ c,cellOf es i j=some c:=by
 have he:=List.getElem?_eq_getElem hi
 have:=hw i _ he
 refine ⟨es[i].cells[j]'(by omega),?_⟩
 unfold cellOf
 rw [he]
 exact List.getElem?_eq_getElem (by omega)

theorem Gej.one {g:Gh} {H:List AObj} {w:World} {sz:Nat} {es:List PV} {us:List Value} (h:Gej g H w sz es us) (hp:0<sz) (hw:∀ (i:Nat) (e:PV),es[i]?=some e→e.cells.length=sz):∀ u ∈ us,u.oneCell'=true:=by
 intro u hu
 obtain ⟨q,hq,rfl⟩:=List.getElem_of_mem hu
 obtain ⟨h1,h2,h3⟩:=Gg0 hp (h.1 ▸ hq)
 obtain ⟨c,hc⟩:=Gh6 hw h1 h2
 obtain ⟨u,hu',h4,_⟩:=h.2 _ _ _ hc
 rw [h3,List.getElem?_eq_getElem hq] at hu'
 injection hu' with hu'
 rw [hu']
 exact h4

theorem Ge1.real {g:Gh} {n:Nat} {w:World} {p:PV} {sz:Nat} {ys:List PV} {v:Value} (hm:RelM g n (low++loc) w) (h:Ge1 low loc p sz ys) (hv:VR g (low++loc) w p v) (hp:0<sz) :
  (∀ (i:Nat) (e:PV),ys[i]?=some e→e.cells.length=sz)∧∃ a cap,v = .slice a ys.length cap∧(ys=[]∨∃ ad us,a=some ad∧Gej g (low++loc) w sz ys us∧∀ j u,us[j]?=some u→w.cell? (ad.add j)=some u):=by
 rcases h with rfl | ⟨rfl,rfl⟩ | ⟨rfl,rfl⟩ | ⟨r,v',off,len,o,rfl,ho,hver,hsz,rfl⟩
 ·cases hv with
  | imm hv =>
   cases hv with
   | vs0 sz a cap=>exact ⟨by simp,a,cap,rfl,.inl rfl⟩
   | vs _ _ b off cap u hl hF hsz hc h1 hvv =>
    refine ⟨hsz,some ⟨b,off,none⟩,cap,rfl,.inr ⟨⟨b,off,none⟩,(List.range (ys.length*sz)).map fun q=>u (q / sz) (q % sz),rfl,⟨by simp,fun i j c hcc=>?_⟩,fun q u' hu'=>?_⟩⟩
    ·obtain ⟨e,he,hj⟩:=Yq hcc
     have hi:=(List.getElem?_eq_some_iff.1 he).1
     have hw:=hsz i e he
     have hlt:i*sz+j<ys.length*sz:=by
      have:(i+1)*sz≤ys.length*sz:=Nat.mul_le_mul_right _ (by omega)
      rw [Nat.add_mul,Nat.one_mul] at this
      omega
     refine ⟨u i j,?_,h1 i j c hcc,.imm (hvv i j c hcc)⟩
     rw [List.getElem?_map,List.getElem?_range hlt]
     have e1:(i*sz+j) / sz=i:=by rw [Nat.mul_comm,Nat.mul_add_div hp,Nat.div_eq_of_lt (by omega)];omega
     have e2:(i*sz+j) % sz=j:=by rw [Nat.mul_comm,Nat.mul_add_mod,Nat.mod_eq_of_lt (by omega)]
     simp [e1,e2]
    ·have hq:q<ys.length*sz:=by
      have:=(List.getElem?_eq_some_iff.1 hu').1
      simpa using this
     rw [List.getElem?_map,List.getElem?_range hq] at hu'
     simp at hu'
     subst hu'
     obtain ⟨k1,k2,k3⟩:=Gg0 hp hq
     obtain ⟨c,hcc⟩:=Gh6 hsz k1 k2
     have:=hc _ _ _ hcc
     rw [k3] at this
     rw [Addr.add_lit]
     exact this
 ·exact ⟨by simp,none,0,hv.nils_inv,.inl rfl⟩
 ·obtain ⟨a,ha⟩:=hv.z0_inv
  exact ⟨by simp,a,0,ha,.inl rfl⟩
 ·have hsl:=Ggv hv ho hver
  have hob:=hm.obj r o ho
  subst hsz
  unfold SL at hsl
  obtain ⟨hlen,hsl⟩:=hsl
  have hl:((o.es.drop off).take len).length=len:=by simp;omega
  refine ⟨fun i e he=>?_,?_⟩
  ·rw [List.getElem?_take] at he
   split at he
   ·rw [List.getElem?_drop] at he
    exact hob.width _ e he
   ·cases he
  ·rw [hl]
   split at hsl
   ·obtain ⟨_,rfl,a,rfl⟩:=hsl
    exact ⟨a,0,rfl,.inl (by simp)⟩
   ·rename_i b C hb
    obtain ⟨cap,a,rfl,_,hne,_⟩:=hsl
    refine ⟨a,cap,rfl,?_⟩
    by_cases h0:len=0
    ·exact .inl (by simp [h0])
    ·obtain rfl:=hne h0
     have hmem:=hob.mem
     rw [hb] at hmem
     obtain ⟨_,cells,q2,q3,q4,q5,q6⟩:=hmem
     have hle:(off+len)*o.sz≤C*o.sz:=Nat.mul_le_mul_right _ (by omega)
     rw [Nat.add_mul] at hle
     refine .inr ⟨⟨b,off*o.sz,none⟩,(cells.toList.drop (off*o.sz)).take (len*o.sz),rfl,⟨by rw [hl,List.length_take,List.length_drop,Array.length_toList,q3];omega,fun i j c hc=>?_⟩,fun q u hu=>?_⟩
     ·obtain ⟨e,he,hj⟩:=Yq hc
      rw [List.getElem?_take] at he
      split at he
      ·rename_i hi
       rw [List.getElem?_drop] at he
       have hw:=hob.width _ e he
       have hc':cellOf o.es (off+i) j=some c:=by
        unfold cellOf at hc ⊢
        rw [List.getElem?_take_of_lt hi,List.getElem?_drop] at hc
        exact hc
       obtain ⟨u,hu,h1,h2⟩:=q6 _ _ _ hc'
       refine ⟨u,?_,h1,h2⟩
       have hlt:i*o.sz+j<len*o.sz:=by
        have:(i+1)*o.sz≤len*o.sz:=Nat.mul_le_mul_right _ (by omega)
        rw [Nat.add_mul,Nat.one_mul] at this
        omega
       rw [List.getElem?_take_of_lt hlt,List.getElem?_drop,Array.getElem?_toList,← Nat.add_assoc,← Nat.add_mul]
       exact hu
      ·cases he
     ·rw [List.getElem?_take] at hu
      split at hu
      ·rw [List.getElem?_drop,Array.getElem?_toList] at hu
       rw [Addr.add_lit,cell_of_row w b _ cells o.ty (0,0) q2]
       exact hu
      ·cases hu

end
end Go.Aml
