/- The abstract memory logic, part H: append to nothing; slices of slices; bytes as strings; literals. -/
import Derived.Test.YticjalhfpjlbdaaAmlG
import Derived.Laws.BytesArg
import Derived.Laws.StructEq
import Derived.Laws.Slices
namespace Go.Aml
open Go

section
variable {P:Program} {nt:Nat} {Q:Xt} {E:Env} {low loc:List AObj} {d:Option Nat} {ty:TypeId} {pos:String} {aft:Array Edge} {gd:Option (Nat×Bool)} {x y z:Operand} {t:TypeId} {all:Array Oper} {rest:List Oper}

theorem Gjy {s:Operand} {te sz by_:Nat} {p:PV} {ys:List PV} {zv:Value} (hs:PE E s = .nils∨PE E s = .z0) (hx:PE E x=p) (hsrc:Ge1 low loc p sz ys) (hpos:0<sz)
  (ht:Wz P t=some te) (hsz:Ut P te=some sz) (hby:Yg P te=some by_) (hz:Wp P te=some zv) (hzs:zv.cells.size=sz) (hbound:ys.length*by_≤140737488355328) (h63:ys.length≤9223372036854775807) (hy:ys≠[]) :
  Gp4 P E low loc ⟨d,.call { callee:=.builtin .append,args:=#[s,x],argTypes:=#[t,t] },ty,pos,aft,none⟩ te sz ys (.sl (low.length+loc.length) 0 0 ys.length):=by
 have hsv:∀ g nt (a:Act) w,Rel g nt low.length E (low++loc) a w→∃ as,a.eval s = .slice as 0 0:=fun g nt a w hr=>by
  rcases hs with hs | hs
  ·exact ⟨none,(hs ▸ hr.e.eval s).nils_inv⟩
  ·exact (hs ▸ hr.e.eval s).z0_inv
 have hml:ys.length≤maxLen:=by unfold maxLen;omega
 intro g nt a w hr
 obtain ⟨as,hss⟩:=hsv g nt a w hr
 obtain ⟨hwid,ax,capx,hxx,hsrc'⟩:=hsrc.real hr.m (hx ▸ hr.e.eval x) hpos
 rcases hsrc' with rfl | ⟨ad,us,rfl,hus,hcell⟩
 ·exact absurd rfl hy
 cases hi:P.info? te with
 | none=>simp [Ut,hi] at hsz
 | some inf =>
 have hz':inf.zero=some zv:=by simpa [Wp,hi] using hz
 have hs':inf.size=sz:=by simpa [Ut,hi] using hsz
 have hb':inf.bytes=by_:=by simpa [Yg,hi] using hby
 have hul:us.length=ys.length*inf.size:=by rw [hs'];exact hus.1
 have hy1:0<ys.length:=List.length_pos_iff.2 hy
 have hcap:∃ C,(Builtin.append_ #[t,t] ty #[.slice as 0 0,.slice (some ad) ys.length capx]).run P w = .ok (.slice (some ⟨w.heap.size,0,none⟩) ys.length C) (w.drew.alloc (.cells (us.toArray++Builtin.zeroCells zv.cells (C-ys.length)) te))∧ys.length≤C∧C≤maxLen:=by
  refine ⟨grownCap w ys.length 0 te,?_,grownCap_ge w _ _ _,grownCap_le_maxLen w _ _ _ hml⟩
  cases as with
  | none=>exact run_append_nil w t ty te inf zv (Vy ht) hi hz' ad ys.length capx us hul hcell hy1 (by omega) (by rw [hb'];omega)
  | some bs =>
   have:=run_append_grow (P:=P) w t ty te inf zv (Vy ht) hi hz' bs 0 0 [] (by simp) (by simp) ad ys.length capx us hul hcell (by omega) (by omega) (growslice_fits (by omega) (by rw [hb',Nat.zero_add];omega))
   simpa using this
 obtain ⟨C,hrun,hC1,hC2⟩:=hcap
 refine ⟨us.toArray++Builtin.zeroCells zv.cells (C-ys.length),C,.slice (some ⟨w.heap.size,0,none⟩) ys.length C,w.drew,?_,.inr rfl,hpos,hwid,?_,hC2,hC1,fun i j c hc=>?_,fun g' w' hb=>Ggy hb hC1⟩
 ·rw [Gdg,hss,hxx,hrun]
  rfl
 ·simp only [Array.size_append,List.size_toArray,size_zeroCells,hzs,hus.1,← Nat.add_mul]
  congr 1
  omega
 ·obtain ⟨u,hu,h1,h2⟩:=hus.2 i j c hc
  refine ⟨u,?_,h1,h2⟩
  have hlt:=(List.getElem?_eq_some_iff.1 hu).1
  rw [Array.getElem?_append_left (by simpa using hlt)]
  simpa using hu

theorem Gjz {s:Operand} {te sz by_:Nat} {p:PV} {ys:List PV} {zv:Value} (hs:PE E s = .nils∨PE E s = .z0) (hx:PE E x=p) (hsrc:Ge1 low loc p sz ys) (hpos:0<sz)
  (ht:Wz P t=some te) (hsz:Ut P te=some sz) (hby:Yg P te=some by_) (hz:Wp P te=some zv) (hzs:zv.cells.size=sz) (hbound:ys.length*by_≤140737488355328) (h63:ys.length≤9223372036854775807) :
  VEf P ⟨d,.call { callee:=.builtin .append,args:=#[s,x],argTypes:=#[t,t] },ty,pos,aft,none⟩ E low loc fun v1 low1 loc1=>v1 = .sl (low.length+loc.length) 0 0 ys.length∧low1=low∧loc1=loc++[⟨te,sz,ys,0⟩]:=by
 have hsv:∀ g nt (a:Act) w,Rel g nt low.length E (low++loc) a w→∃ as,a.eval s = .slice as 0 0:=fun g nt a w hr=>by
  rcases hs with hs | hs
  ·exact ⟨none,(hs ▸ hr.e.eval s).nils_inv⟩
  ·exact (hs ▸ hr.e.eval s).z0_inv
 have hml:ys.length≤maxLen:=by unfold maxLen;omega
 by_cases hy:ys=[]
 ·subst hy
  intro g nt a w hr Kr Qr hK
  obtain ⟨as,hss⟩:=hsv g nt a w hr
  obtain ⟨_,ax,capx,hxx,_⟩:=hsrc.real hr.m (hx ▸ hr.e.eval x) hpos
  unfold Oper.wp
  rw [Gdg,hss,hxx,List.length_nil,Gae (Vy ht) hsz (Nat.le_refl _)]
  obtain ⟨hst,hm'⟩:=hr.m.new0 te sz hpos
  refine hK (.slice as 0 0) w (g.push (low++loc).length none) _ low (loc++[⟨te,sz,[],0⟩]) ⟨rfl,rfl,rfl⟩ rfl ?_ (by rw [← List.append_assoc];exact hm') (by rw [← List.append_assoc];exact hst)
  refine .sl _ 0 0 0 ⟨te,sz,[],0⟩ _ (by rw [← List.append_assoc,List.getElem?_append_right (by simp)];simp) (Nat.le_refl _) rfl fun _=>⟨by simp,?_⟩
  have hb:(g.push (low++loc).length none).β (low.length+loc.length)=none:=by rw [← List.length_append];exact Gh.push_same _ _ _
  rw [hb]
  exact ⟨rfl,rfl,as,rfl⟩
 ·exact Ge0 (Gjy hs hx hsrc hpos ht hsz hby hz hzs hbound h63 hy)

/-! ### slices of slices -/

def Gnd (E:Env) (dflt:Nat):Option Operand→Nat→Prop
 | none,l=>l=dflt
 | some o,l=>∃ k m,PE E o = .int k m∧m=(l:Int)

theorem Gdh {w:World} {te sz:Nat} {a:Option Addr} {len cap l h:Nat} {lo hi:Option Operand} {ac:Act} {g:Gh} {H:List AObj} (hr:RelE g H w nt E ac) (ht:Wz P t=some te) (hs:Ut P te=some sz) (hl:Gnd E 0 lo l) (hh:Gnd E len hi h) (hlh:l≤h) (hc:h≤cap) :
  (Instr.sliceAt t (.slice a len cap) (lo.map ac.eval) (hi.map ac.eval) (none:Option Value)).run P w = .ok (.slice (if cap=l then a else a.map (·.add (l*sz))) (h-l) (cap-l)) w:=by
 have hu:=Vy ht
 have hlv:lo=none∧l=0∨∃ k,lo.map ac.eval=some (.int k (l:Int)):=by
  cases lo with
  | none=>exact .inl ⟨rfl,hl⟩
  | some o =>
   obtain ⟨k,m,ho,rfl⟩:=hl
   exact .inr ⟨k,by simp [(ho ▸ hr.eval o).int_inv]⟩
 have hhv:hi=none∧h=len∨∃ k,hi.map ac.eval=some (.int k (h:Int)):=by
  cases hi with
  | none=>exact .inl ⟨rfl,hh⟩
  | some o =>
   obtain ⟨k,m,ho,rfl⟩:=hh
   exact .inr ⟨k,by simp [(ho ▸ hr.eval o).int_inv]⟩
 have hcap:((h:Nat):Int)≤(cap:Int):=by omega
 have hlh':((l:Nat):Int)≤(h:Int):=by omega
 rcases hlv with ⟨rfl,rfl⟩ | ⟨k,hlv⟩ <;> rcases hhv with ⟨rfl,rfl⟩ | ⟨k',hhv⟩
 ·simp [Instr.sliceAt,Instr.slice,run_underlying hu,Instr.sliceBounds,Ww hs]
 ·simp [Instr.sliceAt,Instr.slice,run_underlying hu,Instr.sliceBounds,Ww hs,hhv,Instr.sliceBound,asIntOf,hc]
 ·simp [Instr.sliceAt,Instr.slice,run_underlying hu,Instr.sliceBounds,Ww hs,hlv,Instr.sliceBound,asIntOf,hlh]
 ·simp [Instr.sliceAt,Instr.slice,run_underlying hu,Instr.sliceBounds,Ww hs,hlv,hhv,Instr.sliceBound,asIntOf,hlh,hc]

theorem Gei {es:List PV} {l h i j:Nat} {c:PV} (hc:cellOf ((es.take h).drop l) i j=some c):cellOf es (l+i) j=some c∧l+i<h:=by
 unfold cellOf at *
 rw [List.getElem?_drop] at hc
 by_cases hlt:l+i<h
 ·rw [List.getElem?_take_of_lt hlt] at hc
  exact ⟨hc,hlt⟩
 ·rw [List.getElem?_eq_none (by simp;omega)] at hc
  simp at hc

theorem Gne {sz te l h:Nat} {es es':List PV} {lo hi:Option Operand} (hx:PE E x = .vs sz es) (ht:Wz P t=some te) (hs:Ut P te=some sz) (hl:Gnd E 0 lo l) (hh:Gnd E es.length hi h) (hlh:l≤h) (hhe:h≤es.length) (he:(es.take h).drop l=es') :
  VRd P ⟨d,.slice t x lo hi none,ty,pos,aft,gd⟩ E low loc (.vs sz es'):=by
 intro g nt a w hr
 have hv:=hx ▸ hr.e.eval x
 subst he
 have hlen:((es.take h).drop l).length=h-l:=by simp;omega
 generalize hz:a.eval x=zv at hv
 cases hv with
 | imm hv =>
  cases hv with
  | vs0 sz ad cap =>
   simp only [List.length_nil,Nat.le_zero] at hhe
   subst hhe
   have hl0:l=0:=by omega
   subst hl0
   refine ⟨.slice (if cap=0 then ad else ad.map (·.add (0*sz))) (0-0) (cap-0),?_,.imm (.vs0 sz _ _)⟩
   have hh':Gnd E 0 hi 0:=hh
   simp only [execOp,hz,Option.map_none,Sem.run_bind,Gdh hr.e ht hs hl hh' hlh (Nat.zero_le _),Result.andThen_ok,Sem.run_pure]
  | vs _ _ b off cap u hle hF hsz hc h1 hvv =>
   by_cases hlt:l<h
   ·refine ⟨.slice (some ⟨b,off+l*sz,none⟩) (h-l) (cap-l),?_,?_⟩
    ·have hne:¬ cap=l:=by omega
     simp only [execOp,hz,Option.map_none,Sem.run_bind,Gdh hr.e ht hs hl hh hlh (Nat.le_trans hhe hle),Result.andThen_ok,Sem.run_pure,if_neg hne,Option.map_some,Addr.add_lit]
    ·have:=VI.vs (F:=g.F) (w:=w) sz ((es.take h).drop l) b (off+l*sz) (cap-l) (fun i j=>u (l+i) j) (by omega) hF
      (fun i e he=>by
       rw [List.getElem?_drop] at he
       by_cases hi2:l+i<h
       ·rw [List.getElem?_take_of_lt hi2] at he;exact hsz _ e he
       ·rw [List.getElem?_eq_none (by simp;omega)] at he;cases he)
      (fun i j c hcc=>by
       have:=hc (l+i) j c (Gei hcc).1
       rw [Nat.add_mul] at this
       rw [← this]
       congr 2
       omega)
      (fun i j c hcc=>h1 _ _ c (Gei hcc).1) (fun i j c hcc=>hvv _ _ c (Gei hcc).1)
     rw [hlen] at this
     exact .imm this
   ·have hle2:l=h:=by omega
    have he0:(es.take h).drop l=[]:=List.eq_nil_of_length_eq_zero (by rw [hlen];omega)
    rw [he0]
    refine ⟨.slice (if cap=l then some ⟨b,off,none⟩ else (some ⟨b,off,none⟩:Option Addr).map (·.add (l*sz))) 0 (cap-l),?_,.imm (.vs0 sz _ _)⟩
    simp only [execOp,hz,Option.map_none,Sem.run_bind,Gdh hr.e ht hs hl hh hlh (Nat.le_trans hhe hle),Result.andThen_ok,Sem.run_pure]
    rw [show h-l=0 by omega]

/-! ### bytes as a string -/

end
end Go.Aml
