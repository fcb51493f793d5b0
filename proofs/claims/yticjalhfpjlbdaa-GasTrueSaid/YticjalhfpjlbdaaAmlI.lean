/- The abstract memory logic, part I: literals. -/
import Derived.Test.YticjalhfpjlbdaaAmlH
namespace Go.Aml
open Go

theorem Gex (off:Nat):∀ (us:List Value) (j:Nat) (cs:Array Value),off+j+us.length≤cs.size →
  (us.zipIdx j).foldl (fun cs p=>cs.setIfInBounds (off+p.2) p.1) cs=(cs.toList.take (off+j)++us++cs.toList.drop (off+j+us.length)).toArray
 | [],j,cs,_=>by simp
 | u::us,j,cs,h=>by
  rw [List.zipIdx_cons,List.foldl_cons,Gex off us (j+1) _ (by simp at h ⊢;omega)]
  simp only [List.length_cons] at h
  congr 1
  apply List.ext_getElem?
  intro k
  simp only [Array.toList_setIfInBounds,List.length_cons]
  by_cases h1:k<off+j
  ·rw [List.append_assoc,List.append_assoc,List.getElem?_append_left (by simp;omega),List.getElem?_append_left (by simp;omega),List.getElem?_take_of_lt (by omega),List.getElem?_take_of_lt h1,List.getElem?_set_ne (by omega)]
  ·by_cases h2:k=off+j
   ·subst h2
    rw [List.append_assoc,List.append_assoc,List.getElem?_append_left (by simp;omega),List.getElem?_take_of_lt (by omega),List.getElem?_set_self (by simp;omega),List.getElem?_append_right (by simp;omega)]
    have:min (off+j) cs.size=off+j:=by omega
    simp [this]
   ·rw [List.append_assoc,List.append_assoc,List.getElem?_append_right (l₁:=(cs.toList.set (off+j) u).take (off+(j+1))) (by simp;omega),List.getElem?_append_right (l₁:=cs.toList.take (off+j)) (by simp;omega)]
    have e1:min (off+(j+1)) cs.size=off+(j+1):=by omega
    have e2:min (off+j) cs.size=off+j:=by omega
    simp only [List.length_take,List.length_set,Array.length_toList,e1,e2,List.cons_append]
    rw [show k-(off+j)=(k-(off+(j+1)))+1 by omega,List.getElem?_cons_succ]
    by_cases h3:k-(off+(j+1))<us.length
    ·rw [List.getElem?_append_left h3,List.getElem?_append_left h3]
    ·rw [List.getElem?_append_right (by omega),List.getElem?_append_right (by omega),List.getElem?_drop,List.getElem?_drop,List.getElem?_set_ne (by omega)]
     congr 1
     omega

theorem Gnc {place:Nat→Option (Nat×Nat)} {cells:Array Value} {i off size:Nat} {v:Value} {rest:List (Nat×Value)} (hp:place i=some (off,size)) (hs:v.cells.size=size) (hfit:off+size≤cells.size) :
  Instr.fill place cells ((i,v)::rest)=Instr.fill place (cells.toList.take off++v.cells.toList++cells.toList.drop (off+size)).toArray rest:=by
 have h1:(decide (v.cells.size≠size)||decide (off+v.cells.size>cells.size))=false:=by simp [hs];omega
 simp only [Instr.fill,hp]
 rw [if_neg (by simp [hs];omega)]
 congr 1
 have:=Gex off v.cells.toList 0 cells (by simp [hs];omega)
 simp only [Nat.add_zero,Array.length_toList,hs] at this
 rw [← this,← Array.foldl_toList,Array.toList_zipIdx]

def Gbx (E:Env):List (Nat×Operand)→List (Nat×PV)→Prop
 | [],[]=>True
 | (i,o)::r,(j,v)::s=>i=j∧PE E o=v∧Gbx E r s
 | _,_=>False

def Gey (place:Nat→Option (Nat×Nat)) (cells:List PV):List (Nat×PV)→Option (List PV)
 | []=>some cells
 | (i,v)::r =>
  match place i with
  | none=>none
  | some (off,size)=>bif Nat.beq v.cells.length size&&Nat.ble (off+size) cells.length&&v.cells.all PV.one then Gey place (cells.take off++v.cells++cells.drop (off+size)) r else none

def Gp3 (g:Gh) (H:List AObj) (w:World) (cs:List PV) (us:Array Value):Prop :=
 us.size=cs.length∧∀ (j:Nat) (c:PV),cs[j]?=some c→∃ u,us[j]?=some u∧u.oneCell'=true∧VR g H w c u

theorem Gez {g:Gh} {H:List AObj} {w:World} {nt:Nat} {E:Env} {a:Act} (hr:RelE g H w nt E a) (place:Nat→Option (Nat×Nat)):∀ (ps:List (Nat×Operand)) (vs:List (Nat×PV)) (cs:List PV) (us:Array Value) (ds:List PV),
  Gbx E ps vs→(∀ i v,(i,v) ∈ vs→∀ ws,v ≠ .tup ws)→Gp3 g H w cs us→Gey place cs vs=some ds→∃ us',Instr.fill place us (ps.map fun (i,x)=>(i,a.eval x))=some us'∧Gp3 g H w ds us'
 | [],[],cs,us,ds,_,_,hrow,hf=>by
  simp only [Gey,Option.some.injEq] at hf
  subst hf
  exact ⟨us,rfl,hrow⟩
 | (i,o)::ps,(j,v)::vs,cs,us,ds,hp,htup,hrow,hf=>by
  obtain ⟨rfl,hv,hps⟩:=hp
  simp only [Gey] at hf
  cases hpl:place i with
  | none=>simp [hpl] at hf
  | some p =>
   obtain ⟨off,size⟩:=p
   simp only [hpl] at hf
   cases hb:(Nat.beq v.cells.length size&&Nat.ble (off+size) cs.length&&v.cells.all PV.one) with
   | false=>simp [hb] at hf
   | true =>
    rw [hb] at hf
    simp only [cond_true] at hf
    simp only [Bool.and_eq_true] at hb
    obtain ⟨⟨h1,h2⟩,h3⟩:=hb
    have h1:=Nat.eq_of_beq_eq_true h1
    have h2:=Nat.le_of_ble_eq_true h2
    have hvr:=hv ▸ hr.eval o
    obtain ⟨hlen,hcells⟩:=hvr.cellsR h3 (htup i v (by simp))
    have hsz:(a.eval o).cells.size=size:=by simp at hlen;omega
    rw [List.map_cons,Gnc hpl hsz (by rw [hrow.1];exact h2)]
    refine Gez hr place ps vs _ _ ds hps (fun i v hm=>htup i v (by simp [hm])) ⟨?_,fun k c hc=>?_⟩ hf
    ·simp only [List.size_toArray,List.length_append,List.length_take,List.length_drop,Array.length_toList,hrow.1,hsz,h1]
    ·rw [List.getElem?_toArray]
     have e1:min off us.size=off:=by rw [hrow.1];omega
     have e2:min off cs.length=off:=by omega
     by_cases hk:k<off
     ·rw [List.append_assoc,List.getElem?_append_left (by simp;omega),List.getElem?_take_of_lt hk] at hc ⊢
      simpa using hrow.2 k c hc
     ·rw [List.append_assoc,List.getElem?_append_right (by simp;omega)] at hc ⊢
      simp only [List.length_take,Array.length_toList,e1,e2] at hc ⊢
      by_cases hk2:k-off<size
      ·rw [List.getElem?_append_left (by omega)] at hc
       rw [List.getElem?_append_left (by simp;omega)]
       simpa using hcells _ c hc
      ·rw [List.getElem?_append_right (by omega),List.getElem?_drop] at hc
       rw [List.getElem?_append_right (by simp;omega),List.getElem?_drop]
       simp only [Array.length_toList,h1,hsz] at hc ⊢
       simpa using hrow.2 _ c hc

section
variable {P:Program} {nt:Nat} {Q:Xt} {E:Env} {low loc:List AObj} {d:Option Nat} {ty:TypeId} {pos:String} {aft:Array Edge} {gd:Option (Nat×Bool)} {x y z:Operand} {t:TypeId} {all:Array Oper} {rest:List Oper}

def Yk (P:Program) (t:TypeId):Option (List (Nat×Nat)) :=
 match P.underlying t with
 | some (.struct fs)=>fs.toList.mapM fun f=>(P.info? f.type).map fun i=>(f.offset,i.size)
 | _=>none

theorem Goi {v:Value} {c:PV} (h:Gf6 v=c) (hc:c.one=true):v.oneCell'=true:=by
 subst h
 unfold Gf6 at hc
 split at hc <;> first | rfl | (simp [PV.one] at hc;done)

theorem Gjx {g:Gh} {H:List AObj} {w:World} {zs:List Value} (hone:(zs.map Gf6).all PV.one=true):Gp3 g H w (zs.map Gf6) zs.toArray:=by
 refine ⟨by simp,fun j c hc=>?_⟩
 rw [List.getElem?_map] at hc
 cases hz:zs[j]? with
 | none=>simp [hz] at hc
 | some z =>
  simp [hz] at hc
  refine ⟨z,by simp [hz],Goi hc ?_,hc ▸ .imm (Gi1 _ _ _)⟩
  exact List.all_eq_true.1 hone c (by rw [← hc];exact List.mem_map.2 ⟨z,List.mem_of_getElem? hz,rfl⟩)

theorem Sk {ps:List (Nat×Operand)} {vs:List (Nat×PV)} {zs:List Value} {cs ds:List PV} {pl:List (Nat×Nat)} (hz:Wp P t=some (.agg zs.toArray)) (hcs:zs.map Gf6=cs) (hone:cs.all PV.one=true) (hpl:Yk P t=some pl)
  (hps:Gbx E ps vs) (htup:∀ i v,(i,v) ∈ vs→∀ ws,v ≠ .tup ws) (hf:Gey (pl.toArray[·]?) cs vs=some ds):VRd P ⟨d,.build t ps.toArray,ty,pos,aft,gd⟩ E low loc (.agg ds):=by
 intro g nt a w hr
 subst hcs
 obtain ⟨us',h1,h2⟩:=Gez hr.e _ ps vs _ _ ds hps htup (Gjx hone) hf
 refine ⟨.agg us',?_,?_⟩
 ·have hb:P.built t ((ps.toArray.map fun (i,x)=>(i,a.eval x)).toList)=some us':=by
   unfold Yk at hpl
   unfold Wp at hz
   cases hi:P.info? t with
   | none=>simp [hi] at hz
   | some inf =>
    simp [hi] at hz
    split at hpl
    ·rename_i fs hu
     simp only [Program.built,hi,hu,hz,hpl]
     simpa [Value.cells] using h1
    ·cases hpl
  simp only [execOp,Sem.run_bind,run_build w t _ us' hb,Result.andThen_ok]
  rfl
 ·have:=VR.agg (g:=g) (H:=low++loc) (w:=w) ds us'.toList (by simp [h2.1]) (fun i c x hc hx=>by
   obtain ⟨u,hu,_,hv⟩:=h2.2 i c hc
   rw [Array.getElem?_toList,hu] at hx
   injection hx with hx
   exact hx ▸ hv)
  simpa using this

theorem Gna {ps:List (Nat×Operand)} {vs:List (Nat×PV)} {zs:List Value} {cs ds:List PV} {n te sz:Nat} (hz:Wp P t=some (.agg zs.toArray)) (hcs:zs.map Gf6=cs) (hone:cs.all PV.one=true) (hpl:God P t=some (n,te)) (hsz:Ut P te=some sz)
  (hps:Gbx E ps vs) (htup:∀ i v,(i,v) ∈ vs→∀ ws,v ≠ .tup ws) (hf:Gey (fun i=>some (i*sz,sz)) cs vs=some ds):VRd P ⟨d,.build t ps.toArray,ty,pos,aft,gd⟩ E low loc (.agg ds):=by
 intro g nt a w hr
 subst hcs
 obtain ⟨us',h1,h2⟩:=Gez hr.e _ ps vs _ _ ds hps htup (Gjx hone) hf
 refine ⟨.agg us',?_,?_⟩
 ·have hb:P.built t ((ps.toArray.map fun (i,x)=>(i,a.eval x)).toList)=some us':=by
   unfold Wp at hz
   unfold Ut at hsz
   cases hi:P.info? t with
   | none=>simp [hi] at hz
   | some inf =>
    simp [hi] at hz
    cases hie:P.info? te with
    | none=>simp [hie] at hsz
    | some ie =>
     simp [hie] at hsz
     simp only [Program.built,hi,Ggw hpl,hz,hie,hsz]
     simpa [Value.cells] using h1
  simp only [execOp,Sem.run_bind,run_build w t _ us' hb,Result.andThen_ok]
  rfl
 ·have:=VR.agg (g:=g) (H:=low++loc) (w:=w) ds us'.toList (by simp [h2.1]) (fun i c x hc hx=>by
   obtain ⟨u,hu,_,hv⟩:=h2.2 i c hc
   rw [Array.getElem?_toList,hu] at hx
   injection hx with hx
   exact hx ▸ hv)
  simpa using this

def Yr:Nat→List PV→List (Nat×PV)
 | _,[]=>[]
 | k,v::r=>(k,v)::Yr (k+1) r

theorem Gh5 (sz:Nat):∀ (es:List PV) (k:Nat) (cs:List PV),(∀ e ∈ es,e.cells.length=sz∧e.cells.all PV.one=true)→cs.length=(k+es.length)*sz →
  Gey (fun i=>some (i*sz,sz)) cs (Yr k es)=some (cs.take (k*sz)++es.flatMap (·.cells))
 | [],k,cs,_,hl=>by
  simp only [Yr,Gey,List.flatMap_nil,List.append_nil]
  rw [List.take_of_length_le (by simp at hl;omega)]
 | e::es,k,cs,h,hl=>by
  obtain ⟨h1,h2⟩:=h e (by simp)
  have hle:(k+1)*sz≤(k+(e::es).length)*sz:=Nat.mul_le_mul_right _ (by simp)
  rw [Nat.add_mul,Nat.one_mul] at hle
  have e1:Nat.beq e.cells.length sz=true:=by rw [h1];exact Nat.beq_refl sz
  have e2:Nat.ble (k*sz+sz) cs.length=true:=Nat.ble_eq ▸ (by omega)
  simp only [Yr,Gey,e1,e2,h2,Bool.and_true,cond_true]
  have hlen:(cs.take (k*sz)++e.cells++cs.drop (k*sz+sz)).length=(k+1+es.length)*sz:=by
   simp only [List.length_append,List.length_take,List.length_drop,h1]
   have:(k+(e::es).length)*sz=(k+1+es.length)*sz:=by congr 1;simp;omega
   omega
  rw [Gh5 sz es (k+1) _ (fun e he=>h e (by simp [he])) hlen]
  congr 1
  have hmin:min (k*sz) cs.length=k*sz:=by omega
  rw [List.take_append_of_le_length (by simp [h1];rw [Nat.add_mul];omega),List.take_of_length_le (by simp [h1];rw [Nat.add_mul];omega)]
  simp

theorem Ggx {sz:Nat}:∀ (es:List PV) (i j:Nat) (c:PV),(∀ e ∈ es,e.cells.length=sz)→cellOf es i j=some c→(es.flatMap (·.cells))[i*sz+j]?=some c
 | [],i,j,c,_,h=>by simp [cellOf] at h
 | e::es,0,j,c,hw,h=>by
  simp [cellOf] at h
  rw [List.flatMap_cons,Nat.zero_mul,Nat.zero_add,List.getElem?_append_left (List.getElem?_eq_some_iff.1 h).1]
  exact h
 | e::es,i+1,j,c,hw,h=>by
  have h':cellOf es i j=some c:=by simpa [cellOf] using h
  rw [List.flatMap_cons,List.getElem?_append_right (by rw [hw e (by simp),Nat.add_mul];omega),hw e (by simp)]
  rw [show (i+1)*sz+j-sz=i*sz+j by rw [Nat.add_mul];omega]
  exact Ggx es i j c (fun e he=>hw e (by simp [he])) h'

theorem Gmf {ps:List (Nat×Operand)} {es:List PV} {te sz n:Nat} {zv:Value} (hps:Gbx E ps (Yr 0 es)) (hn:es.length=n) (hwid:es.all (fun e=>Nat.beq e.cells.length sz&&e.cells.all PV.one)=true) (htup:∀ e ∈ es,∀ ws,e ≠ .tup ws)
  (ht:Wz P t=some te) (hsz:Ut P te=some sz) (hz:Wp P te=some zv) (hzs:zv.cells.size=sz) (hzone:zv.cells.toList.all (·.oneCell')=true) (hpos:0<sz) (h24:n*sz≤16777216) :
  Gp4 P E low loc ⟨d,.buildSlice t n ps.toArray,ty,pos,aft,none⟩ te sz es (.sl (low.length+loc.length) 0 0 n):=by
 subst hn
 have hwid':∀ e ∈ es,e.cells.length=sz∧e.cells.all PV.one=true:=fun e he=>by
  have:=List.all_eq_true.1 hwid e he
  simp only [Bool.and_eq_true] at this
  exact ⟨Nat.eq_of_beq_eq_true this.1,this.2⟩
 intro g nt a w hr
 -- the zero row
 let z0:List Value:=(List.range (es.length*sz)).map fun q=>zv.cells.getD (q % zv.cells.size) undef
 have hanys:Gp3 g (low++loc) w ((List.range (es.length*sz)).map fun _=>PV.any) z0.toArray:=by
  refine ⟨by simp [z0],fun j c hc=>?_⟩
  have hj:j<es.length*sz:=by
   have:=(List.getElem?_eq_some_iff.1 hc).1
   simpa using this
  rw [List.getElem?_map,List.getElem?_range hj] at hc
  simp at hc
  subst hc
  refine ⟨zv.cells.getD (j % zv.cells.size) undef,by simp [z0,List.getElem?_range hj],?_,.any _⟩
  have hlt:j % zv.cells.size<zv.cells.size:=Nat.mod_lt _ (by omega)
  have:=List.all_eq_true.1 hzone (zv.cells[j % zv.cells.size]) (by simp)
  simpa [hlt] using this
 obtain ⟨us,h1,h2⟩:=Gez hr.e (fun i=>some (i*sz,sz)) ps (Yr 0 es) _ _ _ hps (fun i v hm=>by
   have:∀ (k:Nat) (l:List PV),(i,v) ∈ Yr k l→v ∈ l:=by
    intro k l
    induction l generalizing k with
    | nil=>simp [Yr]
    | cons a l ih =>
     simp only [Yr,List.mem_cons,Prod.mk.injEq]
     rintro (⟨_,rfl⟩ | h)
     ·exact .inl rfl
     ·exact .inr (ih _ h)
   exact htup v (this 0 es hm)) hanys (Gh5 sz es 0 _ hwid' (by simp))
 rw [Nat.zero_mul,List.take_zero,List.nil_append] at h2
 have hul:us.size=es.length*sz:=by
  rw [h2.1]
  have:∀ l:List PV,(∀ e ∈ l,e.cells.length=sz)→(l.flatMap (·.cells)).length=l.length*sz:=fun l=>by
   induction l with
   | nil=>simp
   | cons e l ih=>intro h;rw [List.flatMap_cons,List.length_append,h e (by simp),ih (fun e he=>h e (by simp [he])),List.length_cons,Nat.add_mul];omega
  exact this es fun e he=>(hwid' e he).1
 refine ⟨us,es.length,.slice (some ⟨w.heap.size,0,none⟩) es.length es.length,w,?_,.inl rfl,hpos,fun i e he=>(hwid' e (List.mem_of_getElem? he)).1,hul,?_,Nat.le_refl _,fun i j c hc=>?_,fun g' w' hb=>Ggy hb (Nat.le_refl _)⟩
 ·have hmk:(Array.range (es.length*sz)).map (fun x=>zv.cells[x % zv.cells.size]!)=z0.toArray:=by
   apply Array.ext'
   rw [Array.toList_map,Array.toList_range]
   show _=z0
   apply List.map_congr_left
   intro q _
   have hlt:q % zv.cells.size<zv.cells.size:=Nat.mod_lt _ (by omega)
   simp [hlt]
  by_cases h0:es.length*sz=0
  ·have he0:es=[]:=by
    rcases Nat.mul_eq_zero.1 h0 with h | h
    ·exact List.eq_nil_of_length_eq_zero h
    ·omega
   subst he0
   have hps0:ps=[]:=by
    cases ps with
    | nil=>rfl
    | cons p ps=>simp [Yr,Gbx] at hps
   subst hps0
   have hz0:z0=[]:=by simp [z0]
   rw [hz0] at h1
   simp [Instr.fill] at h1
   subst h1
   simp [execOp,Instr.buildSlice,run_underlying (Vy ht),Ww hsz,Instr.fill,newRow,Array.range_zero']
  ·have hbig:¬ (16777216<es.length*sz):=by omega
   have hfl:Instr.fill (fun i=>some (i*sz,sz)) z0.toArray (ps.map fun p=>(p.1,a.eval p.2))=some us:=h1
   simp [execOp,Instr.buildSlice,run_underlying (Vy ht),Ww hsz,hbig,h0,Gd7 hz,hmk,hfl,newRow]
 ·have:es.length≤es.length*sz:=Nat.le_mul_of_pos_right _ hpos
  unfold maxLen;omega
 ·obtain ⟨u,hu,h3,h4⟩:=h2.2 _ c (Ggx es i j c (fun e he=>(hwid' e he).1) hc)
  exact ⟨u,hu,h3,h4⟩

theorem Gp5 {ps:List (Nat×Operand)} {es:List PV} {te sz n:Nat} {zv:Value} (hps:Gbx E ps (Yr 0 es)) (hn:es.length=n) (hwid:es.all (fun e=>Nat.beq e.cells.length sz&&e.cells.all PV.one)=true) (htup:∀ e ∈ es,∀ ws,e ≠ .tup ws)
  (ht:Wz P t=some te) (hsz:Ut P te=some sz) (hz:Wp P te=some zv) (hzs:zv.cells.size=sz) (hzone:zv.cells.toList.all (·.oneCell')=true) (hpos:0<sz) (h24:n*sz≤16777216) :
  VEf P ⟨d,.buildSlice t n ps.toArray,ty,pos,aft,none⟩ E low loc fun v1 low1 loc1=>v1 = .sl (low.length+loc.length) 0 0 n∧low1=low∧loc1=loc++[⟨te,sz,es,0⟩] :=
 Ge0 (Gmf hps hn hwid htup ht hsz hz hzs hzone hpos h24)

end
end Go.Aml
