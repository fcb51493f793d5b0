/- The abstract memory logic, part E: the rules of operations that make or change memory. -/
import Derived.Test.YticjalhfpjlbdaaAmlD
namespace Go.Aml
open Go

section
variable {g:Gh} {H:List AObj} {w:World}

theorem VR.cellsR {v:PV} {x:Value} (h:VR g H w v x) (hone:v.cells.all PV.one=true) (ht:∀ vs,v ≠ .tup vs):x.cells.toList.length=v.cells.length ∧
  ∀ (j:Nat) (c:PV),v.cells[j]?=some c→∃ u,x.cells[j]?=some u∧u.oneCell'=true∧VR g H w c u:=by
 by_cases ha:∃ cs,v = .agg cs
 ·obtain ⟨cs,rfl⟩:=ha
  obtain ⟨xs,rfl,hl,hh⟩:=h.agg_inv
  refine ⟨by simp [Value.cells,PV.cells,hl],fun j c hc=>?_⟩
  simp only [PV.cells] at hc hone
  have hj:j<xs.length:=by rw [← hl];exact (List.getElem?_eq_some_iff.1 hc).1
  have hv:=hh j c _ hc (List.getElem?_eq_getElem hj)
  refine ⟨xs[j],by simp [Value.cells,hj],hv.oneCell ?_,hv⟩
  exact List.all_eq_true.1 hone c (List.mem_of_getElem? hc)
 ·have hc1:v.cells=[v]:=by cases v <;> first | rfl | exact absurd ⟨_,rfl⟩ ha
  have h1:v.one=true:=by rw [hc1] at hone;simpa using hone
  have hx:=h.oneCell h1
  have hxc:x.cells=#[x]:=by cases x <;> first | rfl | (simp [Value.oneCell'] at hx;done)
  rw [hc1,hxc]
  refine ⟨rfl,fun j c hc=>?_⟩
  match j,hc with
  | 0,hc =>
   simp at hc
   subst hc
   exact ⟨x,rfl,hx,h⟩

theorem Xy {v:PV} {i j:Nat} {c:PV} (h:cellOf [v] i j=some c):i=0∧v.cells[j]?=some c:=by
 unfold cellOf at h
 match i,h with
 | 0,h=>exact ⟨rfl,by simpa using h⟩
 | i+1,h=>simp at h

end

section
variable {P:Program} {nt:Nat} {Q:Xt} {E:Env} {low loc:List AObj} {d:Option Nat} {ty:TypeId} {pos:String} {aft:Array Edge} {x y z:Operand} {t:TypeId} {all:Array Oper} {rest:List Oper}

def Gp4 (P:Program) (E:Env) (low loc:List AObj) (o:Oper) (elem sz:Nat) (es:List PV) (v:PV):Prop :=
 ∀ g nt (a:Act) w,Rel g nt low.length E (low++loc) a w→∃ (cells:Array Value) (C:Nat) (x:Value) (w0:World),(execOp a.eval o).run P w = .ok (.value x) (w0.alloc (.cells cells elem))∧(w0=w∨w0=w.drew) ∧
   0<sz∧(∀ (i:Nat) (e:PV),es[i]?=some e→e.cells.length=sz)∧cells.size=C*sz∧C≤maxLen∧es.length≤C ∧
   (∀ i j c,cellOf es i j=some c→∃ u,cells[i*sz+j]?=some u∧u.oneCell'=true∧VR g (low++loc) w c u) ∧
   (∀ g' w',g'.β (low.length+loc.length)=some (w.heap.size,C)→VR g' (low++(loc++[⟨elem,sz,es,0⟩])) w' v x)
theorem Ge0 {op:Op} {elem sz:Nat} {es:List PV} {v:PV}
  (h:Gp4 P E low loc ⟨d,op,ty,pos,aft,none⟩ elem sz es v) :
  VEf P ⟨d,op,ty,pos,aft,none⟩ E low loc fun v' low' loc'=>v'=v∧low'=low∧loc'=loc++[⟨elem,sz,es,0⟩]:=by
 intro g nt a w hr Kr Qr hK
 obtain ⟨cells,C,x,w0,hrun,hw0,hp,hw,hC,hm,hl,hc,hv⟩:=h g nt a w hr
 unfold Oper.wp
 rw [hrun]
 have key:GStep (low++loc).length g (low++loc) w (g.push (low++loc).length (some (w.heap.size,C))) ((low++loc)++[⟨elem,sz,es,0⟩]) (w0.alloc (.cells cells elem)) ∧
   RelM (g.push (low++loc).length (some (w.heap.size,C))) low.length ((low++loc)++[⟨elem,sz,es,0⟩]) (w0.alloc (.cells cells elem)):=by
  rcases hw0 with rfl | rfl
  ·exact hr.m.new elem sz es cells C hp hw hC hm hl hc
  ·obtain ⟨hsd,hmd⟩:=Gd0 (m:=(low++loc).length) hr.m
   obtain ⟨k1,k2⟩:=hmd.new elem sz es cells C hp hw hC hm hl fun i j c hcc=>let ⟨u,h1,h2,h3⟩:=hc i j c hcc;⟨u,h1,h2,h3.step' hsd⟩
   exact ⟨hsd.trans k1,k2⟩
 obtain ⟨hs,hm'⟩:=key
 exact hK x _ (g.push (low++loc).length (some (w.heap.size,C))) v low (loc++[⟨elem,sz,es,0⟩]) ⟨rfl,rfl,rfl⟩ rfl (hv _ _ (by rw [← List.length_append];exact Gh.push_same _ _ _)) (by rw [← List.append_assoc];exact hm') (by rw [← List.append_assoc];exact hs)

theorem Gh7 {g':Gh} {w':World} {elem sz C b:Nat} {v:PV} (hb:g'.β (low.length+loc.length)=some (b,C)) :
  VR g' (low++(loc++[⟨elem,sz,[v],0⟩])) w' (.ptr (low.length+loc.length) 0 0 0) (.pointer (some ⟨b,0,none⟩)) :=
 .ptr _ 0 0 0 ⟨elem,sz,[v],0⟩ _ (by rw [← List.append_assoc,List.getElem?_append_right (by simp)];simp) (Nat.le_refl _) fun _=>⟨by simp,b,C,hb,by simp⟩

theorem Ggy {g':Gh} {w':World} {elem sz C b:Nat} {es:List PV} (hb:g'.β (low.length+loc.length)=some (b,C)) (hl:es.length≤C) :
  VR g' (low++(loc++[⟨elem,sz,es,0⟩])) w' (.sl (low.length+loc.length) 0 0 es.length) (.slice (some ⟨b,0,none⟩) es.length C) :=
 .sl _ 0 0 _ ⟨elem,sz,es,0⟩ _ (by rw [← List.append_assoc,List.getElem?_append_right (by simp)];simp) (Nat.le_refl _) rfl fun _=>by
  refine ⟨by simp,?_⟩
  rw [hb]
  exact ⟨C,_,rfl,hl,fun _=>by simp,fun _=>⟨rfl,rfl⟩⟩

theorem Gp6 {elem sz:Nat} {v:PV} (hx:PE E x=v) (hsz:v.cells.length=sz) (hpos:0<sz) (hone:v.cells.all PV.one=true) (ht:∀ vs,v ≠ .tup vs) :
  VEf P ⟨d,.box elem x,ty,pos,aft,none⟩ E low loc fun v1 low1 loc1=>v1 = .ptr (low.length+loc.length) 0 0 0∧low1=low∧loc1=loc++[⟨elem,sz,[v],0⟩]:=by
 refine Ge0 (elem:=elem) (sz:=sz) (es:=[v]) (fun g nt a w hr=>?_)
 have hv:=hx ▸ hr.e.eval x
 obtain ⟨hlen,hcells⟩:=hv.cellsR hone ht
 refine ⟨(a.eval x).cells,1,.pointer (some ⟨w.heap.size,0,none⟩),w,?_,.inl rfl,hpos,?_,?_,by simp [maxLen],by simp,?_,fun g' w' hb=>Gh7 hb⟩
 ·simp [execOp,Instr.box,newVar,newRow]
 ·intro i e he
  match i,he with
  | 0,he=>simp at he;subst he;exact hsz
  | i+1,he=>simp at he
 ·simp at hlen;omega
 ·intro i j c hc
  obtain ⟨rfl,hc⟩:=Xy hc
  simpa using hcells j c hc

theorem Gg1 (z:Value) (vs:List PV):emb z ≠ .tup vs:=by
 unfold emb
 split
 ·simp
 ·unfold Gf6
  split <;> simp

theorem Gnf {elem sz:Nat} {zv:Value} {v:PV} (hz:Wp P elem=some zv) (hv:emb zv=v) (hsz:v.cells.length=sz) (hpos:0<sz) (hone:v.cells.all PV.one=true) :
  VEf P ⟨d,.alloc elem,ty,pos,aft,none⟩ E low loc fun v1 low1 loc1=>v1 = .ptr (low.length+loc.length) 0 0 0∧low1=low∧loc1=loc++[⟨elem,sz,[v],0⟩]:=by
 refine Ge0 (elem:=elem) (sz:=sz) (es:=[v]) (fun g nt a w hr=>?_)
 have hvr:VR g (low++loc) w v zv:=hv ▸ .imm (Glb _ _ _)
 obtain ⟨hlen,hcells⟩:=hvr.cellsR hone (fun vs=>hv ▸ Gg1 zv vs)
 refine ⟨zv.cells,1,.pointer (some ⟨w.heap.size,0,none⟩),w,?_,.inl rfl,hpos,?_,?_,by simp [maxLen],by simp,?_,fun g' w' hb=>Gh7 hb⟩
 ·simp [execOp,Instr.alloc,Gd7 hz,newVar,newRow]
 ·intro i e he
  match i,he with
  | 0,he=>simp at he;subst he;exact hsz
  | i+1,he=>simp at he
 ·simp at hlen;omega
 ·intro i j c hc
  obtain ⟨rfl,hc⟩:=Xy hc
  simpa using hcells j c hc

def Yg (P:Program) (t:TypeId):Option Nat:=(P.info? t).map (·.bytes)

theorem Gfn {n:Nat} {v:PV} {i j:Nat} {c:PV} (h:cellOf (List.replicate n v) i j=some c):i<n∧v.cells[j]?=some c:=by
 unfold cellOf at h
 by_cases hi:i<n
 ·rw [List.getElem?_replicate_of_lt hi] at h
  exact ⟨hi,by simpa using h⟩
 ·rw [List.getElem?_eq_none (by simpa using hi)] at h
  simp at h

theorem Gok {l c:Operand} {elem sz by_:Nat} {zv:Value} {v:PV} {kl kc:IntKind} {m m':Int} {n:Nat} (hl:PE E l = .int kl m) (hc:PE E c = .int kc m') (hm:m=(n:Int)) (hm':m'=(n:Int)) (ht:Wz P t=some elem) (hsz':Ut P elem=some sz) (hby:Yg P elem=some by_)
  (hn:n*by_≤281474976710656) (hn2:n≤9223372036854775807) (hz:Wp P elem=some zv) (hv:emb zv=v) (hsz:v.cells.length=sz) (hpos:0<sz) (hone:v.cells.all PV.one=true) :
  VEf P ⟨d,.makeSlice t l c,ty,pos,aft,none⟩ E low loc fun v1 low1 loc1=>v1 = .sl (low.length+loc.length) 0 0 n∧low1=low∧loc1=loc++[⟨elem,sz,List.replicate n v,0⟩]:=by
 refine Ge0 (elem:=elem) (sz:=sz) (es:=List.replicate n v) (fun g nt a w hr=>?_)
 have hvr:VR g (low++loc) w v zv:=hv ▸ .imm (Glb _ _ _)
 obtain ⟨hlen,hcells⟩:=hvr.cellsR hone (fun vs=>hv ▸ Gg1 zv vs)
 have hll:=(hl ▸ hr.e.eval l).int_inv
 have hcc:=(hc ▸ hr.e.eval c).int_inv
 subst hm;subst hm'
 cases hi:P.info? elem with
 | none=>simp [Ut,hi] at hsz'
 | some inf =>
  have hz':inf.zero=some zv:=by simpa [Wp,hi] using hz
  have hs':inf.size=sz:=by simpa [Ut,hi] using hsz'
  have hb':inf.bytes=by_:=by simpa [Yg,hi] using hby
  have hbytes:(inf.bytes:Int)*(n:Int)≤281474976710656:=by
   have:((inf.bytes*n:Nat):Int)≤281474976710656:=by rw [hb',Nat.mul_comm];omega
   rwa [Int.natCast_mul] at this
  have hmk:=run_make (P:=P) w t elem inf zv (Vy ht) hi hz' kl kc n n (by omega) (by omega) hbytes (by omega)
  simp only [Int.toNat_natCast] at hmk
  have hzs:zv.cells.size=sz:=by simp at hlen;omega
  refine ⟨madeCells zv.cells (n*inf.size),n,.slice (some ⟨w.heap.size,0,none⟩) n n,w,?_,.inl rfl,hpos,?_,?_,by unfold maxLen;omega,by simp,?_,fun g' w' hb=>?_⟩
  ·simp [execOp,hll,hcc,hmk]
  ·intro i e he
   have he':=(List.getElem?_eq_some_iff.1 he).2
   simp at he'
   subst he'
   exact hsz
  ·rw [size_madeCells,hs']
  ·intro i j c hc
   obtain ⟨hi',hc⟩:=Gfn hc
   obtain ⟨u,hu,h1,h2⟩:=hcells j c hc
   have hj:j<sz:=by rw [← hsz];exact (List.getElem?_eq_some_iff.1 hc).1
   refine ⟨u,?_,h1,h2⟩
   have hlt:i*sz+j<n*sz:=by
    have:(i+1)*sz≤n*sz:=Nat.mul_le_mul_right _ (by omega)
    rw [Nat.add_mul,Nat.one_mul] at this
    omega
   have hmod:(i*sz+j) % zv.cells.size=j:=by
    rw [hzs,Nat.mul_comm,Nat.mul_add_mod,Nat.mod_eq_of_lt hj]
   simp only [madeCells,hs']
   rw [Array.getElem?_map,Array.getElem?_range]
   rw [if_pos hlt]
   simp only [Option.map_some,hmod]
   rw [getElem!_def,hu]
  ·have:=Ggy (low:=low) (loc:=loc) (g':=g') (w':=w') (elem:=elem) (sz:=sz) (es:=List.replicate n v) hb (by simp)
   simpa using this

end
end Go.Aml
