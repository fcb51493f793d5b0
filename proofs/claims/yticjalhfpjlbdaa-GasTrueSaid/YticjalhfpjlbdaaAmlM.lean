/- The abstract memory logic, part M: the arguments of a law, as they are read; a law's row. -/
import Derived.Test.YticjalhfpjlbdaaAmlS
import Derived.ProofKit
import Derived.OpenShut
import Derived.ChangeOld
import Derived.Deep.Slices
import Derived.KernelRfl
namespace Go.Aml
open Go Go.ChangeShapes Go.WideShapes Go.RowKit

def mkE:Option Bool→List PV→PV
 | some true,p=>.agg p
 | _,[v]=>v
 | _,p=>.agg p

def Go1:TypeDesc→Bool
 | .bool | .int _ | .string | .slice _ | .struct _ | .array _ _=>true
 | _=>false

inductive TP (P:Program):TypeId→List PV→Prop
 | bool (t:TypeId) (b:Bool) (h:P.underlying t=some .bool):TP P t [.bool b]
 | int (t:TypeId) (k:IntKind) (n:Int) (h:P.underlying t=some (.int k)) (hw:(Lit.int k n).wf=true):TP P t [.int k n]
 | str (t:TypeId) (s:ByteArray) (h:P.underlying t=some .string) (hs:s.size≤maxLen):TP P t [.str s]
 | slice (t e:TypeId) (ess:List (List PV)) (h:P.underlying t=some (.slice e)) (hl:ess.length≤maxLen) (he:∀ p,p ∈ ess→p.length=P.cellsOf e) (hp:∀ p,p ∈ ess→TP P e p):TP P t [.vs (P.cellsOf e) (ess.map (mkE (Ws P e)))]
 | struct (t:TypeId) (fs:Array Field) (ps:List (List PV)) (h:P.underlying t=some (.struct fs)) (hl:ps.length=fs.size) (hp:∀ (i:Nat) (f:Field) (p:List PV),fs[i]?=some f→ps[i]?=some p→TP P f.type p):TP P t ps.flatten
 | array (t e:TypeId) (n:Nat) (ps:List (List PV)) (h:P.underlying t=some (.array n e)) (hl:ps.length=n) (hp:∀ p,p ∈ ps→TP P e p):TP P t ps.flatten
 | other (t:TypeId) (d:TypeDesc) (h:P.underlying t=some d) (hd:Go1 d=false):TP P t [.any]

def RdC (F:Nat→Prop) (w:World) (pcs:List PV) (cs:List Value):Prop :=
 pcs.length=cs.length∧∀ (i:Nat) (c:PV) (x:Value),pcs[i]?=some c→cs[i]?=some x→VI F w c x∧x.oneCell'=true

theorem RdC.one {F:Nat→Prop} {w:World} {c:PV} {x:Value} (h:VI F w c x) (h1:x.oneCell'=true):RdC F w [c] [x]:=by
 refine ⟨rfl,fun i a b ha hb=>?_⟩
 match i,ha,hb with
 | 0,ha,hb=>simp at ha hb;subst ha;subst hb;exact ⟨h,h1⟩
 | i+1,ha,hb=>simp at ha

theorem RdC.append {F:Nat→Prop} {w:World} {p q:List PV} {c d:List Value} (h:RdC F w p c) (k:RdC F w q d):RdC F w (p++q) (c++d):=by
 refine ⟨by simp [h.1,k.1],fun i a b ha hb=>?_⟩
 by_cases hi:i<p.length
 ·rw [List.getElem?_append_left hi] at ha
  rw [List.getElem?_append_left (by have:=h.1;omega)] at hb
  exact h.2 i a b ha hb
 ·rw [List.getElem?_append_right (by omega)] at ha
  rw [List.getElem?_append_right (by have:=h.1;omega)] at hb
  rw [← h.1] at hb
  exact k.2 _ a b ha hb

theorem RdC.flatten {F:Nat→Prop} {w:World}:∀ (ps:List (List PV)) (cs:List (List Value)),ps.length=cs.length→(∀ (i:Nat) (p:List PV) (c:List Value),ps[i]?=some p→cs[i]?=some c→RdC F w p c)→RdC F w ps.flatten cs.flatten
 | [],[],_,_=>⟨rfl,by simp⟩
 | [],_::_,h,_=>by simp at h
 | _::_,[],h,_=>by simp at h
 | p::ps,c::cs,h,hh=>by
  rw [List.flatten_cons,List.flatten_cons]
  exact (hh 0 p c rfl rfl).append (RdC.flatten ps cs (by simpa using h) fun i a b ha hb=>hh (i+1) a b (by simpa using ha) (by simpa using hb))

def Gka:Nat→List (Nat×Nat)→Nat→Bool
 | k,[],n=>Nat.beq k n
 | k,(o,s)::r,n=>Nat.beq o k&&Gka (k+s) r n
theorem Ghd (cs:List Value):∀ (l:List (Nat×Nat)) (k:Nat),Gka k l cs.length=true→cs.drop k=(l.map fun p=>(cs.drop p.1).take p.2).flatten
 | [],k,h=>by
  have:=Nat.eq_of_beq_eq_true h
  simp [this]
 | (o,s)::l,k,h=>by
  simp only [Gka,Bool.and_eq_true] at h
  have ho:=Nat.eq_of_beq_eq_true h.1
  subst ho
  rw [List.map_cons,List.flatten_cons,← Ghd cs l (o+s) h.2]
  rw [← List.drop_drop,List.take_append_drop]

def Ge4 (P:Program):Bool:=(List.range P.types.size).all fun t =>
 match P.underlying t with
 | some (.struct fs)=>Gka 0 (fs.toList.map fun f=>(f.offset,P.cellsOf f.type)) (P.cellsOf t)&&fs.toList.all fun f=>Nat.blt f.type P.types.size
 | some (.array n e)=>Nat.beq (n*P.cellsOf e) (P.cellsOf t)&&Nat.blt e P.types.size
 | some (.slice e)=>Nat.blt 0 (P.cellsOf e)&&Nat.blt e P.types.size
 | _=>true

theorem Gen {P:Program} (h:Ge4 P=true) {t:TypeId} (ht:t<P.types.size) {d:TypeDesc} (hu:P.underlying t=some d):(match d with
  | .struct fs=>Gka 0 (fs.toList.map fun f=>(f.offset,P.cellsOf f.type)) (P.cellsOf t)=true∧∀ f,f ∈ fs→f.type<P.types.size
  | .array n e=>n*P.cellsOf e=P.cellsOf t∧e<P.types.size
  | .slice e=>0<P.cellsOf e∧e<P.types.size
  | _=>True):=by
 have:=List.all_eq_true.1 h t (List.mem_range.2 ht)
 rw [hu] at this
 cases d with
 | struct fs =>
  simp only [Bool.and_eq_true] at this
  exact ⟨this.1,fun f hf=>Nat.le_of_ble_eq_true (List.all_eq_true.1 this.2 f (Array.mem_toList_iff.2 hf))⟩
 | array n e =>
  simp only [Bool.and_eq_true] at this
  exact ⟨Nat.eq_of_beq_eq_true this.1,Nat.le_of_ble_eq_true this.2⟩
 | slice e =>
  simp only [Bool.and_eq_true] at this
  exact ⟨Nat.le_of_ble_eq_true this.1,Nat.le_of_ble_eq_true this.2⟩
 | _=>trivial

theorem Gie {P:Program} {t:TypeId} {p:List PV} (ha:¬ Ws P t=some true) (h:TP P t p):∃ v,p=[v]∧v.cells=[v]:=by
 cases h with
 | bool _ b h=>exact ⟨_,rfl,rfl⟩
 | int _ k n h hw=>exact ⟨_,rfl,rfl⟩
 | str _ s h hs=>exact ⟨_,rfl,rfl⟩
 | slice _ e ess h hl he hp=>exact ⟨_,rfl,rfl⟩
 | struct _ fs ps h hl hp=>exact absurd (by simp [Ws,h]) ha
 | array _ e n ps h hl hp=>exact absurd (by simp [Ws,h]) ha
 | other _ d h hd=>exact ⟨_,rfl,rfl⟩
theorem Gnr {P:Program} {t:TypeId} {p:List PV} (h:TP P t p):(mkE (Ws P t) p).cells=p:=by
 by_cases ha:Ws P t=some true
 ·rw [ha];rfl
 ·obtain ⟨v,rfl,hv⟩:=Gie ha h
  generalize Ws P t=o at ha
  cases o with
  | none=>exact hv
  | some b=>cases b with
   | false=>exact hv
   | true=>exact absurd rfl ha

section
variable {H:Type} {enc:TypeId×Value→H} {P:Program} {w:World} {base:Nat} {spare:Nat→Bool} {held:Bool}

theorem Glj (hT:Ge4 P=true):∀ (fuel:Nat) (t:TypeId) (cs:List Value) (x:DataW H×List MemPlace),t<P.types.size→DataW.trod enc P w base spare held fuel t cs=some x →
  ∃ pcs,TP P t pcs∧RdC (fun b=>b<w.heap.size) w pcs cs:=by
 intro fuel
 induction fuel using Nat.strongRecOn with
 | _ fuel ih =>
  intro t cs x ht h
  cases hu:P.underlying t with
  | none =>
   cases fuel with
   | zero=>simp [DataW.trod] at h
   | succ n=>simp [DataW.trod,hu] at h
  | some d =>
   have other:Go1 d=false→(∃ v,cs=[v]∧v.oneCell'=true)→∃ pcs,TP P t pcs∧RdC (fun b=>b<w.heap.size) w pcs cs:=by
    rintro hd ⟨v,rfl,hv⟩
    exact ⟨[.any],.other t d hu hd,.one (.any v) hv⟩
   cases d with
   | bool =>
    obtain ⟨b,rfl,_⟩:=DataW.trod_bool hu h
    exact ⟨[.bool b],.bool t b hu,.one (.bool b) rfl⟩
   | int k =>
    obtain ⟨n,rfl,_,hw⟩:=DataW.trod_int hu h
    exact ⟨[.int k n],.int t k n hu hw,.one (.int k n) rfl⟩
   | string =>
    obtain ⟨s,rfl,_,hs⟩:=DataW.trod_string hu h
    exact ⟨[.str s],.str t s hu hs,.one (.str s) rfl⟩
   | slice e =>
    obtain ⟨hpos,hte⟩:=Gen hT ht hu
    rcases DataW.trod_slice hu h with ⟨rfl,_⟩ | ⟨a,len,cap,elems,rest,n,rfl,rfl,_,_,hlc,hcm,hel,hat,_,_⟩
    ·exact ⟨[.vs (P.cellsOf e) (([]:List (List PV)).map (mkE (Ws P e)))],.slice t e [] hu (Nat.zero_le _) (by simp) (by simp),.one (.vs0 _ _ _) rfl⟩
    ·have hel':∀ i:Nat,∃ p:List PV,i<len→TP P e p∧p.length=P.cellsOf e∧∀ (j:Nat) (c:PV),p[j]?=some c→∃ y,w.cell? (a.add (i*P.cellsOf e+j))=some y∧VI (fun b=>b<w.heap.size) w c y∧y.oneCell'=true:=fun i=>by
      by_cases hi:i<len
      ·have h1:=hat i hi
       rw [List.getElem?_eq_getElem (by omega)] at h1
       cases hc:w.cells? base (a.add (i*P.cellsOf e)) (P.cellsOf e) with
       | none=>simp [hc] at h1
       | some cs' =>
        simp [hc] at h1
        obtain ⟨p,hp1,hp2⟩:=ih n (by omega) e cs' _ hte h1
        obtain ⟨_,hcl,hcc⟩:=World.cells?_some hc
        refine ⟨p,fun _=>⟨hp1,hp2.1.trans hcl,fun j c hj=>?_⟩⟩
        have hjl:j<cs'.length:=by
         have:=(List.getElem?_eq_some_iff.1 hj).1
         have:=hp2.1
         omega
        refine ⟨cs'[j],?_,hp2.2 j c _ hj (List.getElem?_eq_getElem hjl)⟩
        rw [← Go.Deep.add_add,hcc j (by omega),List.getElem?_eq_getElem hjl]
      ·exact ⟨[],fun h=>absurd h hi⟩
     obtain ⟨f,hf⟩:=Classical.axiomOfChoice hel'
     refine ⟨[.vs (P.cellsOf e) (((List.range len).map f).map (mkE (Ws P e)))],.slice t e _ hu (by simp;omega) ?_ ?_,?_⟩
     ·intro p hp
      obtain ⟨i,hi,rfl⟩:=List.mem_map.1 hp
      exact (hf i (List.mem_range.1 hi)).2.1
     ·intro p hp
      obtain ⟨i,hi,rfl⟩:=List.mem_map.1 hp
      exact (hf i (List.mem_range.1 hi)).1
     ·by_cases h0:len=0
      ·subst h0
       exact .one (.vs0 _ _ _) rfl
      ·have hcells:∀ i,i<len→(mkE (Ws P e) (f i)).cells=f i:=fun i hi=>Gnr (hf i hi).1
       have hcell:∀ i j c,cellOf (((List.range len).map f).map (mkE (Ws P e))) i j=some c→i<len∧(f i)[j]?=some c:=fun i j c hc=>by
        unfold cellOf at hc
        by_cases hi:i<len
        ·rw [List.getElem?_map,List.getElem?_map,List.getElem?_range hi] at hc
         simp only [Option.map_some,Option.bind_some,hcells i hi] at hc
         exact ⟨hi,hc⟩
        ·rw [List.getElem?_eq_none (by simp;omega)] at hc
         simp at hc
       have hsp:a.spot=none:=by
        obtain ⟨_,hl,hh⟩:=hf 0 (by omega)
        obtain ⟨y,hy,_⟩:=hh 0 _ (List.getElem?_eq_getElem (by omega))
        simp only [Nat.zero_mul,Nat.add_zero] at hy
        rw [Addr.add_zero'] at hy
        exact World.cell?_spot hy
       obtain ⟨b,off,spot⟩:=a
       simp only at hsp
       subst hsp
       have hlen:(((List.range len).map f).map (mkE (Ws P e))).length=len:=by simp
       have hF:b<w.heap.size:=by
        obtain ⟨_,hl,hh⟩:=hf 0 (by omega)
        obtain ⟨y,hy,_⟩:=hh 0 _ (List.getElem?_eq_getElem (by omega))
        rw [Addr.add_lit] at hy
        exact World.block_lt_of_cell? w _ hy
       have hget:∀ i j c,cellOf (((List.range len).map f).map (mkE (Ws P e))) i j=some c→w.cell? ⟨b,off+(i*P.cellsOf e+j),none⟩=some ((w.cell? ⟨b,off+(i*P.cellsOf e+j),none⟩).getD undef)∧((w.cell? ⟨b,off+(i*P.cellsOf e+j),none⟩).getD undef).oneCell'=true∧VI (fun b=>b<w.heap.size) w c ((w.cell? ⟨b,off+(i*P.cellsOf e+j),none⟩).getD undef):=fun i j c hc=>by
        obtain ⟨hi,hj⟩:=hcell i j c hc
        obtain ⟨y,hy,hv,h1⟩:=(hf i hi).2.2 j c hj
        rw [Addr.add_lit] at hy
        rw [hy]
        exact ⟨rfl,h1,hv⟩
       have:=VI.vs (F:=fun b=>b<w.heap.size) (w:=w) (P.cellsOf e) (((List.range len).map f).map (mkE (Ws P e))) b off cap (fun i j=>(w.cell? ⟨b,off+(i*P.cellsOf e+j),none⟩).getD undef) (by rw [hlen];exact hlc) hF
        (fun i e' he'=>by
         have hi:i<len:=by
          have:=(List.getElem?_eq_some_iff.1 he').1
          simpa using this
         rw [List.getElem?_map,List.getElem?_map,List.getElem?_range hi] at he'
         simp at he'
         subst he'
         rw [hcells i hi]
         exact (hf i hi).2.1)
        (fun i j c hc=>(hget i j c hc).1) (fun i j c hc=>(hget i j c hc).2.1) (fun i j c hc=>(hget i j c hc).2.2)
       rw [hlen] at this
       exact .one this rfl
   | struct fs =>
    obtain ⟨xs,n,rfl,_,hcl,hxl,hat⟩:=DataW.trod_struct hu h
    obtain ⟨htl,hft⟩:=Gen hT ht hu
    rw [← hcl] at htl
    have hflat:=Ghd cs _ 0 htl
    rw [List.drop_zero,List.map_map] at hflat
    have hel':∀ i:Nat,∃ p:List PV,∀ f,fs[i]?=some f→TP P f.type p∧RdC (fun b=>b<w.heap.size) w p ((cs.drop f.offset).take (P.cellsOf f.type)):=fun i=>by
     by_cases hi:i<fs.size
     ·have h1:=hat i fs[i] (Array.getElem?_eq_getElem hi)
      rw [List.getElem?_eq_getElem (by omega)] at h1
      obtain ⟨p,hp1,hp2⟩:=ih n (by omega) _ _ _ (hft _ (Array.getElem_mem hi)) h1
      exact ⟨p,fun f hf=>by rw [Array.getElem?_eq_getElem hi] at hf;injection hf with hf;subst hf;exact ⟨hp1,hp2⟩⟩
     ·exact ⟨[],fun f hf=>by rw [Array.getElem?_eq_none (by omega)] at hf;cases hf⟩
    obtain ⟨f,hf⟩:=Classical.axiomOfChoice hel'
    refine ⟨((List.range fs.size).map f).flatten,.struct t fs _ hu (by simp) fun i fd p hi hp=>?_,?_⟩
    ·have hil:i<fs.size:=(Array.getElem?_eq_some_iff.1 hi).1
     rw [List.getElem?_map,List.getElem?_range hil] at hp
     simp at hp
     subst hp
     exact (hf i fd hi).1
    ·rw [hflat]
     refine RdC.flatten _ _ (by simp) fun i p c hp hc=>?_
     have hil:i<fs.size:=by
      have:=(List.getElem?_eq_some_iff.1 hp).1
      simpa using this
     rw [List.getElem?_map,List.getElem?_range hil] at hp
     simp at hp
     subst hp
     rw [List.getElem?_map,Array.getElem?_toList,Array.getElem?_eq_getElem hil] at hc
     simp at hc
     subst hc
     exact (hf i _ (Array.getElem?_eq_getElem hil)).2
   | array n e =>
    obtain ⟨xs,m,rfl,_,hcl,hxl,hat⟩:=DataW.trod_array hu h
    obtain ⟨htl,hte⟩:=Gen hT ht hu
    have hflat:cs=((List.range n).map fun i=>(cs.drop (i*P.cellsOf e)).take (P.cellsOf e)).flatten:=by
     have key:∀ k,k≤n→cs.drop ((n-k)*P.cellsOf e)=((List.range' (n-k) k).map fun i=>(cs.drop (i*P.cellsOf e)).take (P.cellsOf e)).flatten:=by
      intro k
      induction k with
      | zero =>
       intro _
       simp [htl,← hcl]
      | succ k ihk =>
       intro hk
       rw [List.range'_succ,List.map_cons,List.flatten_cons]
       have:=ihk (by omega)
       rw [show n-(k+1)+1=n-k by omega,← this]
       rw [show (n-k)*P.cellsOf e=(n-(k+1))*P.cellsOf e+P.cellsOf e by rw [← Nat.succ_mul];congr 1;omega]
       rw [← List.drop_drop,List.take_append_drop]
     have:=key n (Nat.le_refl _)
     rw [Nat.sub_self,Nat.zero_mul,List.drop_zero,← List.range_eq_range'] at this
     exact this
    have hel':∀ i:Nat,∃ p:List PV,i<n→TP P e p∧RdC (fun b=>b<w.heap.size) w p ((cs.drop (i*P.cellsOf e)).take (P.cellsOf e)):=fun i=>by
     by_cases hi:i<n
     ·have h1:=hat i hi
      rw [List.getElem?_eq_getElem (by omega)] at h1
      obtain ⟨p,hp1,hp2⟩:=ih m (by omega) _ _ _ hte h1
      exact ⟨p,fun _=>⟨hp1,hp2⟩⟩
     ·exact ⟨[],fun h=>absurd h hi⟩
    obtain ⟨f,hf⟩:=Classical.axiomOfChoice hel'
    refine ⟨((List.range n).map f).flatten,.array t e n _ hu (by simp) fun p hp=>?_,?_⟩
    ·obtain ⟨i,hi,rfl⟩:=List.mem_map.1 hp
     exact (hf i (List.mem_range.1 hi)).1
    ·rw [hflat]
     refine RdC.flatten _ _ (by simp) fun i p c hp hc=>?_
     have hil:i<n:=by
      have:=(List.getElem?_eq_some_iff.1 hp).1
      simpa using this
     rw [List.getElem?_map,List.getElem?_range hil] at hp hc
     simp at hp hc
     subst hp;subst hc
     exact (hf i hil).2
   | _ =>
    refine other rfl ?_
    cases fuel with
    | zero=>simp [DataW.trod] at h
    | succ n =>
     simp only [DataW.trod,hu] at h
     first | (cases h;done) | (split at h <;> first | exact ⟨_,rfl,rfl⟩ | (cases h;done) | (exfalso;simp_all;done))

theorem Gkb {w':World} {r:Reach} {b:Nat} {t:TypeId} {v:Value} (h:Cell.okWide P w' r b t v):v.cells.toList=[v]:=by
 unfold Cell.okWide Cell.ok at h
 generalize P.underlying t=u at h
 cases v <;> first | rfl | skip
 all_goals
  cases u with
  | none=>exact h.elim
  | some d=>cases d <;> exact False.elim h

theorem Gid (hT:Ge4 P=true) {r:Reach} {b0:Nat}:∀ (ts:List TypeId) (vs:List Value) (ds:List (DataW H)) (ps:List MemPlace),DataW.TrodAll enc P w base spare held ts vs ds ps→(∀ t,t ∈ ts→t<P.types.size) →
  (∀ (j:Nat) t v,ts[j]?=some t→vs[j]?=some v→Value.okWide P w r b0 t v) →
  ∃ pcs:List PV,pcs.length=vs.length∧vs.length=ts.length∧(∀ (i:Nat) (t:TypeId) (c:PV),ts[i]?=some t→pcs[i]?=some c→∃ p,TP P t p∧c=mkE (Ws P t) p)∧∀ (i:Nat) (c:PV) (x:Value),pcs[i]?=some c→vs[i]?=some x→VI (fun b=>b<w.heap.size) w c x
 | [],[],[],_,_,_,_=>⟨[],rfl,rfl,by simp,by simp⟩
 | [],[],_::_,_,h,_,_=>h.elim
 | [],_::_,[],_,h,_,_=>h.elim
 | [],_::_,_::_,_,h,_,_=>h.elim
 | _::_,[],[],_,h,_,_=>h.elim
 | _::_,[],_::_,_,h,_,_=>h.elim
 | _::_,_::_,[],_,h,_,_=>h.elim
 | t::ts,v::vs,d::ds,ps,h,hlt,hok=>by
  obtain ⟨p,q,⟨fuel,h1⟩,h2,_⟩:=h
  obtain ⟨pcs,k1,k2,k3,k4⟩:=Gid hT ts vs ds q h2 (fun t ht=>hlt t (by simp [ht])) fun j t v ht hv=>hok (j+1) t v (by simpa using ht) (by simpa using hv)
  obtain ⟨pc,hp1,hp2⟩:=Glj hT fuel t _ _ (hlt t (by simp)) h1
  have hok0:=hok 0 t v rfl rfl
  refine ⟨mkE (Ws P t) pc::pcs,by simp [k1],by simp [k2],fun i t' c ht hc=>?_,fun i c x hc hx=>?_⟩
  ·match i,ht,hc with
   | 0,ht,hc=>simp at ht hc;subst ht;subst hc;exact ⟨pc,hp1,rfl⟩
   | i+1,ht,hc=>exact k3 i t' c (by simpa using ht) (by simpa using hc)
  ·match i,hc,hx with
   | 0,hc,hx =>
    simp at hc hx
    subst hc;subst hx
    unfold Value.okWide at hok0
    by_cases ha:Ws P t=some true
    ·have:∃ cs,v = .agg cs:=by
      unfold Ws at ha
      cases hu:P.underlying t with
      | none=>simp [hu] at ha
      | some dd =>
       rw [hu] at ha hok0
       cases dd <;> simp at ha <;> (obtain ⟨cs,hcs,_⟩:=hok0;exact ⟨cs,hcs⟩)
     obtain ⟨cs,rfl⟩:=this
     rw [ha]
     have:=VI.agg (F:=fun b=>b<w.heap.size) (w:=w) pc cs.toList (by simpa [Value.cells] using hp2.1) fun i c x hc hx=>(hp2.2 i c x hc (by simpa [Value.cells] using hx)).1
     simpa [mkE] using this
    ·obtain ⟨v',rfl,hv'⟩:=Gie ha hp1
     have hl:=hp2.1
     have hmk:mkE (Ws P t) [v']=v':=by
      generalize Ws P t=o at ha
      cases o with
      | none=>rfl
      | some b=>cases b with
       | false=>rfl
       | true=>exact absurd rfl ha
     rw [hmk]
     have hone:v.cells.toList=[v]:=by
      unfold Ws at ha
      cases hu:P.underlying t with
      | none=>rw [hu] at hok0;exact Gkb hok0
      | some dd =>
       rw [hu] at ha hok0
       cases dd <;> first | exact Gkb hok0 | (exfalso;simp at ha;done)
     exact (hp2.2 0 v' v rfl (by rw [hone];rfl)).1
   | i+1,hc,hx=>exact k4 i c x (by simpa using hc) (by simpa using hx)

end
end Go.Aml
