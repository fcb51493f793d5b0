/- The abstract memory logic, part DA: regions that draw their order, in which operations that change memory may stand without an order between them. -/
import Derived.Test.YticjalhfpjlbdaaAmlO
import Derived.Test.YticjalhfpjlbdaaAmlU
namespace Go.Aml
open Go

abbrev Gai:=List Nat×Zd

def Gos (l:List Oper) (tbl:List (List Nat)):Bool :=
 (List.range l.length).all fun i =>
  let o:=l.getD i default
  (o.after.toList.all fun e=>!Region.binds .any e||Nat.blt e.on i) &&
  ((tbl.getD i []).all fun j=>o.after.toList.any fun e=>Region.binds .any e&&(e.on == j||Zq tbl e.on j)) &&
  ((Ym o++Gd6 l o++o.dst.toList).all fun t=>Grn l tbl i t)

def exN (n:Nat) (effs:List Bool) (S:Nat→Bool):List Nat:=(List.range n).filter fun j=>effs.getD j false&&S j
def Gou (n:Nat) (s:List Nat) (i:Nat):List Nat:=(List.range n).filter fun j=>s.elem j||j == i

def Gow (n:Nat) (tbl:List (List Nat)) (effs:List Bool) (i:Nat) (s:List Nat):Bool :=
 !s.elem i&&(List.range n).all fun j=>!effs.getD j false||((!Zq tbl i j||s.elem j)&&(!Zq tbl j i||!s.elem j))

theorem Gg6 {n:Nat} {effs:List Bool} {S:Nat→Bool} {j:Nat} (hj:j<n):(exN n effs S).elem j=(effs.getD j false&&S j):=by
 cases h:(effs.getD j false&&S j) with
 | true=>exact List.elem_eq_true_of_mem (List.mem_filter.2 ⟨List.mem_range.2 hj,h⟩)
 | false =>
  refine Bool.eq_false_iff.2 fun h'=>?_
  have:=(List.mem_filter.1 (List.mem_of_elem_eq_true h')).2
  rw [h] at this
  cases this
theorem Gia {n:Nat} {effs:List Bool} {S S':Nat→Bool} (h:∀ j,j<n→(effs.getD j false&&S j)=(effs.getD j false&&S' j)):exN n effs S=exN n effs S' :=
 List.filter_congr fun j hj=>h j (List.mem_range.1 hj)
theorem Gox {n:Nat} {effs:List Bool} {S S':Nat→Bool} {i:Nat} (h:∀ j,j<n→(effs.getD j false&&S' j)=((effs.getD j false&&S j)||j == i)):exN n effs S'=Gou n (exN n effs S) i :=
 List.filter_congr fun j hj=>by
  have hj:=List.mem_range.1 hj
  rw [h j hj,Gg6 hj]

section
variable {P:Program} {nt:Nat} {Q:Xt} {E:Env} {low loc:List AObj}

def RdX (P:Program) (o:Oper) (E:Env) (v:PV):List Gai→Prop
 | []=>True
 | M::Ms=>VNt P o E M.2.1 M.2.2 v∧RdX P o E v Ms
theorem RdX.get {o:Oper} {v:PV} {Ms:List Gai} (h:RdX P o E v Ms) (M:Gai) (hk:M ∈ Ms):VNt P o E M.2.1 M.2.2 v:=by
 induction Ms with
 | nil=>cases hk
 | cons A Ms ih =>
  rcases List.mem_cons.1 hk with rfl | hk
  ·exact h.1
  ·exact ih h.2 hk
def EfX (P:Program) (n:Nat) (tab:List Gai) (i:Nat) (o:Oper) (E:Env) (v:PV):List Gai→Prop
 | []=>True
 | M::Ms=>(∃ (k:Nat) (M':Zd),tab[k]?=some (Gou n M.1 i,M')∧VEf P o E M.2.1 M.2.2 fun v1 l1 l2=>v1=v∧l1=M'.1∧l2=M'.2)∧EfX P n tab i o E v Ms
theorem EfX.get {n:Nat} {tab:List Gai} {i:Nat} {o:Oper} {v:PV} {Ms:List Gai} (h:EfX P n tab i o E v Ms) (M:Gai) (hk:M ∈ Ms):∃ (k:Nat) (M':Zd),tab[k]?=some (Gou n M.1 i,M')∧VEf P o E M.2.1 M.2.2 fun v1 l1 l2=>v1=v∧l1=M'.1∧l2=M'.2:=by
 induction Ms with
 | nil=>cases hk
 | cons A Ms ih =>
  rcases List.mem_cons.1 hk with rfl | hk
  ·exact h.1
  ·exact ih h.2 hk

def Got (n:Nat) (tbl:List (List Nat)) (effs:List Bool) (tab:List Gai) (i:Nat):List Gai:=tab.filter fun M=>Gow n tbl effs i M.1

def Gnm (P:Program) (n:Nat) (tbl:List (List Nat)) (effs:List Bool) (tab:List Gai) (i:Nat) (o:Oper) (Ei:Env) (v:PV):Prop :=
 if effs.getD i false then EfX P n tab i ⟨o.dst,o.op,o.type,o.pos,o.after,none⟩ (Ga5 Ei (Ym o)) v (Got n tbl effs tab i)
 else RdX P ⟨o.dst,o.op,o.type,o.pos,o.after,none⟩ (Ga5 Ei (Ym o)) v (Got n tbl effs tab i)

def Gj4 (P:Program) (l:List Oper) (tbl:List (List Nat)) (effs:List Bool) (tab:List Gai) (i:Nat) (o:Oper) (Ei:Env) (v:PV):Prop :=
 match o.guard with
 | none=>Gnm P l.length tbl effs tab i o Ei v
 | some (j,want)=>∃ t,(l[j]?).bind (·.dst)=some t∧((∃ b,look Ei t = .bool b∧(b=want→Gnm P l.length tbl effs tab i o Ei v)∧(b≠want→v = .tup []∧effs.getD i false=false))∨(look Ei t = .tup []∧v = .tup []∧effs.getD i false=false))

def Gfo (P:Program) (l:List Oper) (tbl:List (List Nat)) (effs:List Bool) (tab:List Gai):Nat→List Oper→List PV→Env→Prop
 | i,o::r,v::vs,E=>Gj4 P l tbl effs tab i o E v∧Gfo P l tbl effs tab (i+1) r vs (Gas E o.dst v)
 | _,[],[],_=>True
 | _,_,_,_=>False

theorem Gfo.get {l:List Oper} {tbl:List (List Nat)} {effs:List Bool} {tab:List Gai}:∀ {r:List Oper} {vs:List PV} {k:Nat} {E0:Env},Gfo P l tbl effs tab k r vs E0 →
  vs.length=r.length∧∀ i o,r[i]?=some o→∃ v,vs[i]?=some v∧Gj4 P l tbl effs tab (k+i) o (Wk (fun j=>decide (j<k+i)) k r vs E0) v
 | [],[],k,E0,_=>⟨rfl,by simp⟩
 | [],_::_,k,E0,h=>h.elim
 | _::_,[],k,E0,h=>h.elim
 | o::r,v::vs,k,E0,h=>by
  obtain ⟨h1,h2⟩:=Gfo.get h.2
  refine ⟨by simp [h1],fun i o' hi=>?_⟩
  match i,hi with
  | 0,hi =>
   simp at hi
   subst hi
   refine ⟨v,rfl,?_⟩
   have none_:∀ (l:List Oper) (m:Nat) (vs:List PV) (E:Env),k≤m→Wk (fun j=>decide (j<k+0)) m l vs E=E:=by
    intro l
    induction l with
    | nil=>intro m vs E _;simp [Wk]
    | cons o l ih=>intro m vs E hm;cases vs with
     | nil=>simp [Wk]
     | cons v vs =>
      simp only [Wk]
      rw [if_neg (by simp;omega)]
      exact ih (m+1) vs E (by omega)
   rw [none_ _ _ _ _ (Nat.le_refl _)]
   exact h.1
  | i+1,hi =>
   obtain ⟨v',hv',hs⟩:=h2 i o' (by simpa using hi)
   refine ⟨v',by simpa using hv',?_⟩
   rw [show k+1+i=k+(i+1) by omega] at hs
   simp only [Wk]
   rw [if_pos (by simp)]
   exact hs

theorem Gem {l:List Oper} {tbl:List (List Nat)} (h:Gos l tbl=true) {i:Nat} {o:Oper} (hi:l[i]?=some o) :
  (∀ e ∈ o.after,Region.binds .any e=true→e.on<i) ∧
  (∀ j,Zq tbl i j=true→∃ e ∈ o.after,Region.binds .any e=true∧(e.on=j∨Zq tbl e.on j=true)) ∧
  (∀ t,t ∈ Ym o∨t ∈ Gd6 l o∨o.dst=some t→∀ j oj,l[j]?=some oj→oj.dst=some t→i=j∨Zq tbl i j=true∨Zq tbl j i=true):=by
 have hil:=(List.getElem?_eq_some_iff.1 hi).1
 have hget:l.getD i default=o:=by simp [List.getD,hi]
 have hh:=List.all_eq_true.1 h i (List.mem_range.2 hil)
 simp only [hget,Bool.and_eq_true] at hh
 obtain ⟨⟨h1,h2⟩,h3⟩:=hh
 refine ⟨fun e he hb=>?_,fun j hj=>?_,fun t ht j oj hj hd=>?_⟩
 ·have:=List.all_eq_true.1 h1 e (Array.mem_toList_iff.2 he)
  simp [hb] at this
  simpa [Nat.blt] using this
 ·have:=List.all_eq_true.1 h2 j (by simpa [Zq] using hj)
  obtain ⟨e,he,hc⟩:=List.any_eq_true.1 this
  simp only [Bool.and_eq_true,Bool.or_eq_true,beq_iff_eq] at hc
  exact ⟨e,Array.mem_toList_iff.1 he,hc.1,hc.2⟩
 ·have:=List.all_eq_true.1 h3 t (by
   rcases ht with h | h | h
   ·simp [h]
   ·simp [h]
   ·simp [h])
  have hjl:=(List.getElem?_eq_some_iff.1 hj).1
  have hj':=List.all_eq_true.1 this j (List.mem_range.2 hjl)
  have hgj:l.getD j default=oj:=by simp [List.getD,hj]
  rw [hgj,hd] at hj'
  simp only [beq_self_eq_true,Bool.not_true,Bool.false_or,Bool.or_eq_true,beq_iff_eq,Goe] at hj'
  exact hj'

theorem Gnl {id:Nat} {l:List Oper} (tbl:List (List Nat)) (effs:List Bool) (tab:List Gai) (vs:List PV) (hm:P.follows .mixedOrders=true) (hB:Gos l tbl=true) (h0:tab[0]?=some ([],low,loc)) (hlow:tab.all (fun M=>M.2.1.length == low.length)=true)
  (hdst:l.all (fun o=>Gcc nt o.dst)=true) (hs:Gfo P l tbl effs tab 0 l vs E) (hq:∀ M:Zd,((exN l.length effs fun _=>true),M) ∈ tab→Q .normal (Wk (fun _=>true) 0 l vs E) M.1 M.2):VWp P nt (.region id l.toArray true) Q E low loc:=by
 intro g0 a0 w0 hr0 Qr hQ
 obtain ⟨hvl,hget⟩:=hs.get
 have hlowg:∀ (k:List Nat) (M:Zd),(k,M) ∈ tab→M.1.length=low.length:=fun k M hk=>by
  have:=List.all_eq_true.1 hlow (k,M) hk
  simpa using this
 let n:=l.length
 -- what holds when those operations have been carried out that are listed
 let Inv:Array Bool→Act→World→Prop:=fun listed a w=>listed.size=n∧(∀ i j,i<n→listed.getD i false=true→Zq tbl i j=true→listed.getD j false=true) ∧
  ∃ g M,((exN n effs fun j=>listed.getD j false),M) ∈ tab∧RelM g low.length (M.1++M.2) w∧RelE g (M.1++M.2) w nt (Wk (fun j=>listed.getD j false) 0 l vs E) a∧GStep low.length g0 (low++loc) w0 g (M.1++M.2) w
 have fin:∀ listed a w,Inv listed a w→(∀ i,i<n→listed.getD i false=true)→Qr .normal a w:=by
  rintro listed a w ⟨hsz,_,g,M,hM,hrm,hre,hst⟩ hall
  have e1:exN n effs (fun j=>listed.getD j false)=exN l.length effs fun _=>true:=Gia fun j hj=>by rw [hall j hj]
  have e2:∀ t,look (Wk (fun j=>listed.getD j false) 0 l vs E) t=look (Wk (fun _=>true) 0 l vs E) t:=fun t =>
   Xx l 0 vs E E (fun j o hj _=>by rw [Nat.zero_add];exact hall j (List.getElem?_eq_some_iff.1 hj).1) rfl
  rw [e1] at hM
  exact hQ .normal a w ⟨_,M.1,M.2,g,hq M hM,hlowg _ _ hM,⟨hrm,hre.defers,hre.size,fun t=>by rw [← e2 t];exact hre.at_ t⟩,hst⟩
 have hno:∀ listed:Array Bool,listed.size=n→Region.ready .any l.toArray listed=[]→∀ i,i<n→listed.getD i false=true:=by
  intro listed hsz hre i
  induction i using Nat.strongRecOn with
  | _ i ih =>
   intro hi
   cases hb:listed.getD i false with
   | true=>rfl
   | false =>
    exfalso
    have hio:l[i]?=some l[i]:=List.getElem?_eq_getElem hi
    have:i ∈ Region.ready .any l.toArray listed:=by
     refine List.mem_filter.2 ⟨List.mem_range.2 (by simpa using hi),?_⟩
     have hb':listed.getD i true=false:=by
      have hil:i<listed.size:=by omega
      simp [hil] at hb ⊢
      exact hb
     simp only [hb',Bool.not_false,Bool.true_and,List.getElem?_toArray,hio,Option.map_some,Option.getD_some]
     rw [Array.all_eq_true]
     intro q hq'
     have hmem:l[i].after[q] ∈ l[i].after:=Array.getElem_mem hq'
     cases hbi:Region.binds .any l[i].after[q] with
     | false=>rfl
     | true =>
      have hlt:=(Gem hB hio).1 _ hmem hbi
      simp [ih _ hlt (by omega)]
    rw [hre] at this
    cases this
 -- one operation
 have step:∀ listed a w i o,Inv listed a w→l[i]?=some o→listed.getD i false=false→(∀ e ∈ o.after,Region.binds .any e=true→listed.getD e.on false=true)→∀ K:Act→World→Prop,(∀ a' w',Inv (listed.setIfInBounds i true) a' w'→K a' w')→wpOp P l.toArray Qr i K a w:=by
  rintro listed a w i o ⟨hsz,hdown,g,M,hM,hrm,hre,hst⟩ hio hun hrdy K hK
  have hil:=(List.getElem?_eq_some_iff.1 hio).1
  obtain ⟨s1,s2,s3⟩:=Gem hB hio
  obtain ⟨v,hv,hstep⟩:=hget i o hio
  rw [Nat.zero_add] at hstep
  have hlo:low.length=M.1.length:=(hlowg _ _ hM).symm
  -- all that stands before i is listed;nothing that stands behind i is
  have hbef:∀ j,Zq tbl i j=true→listed.getD j false=true:=fun j hj=>by
   obtain ⟨e,he,hb,hc⟩:=s2 j hj
   have hel:=hrdy e he hb
   rcases hc with rfl | hc
   ·exact hel
   ·exact hdown e.on j (by have:=s1 e he hb;omega) hel hc
  have haft:∀ j,j<n→Zq tbl j i=true→listed.getD j false=false:=fun j hj hb=>by
   cases hh:listed.getD j false with
   | false=>rfl
   | true=>rw [hdown j i hj hh hb] at hun;cases hun
  -- Zq goes down
  have hlt:∀ (m j:Nat),m<n→Zq tbl m j=true→j<m:=by
   intro m
   induction m using Nat.strongRecOn with
   | _ m ih =>
    intro j hm hb
    obtain ⟨s1,s2,_⟩:=Gem hB (List.getElem?_eq_getElem hm)
    obtain ⟨e,he,hbi,hc⟩:=s2 j hb
    have:=s1 e he hbi
    rcases hc with rfl | hc
    ·exact this
    ·have:=ih e.on this j (by omega) hc
     omega
  have hname:∀ t,t ∈ Ym o∨t ∈ Gd6 l o∨o.dst=some t→look (Wk (fun j=>listed.getD j false) 0 l vs E) t=look (Wk (fun j=>decide (j<i)) 0 l vs E) t:=fun t ht =>
   Xx l 0 vs E E (fun j oj hj hd=>by
    rw [Nat.zero_add]
    have hjl:=(List.getElem?_eq_some_iff.1 hj).1
    rcases s3 t ht j oj hj hd with rfl | hb | hb
    ·rw [hun];simp
    ·rw [hbef j hb];simpa using (hlt i j hil hb)
    ·rw [haft j hjl hb];have:=hlt j i hjl hb;simp;omega) rfl
  have hrestr:RelE g (M.1++M.2) w nt (Ga5 (Wk (fun j=>decide (j<i)) 0 l vs E) (Ym o)) a:=⟨hre.defers,hre.size,fun t=>by
   rcases Gef (Wk (fun j=>decide (j<i)) 0 l vs E) (Ym o) t with ⟨h1,h2⟩ | h1
   ·rw [h2,← hname t (.inl h1)];exact hre.at_ t
   ·rw [h1];exact .any _⟩
  have hget':∀ j,(listed.setIfInBounds i true).getD j false=if j=i then true else listed.getD j false:=fun j=>by
   by_cases e:j=i
   ·subst e
    have:j<listed.size:=by omega
    simp [this]
   ·simp [e,Array.getElem?_setIfInBounds_ne (Ne.symm e)]
  have henv:∀ t,look (Wk (fun j=>(listed.setIfInBounds i true).getD j false) 0 l vs E) t=if o.dst=some t then v else look (Wk (fun j=>listed.getD j false) 0 l vs E) t:=fun t=>by
   by_cases hd:o.dst=some t
   ·rw [if_pos hd,← Gh3 (i:=i) l 0 vs E hio hv hd]
    refine Xx l 0 vs E E (fun j oj hj hdj=>?_) rfl
    rw [Nat.zero_add,hget']
    have hjl:=(List.getElem?_eq_some_iff.1 hj).1
    rcases s3 t (.inr (.inr hd)) j oj hj hdj with rfl | hb | hb
    ·simp
    ·have:=hlt i j hil hb
     rw [if_neg (by omega),hbef j hb];simp;omega
    ·have:=hlt j i hjl hb
     rw [if_neg (by omega),haft j hjl hb];simp;omega
   ·rw [if_neg hd]
    refine Xx l 0 vs E E (fun j oj hj hdj=>?_) rfl
    rw [Nat.zero_add,hget',if_neg]
    rintro rfl
    rw [hio] at hj
    injection hj with hj
    subst hj
    exact hd hdj
  have hdown':∀ k j,k<n→(listed.setIfInBounds i true).getD k false=true→Zq tbl k j=true→(listed.setIfInBounds i true).getD j false=true:=fun k j hk h1 h2=>by
   rw [hget'] at h1 ⊢
   split
   ·rfl
   ·by_cases e:k=i
    ·subst e;exact hbef j h2
    ·rw [if_neg e] at h1;exact hdown k j hk h1 h2
  have hds:Gcc nt o.dst=true:=List.all_eq_true.1 hdst o (List.mem_of_getElem? hio)
  -- the state behind it
  have done:∀ (g':Gh) (M':Zd) (x:Value) (w':World),((exN n effs fun j=>(listed.setIfInBounds i true).getD j false),M') ∈ tab→RelM g' low.length (M'.1++M'.2) w'→VR g' (M'.1++M'.2) w' v x→GStep (M.1++M.2).length g (M.1++M.2) w g' (M'.1++M'.2) w'→K (a.put o.dst x) w':=fun g' M' x w' hM' hrm' hvr hst'=>by
   refine hK _ _ ⟨by simpa using hsz,hdown',g',M',hM',hrm',⟨((hre.step hst').putO hds hvr).defers,?_,fun t=>?_⟩,hst.trans (hst'.less (by rw [List.length_append];omega))⟩
   ·exact ((hre.step hst').putO hds hvr).size
   ·rw [henv t]
    have:=((hre.step hst').putO hds hvr).at_ t
    rwa [Gb1] at this
  have heffN:effs.getD i false=false→(exN n effs fun j=>(listed.setIfInBounds i true).getD j false)=exN n effs fun j=>listed.getD j false:=fun he=>Gia fun j hj=>by
   show (effs.getD j false&&(listed.setIfInBounds i true).getD j false)=(effs.getD j false&&listed.getD j false)
   rw [hget']
   by_cases e:j=i
   ·subst e;rw [he];simp
   ·rw [if_neg e]
  have stepG:GStep (M.1++M.2).length g (M.1++M.2) w g (M.1++M.2) w:=GStep.refl _ _ _ _
  have henab:Gow n tbl effs i (exN n effs fun j=>listed.getD j false)=true:=by
   unfold Gow
   rw [Gg6 (show i<n from hil),hun]
   simp only [Bool.and_false,Bool.not_false,Bool.true_and]
   rw [List.all_eq_true]
   intro j hj
   have hj:=List.mem_range.1 hj
   rw [Gg6 hj]
   cases hej:effs.getD j false with
   | false=>rfl
   | true =>
    simp only [Bool.not_true,Bool.false_or,Bool.true_and,Bool.and_eq_true]
    constructor
    ·cases hb:Zq tbl i j with
     | false=>rfl
     | true=>rw [hbef j hb];rfl
    ·cases hb:Zq tbl j i with
     | false=>rfl
     | true=>rw [haft j hj hb];rfl
  have hwin:((exN n effs fun j=>listed.getD j false),M) ∈ Got n tbl effs tab i:=List.mem_filter.2 ⟨hM,henab⟩
  have runs:Gnm P l.length tbl effs tab i o (Wk (fun j=>decide (j<i)) 0 l vs E) v→o.wp P a w K Qr:=by
   intro hrun
   unfold Gnm at hrun
   cases he:effs.getD i false with
   | true =>
    rw [he] at hrun
    simp only [if_true] at hrun
    obtain ⟨k,M',h2,hef⟩:=hrun.get _ hwin
    have hc':(exN n effs fun j=>(listed.setIfInBounds i true).getD j false)=Gou n (exN n effs fun j=>listed.getD j false) i:=Gox fun j hj=>by
     rw [hget']
     by_cases e:j=i
     ·subst e;rw [he];simp
     ·rw [if_neg e]
      simp [e]
    refine hef g nt a w ⟨by rw [← hlo];exact hrm,hrestr⟩ K Qr ?_
    rintro x w' g' v' low' loc' ⟨rfl,rfl,rfl⟩ hl' hvr hrm' hst'
    exact done g' M' x w' (by rw [hc'];exact List.mem_of_getElem? h2) (by rw [hlo];exact hrm') hvr hst'
   | false =>
    rw [he] at hrun
    simp only [Bool.false_eq_true,if_false] at hrun
    have hrd:=hrun.get _ hwin
    refine hrd g nt a w ⟨by rw [← hlo];exact hrm,hrestr⟩ K Qr ?_
    rintro x w' g' v' low' loc' ⟨rfl,rfl,rfl⟩ hl' hvr hrm' hst'
    exact done g' M x w' (by rw [heffN he];exact hM) (by rw [hlo];exact hrm') hvr hst'
  unfold wpOp
  rw [List.getElem?_toArray,hio]
  simp only
  unfold Gj4 at hstep
  cases hgd:o.guard with
  | none =>
   rw [hgd] at hstep
   have hw:Region.wanted o (yielded l.toArray a.tmps)=true:=by simp [Region.wanted,hgd]
   rw [hw]
   exact .inl (runs hstep)
  | some jw =>
   obtain ⟨j,want⟩:=jw
   rw [hgd] at hstep
   obtain ⟨t,ht,hcase⟩:=hstep
   have htg:t ∈ Gd6 l o:=by simp [Gd6,hgd,ht]
   have hvt:=hre.at_ t
   have hundef:∀ (g:Gh) (H:List AObj) (w:World),VR g H w (.tup []) undef:=fun g H w=>.imm (.tup [] [] rfl (by simp))
   rcases hcase with ⟨b,hlk,hyes,hnot⟩ | ⟨hlk,rfl,he⟩
   ·rw [hname t (.inr (.inl htg)),hlk] at hvt
    have hbt:=hvt.bool_inv
    have hy:yielded l.toArray a.tmps j=some b:=by
     unfold yielded
     rw [List.getElem?_toArray,ht]
     simp only [Option.bind_some]
     rcases Nat.lt_or_ge t a.tmps.size with hlt' | hge
     ·simp [hlt'] at hbt
      simp [hlt',hbt]
     ·simp [Array.getElem?_eq_none hge,undef] at hbt
    have hw:Region.wanted o (yielded l.toArray a.tmps)=(b == want):=by
     simp [Region.wanted,hgd,hy]
    rw [hw]
    by_cases hbw:b=want
    ·rw [if_pos (by simp [hbw])]
     exact .inl (runs (hyes hbw))
    ·rw [if_neg (by simp [hbw])]
     obtain ⟨rfl,he⟩:=hnot hbw
     exact done g M undef w (by rw [heffN he];exact hM) hrm (hundef _ _ _) stepG
   ·rw [hname t (.inr (.inl htg)),hlk] at hvt
    obtain ⟨xs,hxs,hl0,_⟩:=hvt.tup_inv
    have hx0:xs=[]:=List.eq_nil_of_length_eq_zero (by rw [← hl0];rfl)
    subst hx0
    have hy:yielded l.toArray a.tmps j=none:=by
     unfold yielded
     rw [List.getElem?_toArray,ht]
     simp only [Option.bind_some]
     rcases Nat.lt_or_ge t a.tmps.size with hlt' | hge
     ·simp [hlt'] at hxs
      simp [hlt',hxs]
     ·simp [Array.getElem?_eq_none hge]
    have hw:Region.wanted o (yielded l.toArray a.tmps)=false:=by
     simp [Region.wanted,hgd,hy]
    rw [hw]
    simp only [Bool.false_eq_true,if_false]
    exact done g M undef w (by rw [heffN he];exact hM) hrm (hundef _ _ _) stepG
 -- any order
 have all:∀ (fuel:Nat) (listed:Array Bool) (a:Act) (w:World),Inv listed a w→(List.range n).countP (fun j=>listed.getD j false)+fuel=n→wpAny P .any l.toArray Qr fuel listed a w:=by
  intro fuel
  induction fuel with
  | zero =>
   intro listed a w hi hc
   have hall:∀ i,i<n→listed.getD i false=true:=fun i hil=>by
    have hlen:(List.range n).countP (fun j=>listed.getD j false)=(List.range n).length:=by rw [List.length_range];omega
    exact List.countP_eq_length.1 hlen i (List.mem_range.2 hil)
   refine ⟨?_,fin listed a w hi hall⟩
   unfold Region.ready
   refine List.filter_eq_nil_iff.2 fun i hi'=>?_
   have hil:i<n:=by simpa using hi'
   have hl:=hall i hil
   have:listed.getD i true=true:=by
    have hsz:i<listed.size:=by have:=hi.1;omega
    simp [hsz] at hl ⊢
    exact hl
   simp [this]
  | succ fuel ih =>
   intro listed a w hi hc
   refine ⟨fun hre=>fin listed a w hi (hno listed hi.1 hre),fun i hir=>?_⟩
   have hm':=List.mem_filter.1 hir
   have hil:i<n:=by simpa using hm'.1
   have hio:l[i]?=some l[i]:=List.getElem?_eq_getElem hil
   have hcond:=hm'.2
   simp only [List.getElem?_toArray,hio,Option.map_some,Option.getD_some,Bool.and_eq_true,Bool.not_eq_true'] at hcond
   have hun:listed.getD i false=false:=by
    have h1:=hcond.1
    have hsz:i<listed.size:=by have:=hi.1;omega
    simp [hsz] at h1 ⊢
    exact h1
   refine step listed a w i l[i] hi hio hun (fun e he hb=>?_) _ (fun a' w' hi'=>ih _ a' w' hi' ?_)
   ·have h2:=Array.all_eq_true'.1 hcond.2 e he
    simpa [hb] using h2
   ·have:(List.range n).countP (fun j=>(listed.setIfInBounds i true).getD j false)=(List.range n).countP (fun j=>listed.getD j false)+1:=by
     refine Gcx hil hun ?_ fun j hj hne=>?_
     ·have hsz:i<listed.size:=by have:=hi.1;omega
      simp [hsz]
     ·simp [Array.getElem?_setIfInBounds_ne (Ne.symm hne)]
    omega
 obtain ⟨hsd,hmd⟩:=Gd0 (m:=(low++loc).length) hr0.m
 refine wp_region_any hm (all _ _ _ _ ⟨by simp [n],fun i j hi h=>?_,g0,(low,loc),?_,hmd,?_,hsd.less (by simp)⟩ ?_)
 ·have:i<l.length:=hi
  simp [this] at h
 ·have:(exN n effs fun j=>(Array.replicate l.toArray.size false).getD j false)=[]:=by
   unfold exN
   rw [List.filter_eq_nil_iff]
   intro j hj
   have:j<l.length:=by simpa [n] using hj
   simp [this]
  rw [this]
  exact List.mem_of_getElem? h0
 ·refine ⟨hr0.e.defers,hr0.e.size,fun t=>?_⟩
  have:look (Wk (fun j=>(Array.replicate l.toArray.size false).getD j false) 0 l vs E) t=look (Wk (fun j=>decide (j<0)) 0 l vs E) t :=
   Xx l 0 vs E E (fun j o hj _=>by
    have:=(List.getElem?_eq_some_iff.1 hj).1
    simp [this]) rfl
  rw [this]
  have none_:∀ (l:List Oper) (m:Nat) (vs:List PV) (E:Env),Wk (fun j=>decide (j<0)) m l vs E=E:=by
   intro l
   induction l with
   | nil=>intro m vs E;simp [Wk]
   | cons o l ih=>intro m vs E;cases vs with
    | nil=>simp [Wk]
    | cons v vs=>simp only [Wk];rw [if_neg (by simp)];exact ih (m+1) vs E
  rw [none_]
  exact (hr0.e.step hsd).at_ t
 ·have:(List.range n).countP (fun j=>(Array.replicate l.toArray.size false).getD j false)=0:=by
   rw [List.countP_eq_zero]
   intro j hj
   have:j<l.length:=by simpa [n] using hj
   simp [this]
  rw [this]
  simp [n]

end
end Go.Aml
