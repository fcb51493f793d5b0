/- The abstract memory logic, part L: regions that draw their order. -/
import Derived.Test.YticjalhfpjlbdaaAmlK
namespace Go.Aml
open Go

abbrev Zd:=List AObj×List AObj

def Wk (S:Nat→Bool):Nat→List Oper→List PV→Env→Env
 | k,o::l,v::vs,E=>Wk S (k+1) l vs (if S k then Gas E o.dst v else E)
 | _,_,_,E=>E

theorem Gb1 (E:Env) (d:Option Nat) (v:PV) (t:Nat):look (Gas E d v) t=if d=some t then v else look E t:=by
 cases d with
 | none=>simp [Gas]
 | some d =>
  by_cases h:d=t
  ·subst h;simp [Gas,Wt]
  ·simp [Gas,Xm v E h,h]

theorem Xx {S S':Nat→Bool} {t:Nat}:∀ (l:List Oper) (k:Nat) (vs:List PV) (E E':Env),(∀ j o,l[j]?=some o→o.dst=some t→S (k+j)=S' (k+j))→look E t=look E' t→look (Wk S k l vs E) t=look (Wk S' k l vs E') t
 | [],_,_,_,_,_,h=>by simpa [Wk] using h
 | _::_,_,[],_,_,_,h=>by simpa [Wk] using h
 | o::l,k,v::vs,E,E',hS,h=>by
  simp only [Wk]
  refine Xx l (k+1) vs _ _ (fun j o' hj hd=>by
   have:=hS (j+1) o' (by simpa using hj) hd
   rwa [show k+(j+1)=k+1+j by omega] at this) ?_
  by_cases hd:o.dst=some t
  ·have h0:=hS 0 o rfl hd
   simp only [Nat.add_zero] at h0
   rw [h0]
   split
   ·rw [Gb1,Gb1,if_pos hd,if_pos hd]
   ·exact h
  ·have e:∀ (b:Bool) (E:Env),look (if b=true then Gas E o.dst v else E) t=look E t:=fun b E=>by
    split
    ·rw [Gb1,if_neg hd]
    ·rfl
   rw [e,e,h]

theorem Gh3 {t i:Nat} {o:Oper} {v:PV}:∀ (l:List Oper) (k:Nat) (vs:List PV) (E:Env),l[i]?=some o→vs[i]?=some v→o.dst=some t→look (Wk (fun j=>decide (j<k+i+1)) k l vs E) t=v:=by
 induction i with
 | zero =>
  intro l k vs E hl hv hd
  match l,vs,hl,hv with
  | o'::l,v'::vs,hl,hv =>
   simp at hl hv
   subst hl;subst hv
   simp only [Wk]
   have:look (Wk (fun j=>decide (j<k+0+1)) (k+1) l vs (if decide (k<k+0+1)=true then Gas E o'.dst v' else E)) t=look (Wk (fun _=>false) (k+1) l vs (Gas E o'.dst v')) t:=by
    refine Xx l (k+1) vs _ _ (fun j o hj hd=>by simp) (by simp)
   rw [this]
   have none_:∀ (l:List Oper) (k:Nat) (vs:List PV) (E:Env),Wk (fun _=>false) k l vs E=E:=by
    intro l
    induction l with
    | nil=>intro k vs E;simp [Wk]
    | cons o l ih=>intro k vs E;cases vs with
     | nil=>simp [Wk]
     | cons v vs=>simp [Wk,ih]
   rw [none_,Gb1,if_pos hd]
 | succ i ih =>
  intro l k vs E hl hv hd
  match l,vs,hl,hv with
  | o'::l,v'::vs,hl,hv =>
   simp only [Wk]
   have:=ih l (k+1) vs (if decide (k<k+(i+1)+1)=true then Gas E o'.dst v' else E) (by simpa using hl) (by simpa using hv) hd
   rw [show k+(i+1)+1=k+1+i+1 by omega]
   rw [show k+(i+1)+1=k+1+i+1 by omega] at this
   exact this

def Ym (o:Oper):List Nat:=o.op.operands.toList.filterMap fun | .tmp t=>some t | _=>none
def Ga5 (E:Env) (ts:List Nat):Env:=ts.map fun t=>(t,look E t)
theorem Gef (E:Env):∀ (ts:List Nat) (t:Nat),(t ∈ ts∧look (Ga5 E ts) t=look E t)∨look (Ga5 E ts) t = .any
 | [],t=>.inr rfl
 | s::ts,t=>by
  by_cases h:s=t
  ·subst h
   exact .inl ⟨by simp,Wt _ _ _⟩
  ·have:look (Ga5 E (s::ts)) t=look (Ga5 E ts) t:=Xm _ _ h
   rw [this]
   rcases Gef E ts t with ⟨h1,h2⟩ | h1
   ·exact .inl ⟨by simp [h1],h2⟩
   ·exact .inr h1

def Zq (tbl:List (List Nat)) (i j:Nat):Bool:=(tbl.getD i []).elem j
def Goe (tbl:List (List Nat)) (i j:Nat):Bool:=Zq tbl i j||Zq tbl j i
def Grn (l:List Oper) (tbl:List (List Nat)) (i t:Nat):Bool:=(List.range l.length).all fun j=>!((l.getD j default).dst == some t)||i == j||Goe tbl i j
def Gd6 (l:List Oper) (o:Oper):List Nat:=match o.guard with | some (j,_)=>((l[j]?).bind (·.dst)).toList | none=>[]

def Gmd (l:List Oper) (tbl:List (List Nat)) (effs:List Bool):Bool :=
 (List.range l.length).all fun i =>
  let o:=l.getD i default
  (o.after.toList.all fun e=>!Region.binds .any e||Nat.blt e.on i) &&
  ((tbl.getD i []).all fun j=>o.after.toList.any fun e=>Region.binds .any e&&(e.on == j||Zq tbl e.on j)) &&
  ((Ym o++Gd6 l o++o.dst.toList).all fun t=>Grn l tbl i t) &&
  (!effs.getD i false||(List.range l.length).all fun j=>!effs.getD j false||i == j||Goe tbl i j)

def Gac (n:Nat) (effs:List Bool) (S:Nat→Bool):Nat:=(List.range n).countP fun j=>effs.getD j false&&S j

theorem Gew {n:Nat} {p q:Nat→Bool} (h:∀ j,j<n→p j=true→q j=true):(List.range n).countP p≤(List.range n).countP q :=
 List.countP_mono_left fun j hj hp=>h j (List.mem_range.1 hj) hp
theorem Gat {n:Nat} {p q:Nat→Bool} (h:∀ j,j<n→p j=q j):(List.range n).countP p=(List.range n).countP q :=
 List.countP_congr fun j hj=>by rw [h j (List.mem_range.1 hj)]
theorem Gcx {n i:Nat} {p q:Nat→Bool} (hi:i<n) (hp:p i=false) (hq:q i=true) (h:∀ j,j<n→j≠i→p j=q j):(List.range n).countP q=(List.range n).countP p+1:=by
 induction n with
 | zero=>omega
 | succ n ih =>
  rw [List.range_succ,List.countP_append,List.countP_append]
  by_cases e:i=n
  ·subst e
   rw [Gat (n:=i) (p:=p) (q:=q) fun j hj=>h j (by omega) (by omega)]
   simp [hp,hq]
  ·rw [ih (by omega) fun j hj hne=>h j (by omega) hne]
   have:=h n (by omega) (fun h=>e h.symm)
   simp [List.countP_cons,this]
   omega

section
variable {P:Program} {nt:Nat} {Q:Xt} {E:Env} {low loc:List AObj}

def Gf2 (n:Nat) (tbl:List (List Nat)) (effs:List Bool) (i:Nat):Nat:=Gac n effs fun j=>Zq tbl i j
def Gof (n:Nat) (tbl:List (List Nat)) (effs:List Bool) (i:Nat):Nat:=Gac n effs fun j=>!Zq tbl j i

def VNt (P:Program) (o:Oper) (E:Env) (low loc:List AObj) (v:PV):Prop:=VEf P o E low loc fun v1 l1 l2=>v1=v∧l1=low∧l2=loc
theorem VRd.ntl {P:Program} {o:Oper} {E:Env} {low loc:List AObj} {v:PV} (h:VRd P o E low loc v):VNt P o E low loc v:=by
 intro g nt a w hr Kr Qr hK
 obtain ⟨x,hx,hv⟩:=h g nt a w hr
 unfold Oper.wp
 rw [hx]
 exact hK x w g v low loc ⟨rfl,rfl,rfl⟩ rfl hv hr.m (GStep.refl _ _ _ _)
def Gjs (P:Program) (o:Oper) (E:Env) (v:PV):List Zd→Prop
 | []=>True
 | M::Ms=>VNt P o E M.1 M.2 v∧Gjs P o E v Ms
theorem Gjs.get {o:Oper} {v:PV} {Ms:List Zd} (h:Gjs P o E v Ms) (k:Nat) (M:Zd) (hk:Ms[k]?=some M):VNt P o E M.1 M.2 v:=by
 induction Ms generalizing k with
 | nil=>simp at hk
 | cons A Ms ih =>
  match k,hk with
  | 0,hk=>simp at hk;subst hk;exact h.1
  | k+1,hk=>exact ih h.2 k (by simpa using hk)

def Ggr (P:Program) (n:Nat) (tbl:List (List Nat)) (effs:List Bool) (mems:List Zd) (i:Nat) (o:Oper) (Ei:Env) (v:PV):Prop :=
 if effs.getD i false then
  ∃ M M',mems[Gac n effs fun j=>decide (j<i)]?=some M∧mems[(Gac n effs fun j=>decide (j<i))+1]?=some M'∧VEf P ⟨o.dst,o.op,o.type,o.pos,o.after,none⟩ (Ga5 Ei (Ym o)) M.1 M.2 fun v1 l1 l2=>v1=v∧l1=M'.1∧l2=M'.2
 else Gjs P ⟨o.dst,o.op,o.type,o.pos,o.after,none⟩ (Ga5 Ei (Ym o)) v ((mems.drop (Gf2 n tbl effs i)).take (Gof n tbl effs i+1-Gf2 n tbl effs i))

def Ggs (P:Program) (l:List Oper) (tbl:List (List Nat)) (effs:List Bool) (mems:List Zd) (i:Nat) (o:Oper) (Ei:Env) (v:PV):Prop :=
 match o.guard with
 | none=>Ggr P l.length tbl effs mems i o Ei v
 | some (j,want)=>∃ t,(l[j]?).bind (·.dst)=some t∧((∃ b,look Ei t = .bool b∧(b=want→Ggr P l.length tbl effs mems i o Ei v)∧(b≠want→v = .tup []∧effs.getD i false=false))∨(look Ei t = .tup []∧v = .tup []∧effs.getD i false=false))

def Gdz (P:Program) (l:List Oper) (tbl:List (List Nat)) (effs:List Bool) (mems:List Zd):Nat→List Oper→List PV→Env→Prop
 | i,o::r,v::vs,E=>Ggs P l tbl effs mems i o E v∧Gdz P l tbl effs mems (i+1) r vs (Gas E o.dst v)
 | _,[],[],_=>True
 | _,_,_,_=>False

theorem Gdz.get {l:List Oper} {tbl:List (List Nat)} {effs:List Bool} {mems:List Zd}:∀ {r:List Oper} {vs:List PV} {k:Nat} {E0:Env},Gdz P l tbl effs mems k r vs E0 →
  vs.length=r.length∧∀ i o,r[i]?=some o→∃ v,vs[i]?=some v∧Ggs P l tbl effs mems (k+i) o (Wk (fun j=>decide (j<k+i)) k r vs E0) v
 | [],[],k,E0,_=>⟨rfl,by simp⟩
 | [],_::_,k,E0,h=>h.elim
 | _::_,[],k,E0,h=>h.elim
 | o::r,v::vs,k,E0,h=>by
  obtain ⟨h1,h2⟩:=Gdz.get h.2
  refine ⟨by simp [h1],fun i o' hi=>?_⟩
  match i,hi with
  | 0,hi =>
   simp at hi
   subst hi
   refine ⟨v,rfl,?_⟩
   have none_:∀ (l:List Oper) (m:Nat) (vs:List PV) (E:Env),k≤m→Wk (fun j=>decide (j<k+0)) m l vs E=E:=by
    intro l
    induction l with
    | nil=>intro m vs E _;simp [Wk]
    | cons o l ih=>intro m vs E hm;cases vs with
     | nil=>simp [Wk]
     | cons v vs =>
      simp only [Wk]
      rw [if_neg (by simp;omega)]
      exact ih (m+1) vs E (by omega)
   rw [none_ _ _ _ _ (Nat.le_refl _)]
   exact h.1
  | i+1,hi =>
   obtain ⟨v',hv',hs⟩:=h2 i o' (by simpa using hi)
   refine ⟨v',by simpa using hv',?_⟩
   rw [show k+1+i=k+(i+1) by omega] at hs
   simp only [Wk]
   rw [if_pos (by simp)]
   exact hs

theorem Geg {l:List Oper} {tbl:List (List Nat)} {effs:List Bool} (h:Gmd l tbl effs=true) {i:Nat} {o:Oper} (hi:l[i]?=some o) :
  (∀ e ∈ o.after,Region.binds .any e=true→e.on<i) ∧
  (∀ j,Zq tbl i j=true→∃ e ∈ o.after,Region.binds .any e=true∧(e.on=j∨Zq tbl e.on j=true)) ∧
  (∀ t,t ∈ Ym o∨t ∈ Gd6 l o∨o.dst=some t→∀ j oj,l[j]?=some oj→oj.dst=some t→i=j∨Zq tbl i j=true∨Zq tbl j i=true) ∧
  (effs.getD i false=true→∀ j,j<l.length→effs.getD j false=true→i=j∨Zq tbl i j=true∨Zq tbl j i=true):=by
 have hil:=(List.getElem?_eq_some_iff.1 hi).1
 have hget:l.getD i default=o:=by simp [List.getD,hi]
 have hh:=List.all_eq_true.1 h i (List.mem_range.2 hil)
 simp only [hget,Bool.and_eq_true] at hh
 obtain ⟨⟨⟨h1,h2⟩,h3⟩,h4⟩:=hh
 refine ⟨fun e he hb=>?_,fun j hj=>?_,fun t ht j oj hj hd=>?_,fun hie j hj hje=>?_⟩
 ·have:=List.all_eq_true.1 h1 e (Array.mem_toList_iff.2 he)
  simp [hb] at this
  simpa [Nat.blt] using this
 ·have:=List.all_eq_true.1 h2 j (by simpa [Zq] using hj)
  obtain ⟨e,he,hc⟩:=List.any_eq_true.1 this
  simp only [Bool.and_eq_true,Bool.or_eq_true,beq_iff_eq] at hc
  exact ⟨e,Array.mem_toList_iff.1 he,hc.1,hc.2⟩
 ·have:=List.all_eq_true.1 h3 t (by
   rcases ht with h | h | h
   ·simp [h]
   ·simp [h]
   ·simp [h])
  have hjl:=(List.getElem?_eq_some_iff.1 hj).1
  have hj':=List.all_eq_true.1 this j (List.mem_range.2 hjl)
  have hgj:l.getD j default=oj:=by simp [List.getD,hj]
  rw [hgj,hd] at hj'
  simp only [beq_self_eq_true,Bool.not_true,Bool.false_or,Bool.or_eq_true,beq_iff_eq,Goe] at hj'
  exact hj'
 ·rw [hie] at h4
  simp only [Bool.not_true,Bool.false_or] at h4
  have:=List.all_eq_true.1 h4 j (List.mem_range.2 hj)
  rw [hje] at this
  simp only [Bool.not_true,Bool.false_or,Bool.or_eq_true,beq_iff_eq,Goe] at this
  exact this

theorem Gog {id:Nat} {l:List Oper} (tbl:List (List Nat)) (effs:List Bool) (mems:List Zd) (vs:List PV) (hm:P.follows .mixedOrders=true) (hB:Gmd l tbl effs=true) (h0:mems[0]?=some (low,loc)) (hlow:mems.all (fun M=>M.1.length == low.length)=true)
  (hdst:l.all (fun o=>Gcc nt o.dst)=true) (hs:Gdz P l tbl effs mems 0 l vs E) (hq:∀ M,mems[Gac l.length effs fun _=>true]?=some M→Q .normal (Wk (fun _=>true) 0 l vs E) M.1 M.2):VWp P nt (.region id l.toArray true) Q E low loc:=by
 intro g0 a0 w0 hr0 Qr hQ
 obtain ⟨hvl,hget⟩:=hs.get
 have hlowg:∀ (k:Nat) (M:Zd),mems[k]?=some M→M.1.length=low.length:=fun k M hk=>by
  have:=List.all_eq_true.1 hlow M (List.mem_of_getElem? hk)
  simpa using this
 let n:=l.length
 -- what holds when those operations have been carried out that are listed
 let Inv:Array Bool→Act→World→Prop:=fun listed a w=>listed.size=n∧(∀ i j,i<n→listed.getD i false=true→Zq tbl i j=true→listed.getD j false=true) ∧
  ∃ g M,mems[Gac n effs fun j=>listed.getD j false]?=some M∧RelM g low.length (M.1++M.2) w∧RelE g (M.1++M.2) w nt (Wk (fun j=>listed.getD j false) 0 l vs E) a∧GStep low.length g0 (low++loc) w0 g (M.1++M.2) w
 have fin:∀ listed a w,Inv listed a w→(∀ i,i<n→listed.getD i false=true)→Qr .normal a w:=by
  rintro listed a w ⟨hsz,_,g,M,hM,hrm,hre,hst⟩ hall
  have e1:Gac n effs (fun j=>listed.getD j false)=Gac l.length effs fun _=>true:=Gat fun j hj=>by
   show (effs.getD j false&&listed.getD j false)=(effs.getD j false&&true)
   rw [hall j hj]
  have e2:∀ t,look (Wk (fun j=>listed.getD j false) 0 l vs E) t=look (Wk (fun _=>true) 0 l vs E) t:=fun t =>
   Xx l 0 vs E E (fun j o hj _=>by rw [Nat.zero_add];exact hall j (List.getElem?_eq_some_iff.1 hj).1) rfl
  rw [e1] at hM
  exact hQ .normal a w ⟨_,M.1,M.2,g,hq M hM,hlowg _ _ hM,⟨hrm,hre.defers,hre.size,fun t=>by rw [← e2 t];exact hre.at_ t⟩,hst⟩
 have hno:∀ listed:Array Bool,listed.size=n→Region.ready .any l.toArray listed=[]→∀ i,i<n→listed.getD i false=true:=by
  intro listed hsz hre i
  induction i using Nat.strongRecOn with
  | _ i ih =>
   intro hi
   cases hb:listed.getD i false with
   | true=>rfl
   | false =>
    exfalso
    have hio:l[i]?=some l[i]:=List.getElem?_eq_getElem hi
    have:i ∈ Region.ready .any l.toArray listed:=by
     refine List.mem_filter.2 ⟨List.mem_range.2 (by simpa using hi),?_⟩
     have hb':listed.getD i true=false:=by
      have hil:i<listed.size:=by omega
      simp [hil] at hb ⊢
      exact hb
     simp only [hb',Bool.not_false,Bool.true_and,List.getElem?_toArray,hio,Option.map_some,Option.getD_some]
     rw [Array.all_eq_true]
     intro q hq'
     have hmem:l[i].after[q] ∈ l[i].after:=Array.getElem_mem hq'
     cases hbi:Region.binds .any l[i].after[q] with
     | false=>rfl
     | true =>
      have hlt:=(Geg hB hio).1 _ hmem hbi
      simp [ih _ hlt (by omega)]
    rw [hre] at this
    cases this
 -- one operation
 have step:∀ listed a w i o,Inv listed a w→l[i]?=some o→listed.getD i false=false→(∀ e ∈ o.after,Region.binds .any e=true→listed.getD e.on false=true)→∀ K:Act→World→Prop,(∀ a' w',Inv (listed.setIfInBounds i true) a' w'→K a' w')→wpOp P l.toArray Qr i K a w:=by
  rintro listed a w i o ⟨hsz,hdown,g,M,hM,hrm,hre,hst⟩ hio hun hrdy K hK
  have hil:=(List.getElem?_eq_some_iff.1 hio).1
  obtain ⟨s1,s2,s3,s4⟩:=Geg hB hio
  obtain ⟨v,hv,hstep⟩:=hget i o hio
  rw [Nat.zero_add] at hstep
  have hlo:low.length=M.1.length:=(hlowg _ _ hM).symm
  -- all that stands before i is listed;nothing that stands behind i is
  have hbef:∀ j,Zq tbl i j=true→listed.getD j false=true:=fun j hj=>by
   obtain ⟨e,he,hb,hc⟩:=s2 j hj
   have hel:=hrdy e he hb
   rcases hc with rfl | hc
   ·exact hel
   ·exact hdown e.on j (by have:=s1 e he hb;omega) hel hc
  have haft:∀ j,j<n→Zq tbl j i=true→listed.getD j false=false:=fun j hj hb=>by
   cases hh:listed.getD j false with
   | false=>rfl
   | true=>rw [hdown j i hj hh hb] at hun;cases hun
  -- Zq goes down
  have hlt:∀ (m j:Nat),m<n→Zq tbl m j=true→j<m:=by
   intro m
   induction m using Nat.strongRecOn with
   | _ m ih =>
    intro j hm hb
    obtain ⟨s1,s2,_⟩:=Geg hB (List.getElem?_eq_getElem hm)
    obtain ⟨e,he,hbi,hc⟩:=s2 j hb
    have:=s1 e he hbi
    rcases hc with rfl | hc
    ·exact this
    ·have:=ih e.on this j (by omega) hc
     omega
  have hname:∀ t,t ∈ Ym o∨t ∈ Gd6 l o∨o.dst=some t→look (Wk (fun j=>listed.getD j false) 0 l vs E) t=look (Wk (fun j=>decide (j<i)) 0 l vs E) t:=fun t ht =>
   Xx l 0 vs E E (fun j oj hj hd=>by
    rw [Nat.zero_add]
    have hjl:=(List.getElem?_eq_some_iff.1 hj).1
    rcases s3 t ht j oj hj hd with rfl | hb | hb
    ·rw [hun];simp
    ·rw [hbef j hb];simpa using (hlt i j hil hb)
    ·rw [haft j hjl hb];have:=hlt j i hjl hb;simp;omega) rfl
  have hrestr:RelE g (M.1++M.2) w nt (Ga5 (Wk (fun j=>decide (j<i)) 0 l vs E) (Ym o)) a:=⟨hre.defers,hre.size,fun t=>by
   rcases Gef (Wk (fun j=>decide (j<i)) 0 l vs E) (Ym o) t with ⟨h1,h2⟩ | h1
   ·rw [h2,← hname t (.inl h1)];exact hre.at_ t
   ·rw [h1];exact .any _⟩
  have hget':∀ j,(listed.setIfInBounds i true).getD j false=if j=i then true else listed.getD j false:=fun j=>by
   by_cases e:j=i
   ·subst e
    have:j<listed.size:=by omega
    simp [this]
   ·simp [e,Array.getElem?_setIfInBounds_ne (Ne.symm e)]
  have henv:∀ t,look (Wk (fun j=>(listed.setIfInBounds i true).getD j false) 0 l vs E) t=if o.dst=some t then v else look (Wk (fun j=>listed.getD j false) 0 l vs E) t:=fun t=>by
   by_cases hd:o.dst=some t
   ·rw [if_pos hd,← Gh3 (i:=i) l 0 vs E hio hv hd]
    refine Xx l 0 vs E E (fun j oj hj hdj=>?_) rfl
    rw [Nat.zero_add,hget']
    have hjl:=(List.getElem?_eq_some_iff.1 hj).1
    rcases s3 t (.inr (.inr hd)) j oj hj hdj with rfl | hb | hb
    ·simp
    ·have:=hlt i j hil hb
     rw [if_neg (by omega),hbef j hb];simp;omega
    ·have:=hlt j i hjl hb
     rw [if_neg (by omega),haft j hjl hb];simp;omega
   ·rw [if_neg hd]
    refine Xx l 0 vs E E (fun j oj hj hdj=>?_) rfl
    rw [Nat.zero_add,hget',if_neg]
    rintro rfl
    rw [hio] at hj
    injection hj with hj
    subst hj
    exact hd hdj
  have hdown':∀ k j,k<n→(listed.setIfInBounds i true).getD k false=true→Zq tbl k j=true→(listed.setIfInBounds i true).getD j false=true:=fun k j hk h1 h2=>by
   rw [hget'] at h1 ⊢
   split
   ·rfl
   ·by_cases e:k=i
    ·subst e;exact hbef j h2
    ·rw [if_neg e] at h1;exact hdown k j hk h1 h2
  have hds:Gcc nt o.dst=true:=List.all_eq_true.1 hdst o (List.mem_of_getElem? hio)
  -- the state behind it
  have done:∀ (g':Gh) (M':Zd) (x:Value) (w':World),mems[Gac n effs fun j=>(listed.setIfInBounds i true).getD j false]?=some M'→RelM g' low.length (M'.1++M'.2) w'→VR g' (M'.1++M'.2) w' v x→GStep (M.1++M.2).length g (M.1++M.2) w g' (M'.1++M'.2) w'→K (a.put o.dst x) w':=fun g' M' x w' hM' hrm' hvr hst'=>by
   refine hK _ _ ⟨by simpa using hsz,hdown',g',M',hM',hrm',⟨((hre.step hst').putO hds hvr).defers,?_,fun t=>?_⟩,hst.trans (hst'.less (by rw [List.length_append];omega))⟩
   ·exact ((hre.step hst').putO hds hvr).size
   ·rw [henv t]
    have:=((hre.step hst').putO hds hvr).at_ t
    rwa [Gb1] at this
  have heffN:effs.getD i false=false→(Gac n effs fun j=>(listed.setIfInBounds i true).getD j false)=Gac n effs fun j=>listed.getD j false:=fun he=>Gat fun j hj=>by
   show (effs.getD j false&&(listed.setIfInBounds i true).getD j false)=(effs.getD j false&&listed.getD j false)
   rw [hget']
   by_cases e:j=i
   ·subst e;rw [he];simp
   ·rw [if_neg e]
  have stepG:GStep (M.1++M.2).length g (M.1++M.2) w g (M.1++M.2) w:=GStep.refl _ _ _ _
  have runs:Ggr P l.length tbl effs mems i o (Wk (fun j=>decide (j<i)) 0 l vs E) v→o.wp P a w K Qr:=by
   intro hrun
   unfold Ggr at hrun
   cases he:effs.getD i false with
   | true =>
    rw [he] at hrun
    simp only [if_true] at hrun
    obtain ⟨M1,M',h1,h2,hef⟩:=hrun
    have hc:(Gac n effs fun j=>listed.getD j false)=Gac l.length effs fun j=>decide (j<i):=Gat fun j hj=>by
     cases hej:effs.getD j false with
     | false=>rfl
     | true =>
      simp only [Bool.true_and]
      rcases s4 he j hj hej with rfl | hb | hb
      ·rw [hun];simp
      ·have:=hlt i j hil hb
       rw [hbef j hb];simp;omega
      ·have:=hlt j i hj hb
       rw [haft j hj hb];simp;omega
    have hMM:M1=M:=by
     have h1':=h1
     rw [← hc,hM] at h1'
     injection h1' with h1'
     exact h1'.symm
    subst hMM
    have hc':(Gac n effs fun j=>(listed.setIfInBounds i true).getD j false)=(Gac l.length effs fun j=>decide (j<i))+1:=by
     rw [← hc]
     refine Gcx hil ?_ ?_ fun j hj hne=>?_
     ·show (effs.getD i false&&listed.getD i false)=false
      rw [hun];simp
     ·show (effs.getD i false&&(listed.setIfInBounds i true).getD i false)=true
      rw [he,hget'];simp
     ·show (effs.getD j false&&listed.getD j false)=(effs.getD j false&&(listed.setIfInBounds i true).getD j false)
      rw [hget',if_neg hne]
    refine hef g nt a w ⟨by rw [← hlo];exact hrm,hrestr⟩ K Qr ?_
    rintro x w' g' v' low' loc' ⟨rfl,rfl,rfl⟩ hl' hvr hrm' hst'
    exact done g' M' x w' (by rw [hc'];exact h2) (by rw [hlo];exact hrm') hvr hst'
   | false =>
    rw [he] at hrun
    simp only [Bool.false_eq_true,if_false] at hrun
    have hw1:Gf2 l.length tbl effs i≤Gac n effs fun j=>listed.getD j false:=Gew fun j hj hp=>by
     simp only [Bool.and_eq_true] at hp ⊢
     exact ⟨hp.1,hbef j hp.2⟩
    have hw2:(Gac n effs fun j=>listed.getD j false)≤Gof l.length tbl effs i:=Gew fun j hj hp=>by
     simp only [Bool.and_eq_true] at hp ⊢
     refine ⟨hp.1,?_⟩
     cases hb:Zq tbl j i with
     | false=>rfl
     | true=>rw [haft j hj hb] at hp;simp at hp
    have hrd:=hrun.get ((Gac n effs fun j=>listed.getD j false)-Gf2 l.length tbl effs i) M (by
     rw [List.getElem?_take_of_lt (by omega),List.getElem?_drop]
     rw [show Gf2 l.length tbl effs i+((Gac n effs fun j=>listed.getD j false)-Gf2 l.length tbl effs i)=Gac n effs fun j=>listed.getD j false by omega]
     exact hM)
    refine hrd g nt a w ⟨by rw [← hlo];exact hrm,hrestr⟩ K Qr ?_
    rintro x w' g' v' low' loc' ⟨rfl,rfl,rfl⟩ hl' hvr hrm' hst'
    exact done g' M x w' (by rw [heffN he];exact hM) (by rw [hlo];exact hrm') hvr hst'
  unfold wpOp
  rw [List.getElem?_toArray,hio]
  simp only
  unfold Ggs at hstep
  cases hgd:o.guard with
  | none =>
   rw [hgd] at hstep
   have hw:Region.wanted o (yielded l.toArray a.tmps)=true:=by simp [Region.wanted,hgd]
   rw [hw]
   exact .inl (runs hstep)
  | some jw =>
   obtain ⟨j,want⟩:=jw
   rw [hgd] at hstep
   obtain ⟨t,ht,hcase⟩:=hstep
   have htg:t ∈ Gd6 l o:=by simp [Gd6,hgd,ht]
   have hvt:=hre.at_ t
   have hundef:∀ (g:Gh) (H:List AObj) (w:World),VR g H w (.tup []) undef:=fun g H w=>.imm (.tup [] [] rfl (by simp))
   rcases hcase with ⟨b,hlk,hyes,hnot⟩ | ⟨hlk,rfl,he⟩
   ·rw [hname t (.inr (.inl htg)),hlk] at hvt
    have hbt:=hvt.bool_inv
    have hy:yielded l.toArray a.tmps j=some b:=by
     unfold yielded
     rw [List.getElem?_toArray,ht]
     simp only [Option.bind_some]
     rcases Nat.lt_or_ge t a.tmps.size with hlt' | hge
     ·simp [hlt'] at hbt
      simp [hlt',hbt]
     ·simp [Array.getElem?_eq_none hge,undef] at hbt
    have hw:Region.wanted o (yielded l.toArray a.tmps)=(b == want):=by
     simp [Region.wanted,hgd,hy]
    rw [hw]
    by_cases hbw:b=want
    ·rw [if_pos (by simp [hbw])]
     exact .inl (runs (hyes hbw))
    ·rw [if_neg (by simp [hbw])]
     obtain ⟨rfl,he⟩:=hnot hbw
     exact done g M undef w (by rw [heffN he];exact hM) hrm (hundef _ _ _) stepG
   ·rw [hname t (.inr (.inl htg)),hlk] at hvt
    obtain ⟨xs,hxs,hl0,_⟩:=hvt.tup_inv
    have hx0:xs=[]:=List.eq_nil_of_length_eq_zero (by rw [← hl0];rfl)
    subst hx0
    have hy:yielded l.toArray a.tmps j=none:=by
     unfold yielded
     rw [List.getElem?_toArray,ht]
     simp only [Option.bind_some]
     rcases Nat.lt_or_ge t a.tmps.size with hlt' | hge
     ·simp [hlt'] at hxs
      simp [hlt',hxs]
     ·simp [Array.getElem?_eq_none hge]
    have hw:Region.wanted o (yielded l.toArray a.tmps)=false:=by
     simp [Region.wanted,hgd,hy]
    rw [hw]
    simp only [Bool.false_eq_true,if_false]
    exact done g M undef w (by rw [heffN he];exact hM) hrm (hundef _ _ _) stepG
 -- any order
 have all:∀ (fuel:Nat) (listed:Array Bool) (a:Act) (w:World),Inv listed a w→(List.range n).countP (fun j=>listed.getD j false)+fuel=n→wpAny P .any l.toArray Qr fuel listed a w:=by
  intro fuel
  induction fuel with
  | zero =>
   intro listed a w hi hc
   have hall:∀ i,i<n→listed.getD i false=true:=fun i hil=>by
    have hlen:(List.range n).countP (fun j=>listed.getD j false)=(List.range n).length:=by rw [List.length_range];omega
    exact List.countP_eq_length.1 hlen i (List.mem_range.2 hil)
   refine ⟨?_,fin listed a w hi hall⟩
   unfold Region.ready
   refine List.filter_eq_nil_iff.2 fun i hi'=>?_
   have hil:i<n:=by simpa using hi'
   have hl:=hall i hil
   have:listed.getD i true=true:=by
    have hsz:i<listed.size:=by have:=hi.1;omega
    simp [hsz] at hl ⊢
    exact hl
   simp [this]
  | succ fuel ih =>
   intro listed a w hi hc
   refine ⟨fun hre=>fin listed a w hi (hno listed hi.1 hre),fun i hir=>?_⟩
   have hm':=List.mem_filter.1 hir
   have hil:i<n:=by simpa using hm'.1
   have hio:l[i]?=some l[i]:=List.getElem?_eq_getElem hil
   have hcond:=hm'.2
   simp only [List.getElem?_toArray,hio,Option.map_some,Option.getD_some,Bool.and_eq_true,Bool.not_eq_true'] at hcond
   have hun:listed.getD i false=false:=by
    have h1:=hcond.1
    have hsz:i<listed.size:=by have:=hi.1;omega
    simp [hsz] at h1 ⊢
    exact h1
   refine step listed a w i l[i] hi hio hun (fun e he hb=>?_) _ (fun a' w' hi'=>ih _ a' w' hi' ?_)
   ·have h2:=Array.all_eq_true'.1 hcond.2 e he
    simpa [hb] using h2
   ·have:(List.range n).countP (fun j=>(listed.setIfInBounds i true).getD j false)=(List.range n).countP (fun j=>listed.getD j false)+1:=by
     refine Gcx hil hun ?_ fun j hj hne=>?_
     ·have hsz:i<listed.size:=by have:=hi.1;omega
      simp [hsz]
     ·simp [Array.getElem?_setIfInBounds_ne (Ne.symm hne)]
    omega
 obtain ⟨hsd,hmd⟩:=Gd0 (m:=(low++loc).length) hr0.m
 refine wp_region_any hm (all _ _ _ _ ⟨by simp [n],fun i j hi h=>?_,g0,(low,loc),?_,hmd,?_,hsd.less (by simp)⟩ ?_)
 ·have:i<l.length:=hi
  simp [this] at h
 ·have:(Gac n effs fun j=>(Array.replicate l.toArray.size false).getD j false)=0:=by
   unfold Gac
   rw [List.countP_eq_zero]
   intro j hj
   have:j<l.length:=by simpa [n] using hj
   simp [this]
  rw [this]
  exact h0
 ·refine ⟨hr0.e.defers,hr0.e.size,fun t=>?_⟩
  have:look (Wk (fun j=>(Array.replicate l.toArray.size false).getD j false) 0 l vs E) t=look (Wk (fun j=>decide (j<0)) 0 l vs E) t :=
   Xx l 0 vs E E (fun j o hj _=>by
    have:=(List.getElem?_eq_some_iff.1 hj).1
    simp [this]) rfl
  rw [this]
  have none_:∀ (l:List Oper) (m:Nat) (vs:List PV) (E:Env),Wk (fun j=>decide (j<0)) m l vs E=E:=by
   intro l
   induction l with
   | nil=>intro m vs E;simp [Wk]
   | cons o l ih=>intro m vs E;cases vs with
    | nil=>simp [Wk]
    | cons v vs=>simp only [Wk];rw [if_neg (by simp)];exact ih (m+1) vs E
  rw [none_]
  exact (hr0.e.step hsd).at_ t
 ·have:(List.range n).countP (fun j=>(Array.replicate l.toArray.size false).getD j false)=0:=by
   rw [List.countP_eq_zero]
   intro j hj
   have:j<l.length:=by simpa [n] using hj
   simp [this]
  rw [this]
  simp [n]

end
end Go.Aml
