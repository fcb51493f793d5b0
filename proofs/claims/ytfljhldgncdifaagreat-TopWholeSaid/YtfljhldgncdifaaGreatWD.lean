/- For TopWhole, part 4. -/
import Derived.Test.YtfljhldgncdifaaGreatWC
import Derived.Lib.SliceRun
import Derived.Laws.Entries
import Derived.RangeFuncNested
import Derived.RangeFuncBound
import Derived.RangeFuncCalls
import Derived.RangeFuncLeaves
import Derived.RangeFuncBox
import Derived.WalkKit
import Derived.OwnWalkIn
import Derived.TacticsInMore
import Derived.LoopNIn
import Derived.LoopIn
import Derived.Stop.RegionWithIn
import Derived.BigRegionIn
set_option linter.defProp false
set_option linter.unusedVariables false
set_option linter.unusedSimpArgs false
set_option maxHeartbeats 0
set_option maxRecDepth 100000
set_option maxHeartbeats 2000000
open Option renaming some → c3, none → dT
open List renaming getElem?_eq_getElem → c4, eq_nil_of_length_eq_zero → dk, getElem?_map → dt, getD_eq_getElem?_getD → ee, not_mem_nil → ef, getElem?_eq_some_iff → ei, length_cons → eo, all_eq_true → ev, mem_cons → ez, mem_cons_of_mem → eH, length_map → ga, map_eq_nil_iff → gb, append_toArray → gv, mem_singleton → gy, mem_cons_self → h5, size_toArray → h7, push_toArray → h8, cons_append → h9, mem_map → hq, length_eq_one_iff → hz, length_nil → hD, nil_append → hI, getElem?_range → hL, all_cons → hM, getElem?_nil → hP, map_cons → hY
open Array renaming getElem?_eq_some_iff → c5, getD_eq_getD_getElem? → dd, getElem?_setIfInBounds_self_of_lt → e5, replicate_succ → fe, replicate_zero → ft, replicate → hU
open Go.Fence renaming wide → c6
open Go.Proofs.Tryz renaming prog → c7, func211 → ih, func102 → j1, func269 → j4, func326 → j5, func96 → j6, func97 → j7, func99 → j8, func98 → j9
open Go.World renaming putObj_heap_other → dv, alloc_heap_new → ec, putObj_heap_same → ej, size_alloc → hQ
open Nat renaming le_of_ble_eq_true → e0, zero_le → e6, beq → ea, ble → eE, le_trans → gx, le_refl → hK, lt_or_ge → j3
open Bool renaming and_eq_true → e4
open Go.RowKit.Below renaming heap_alloc → ey, refl → k6
open Go.Result renaming andThen_ok → h6
open Go.Oper renaming semAt_some → hB, semAt_eq → ie, wp → k7
open Go.Value renaming int → hS
open Option.some renaming inj → hX
open Go.Sem renaming run_bind → j2
open Go.Code renaming region → k0
namespace Go.X
open Go Go.Aml Go.Bml
structure cN (P:Program) (B:Tb) (n:Nat) (e:Ev B.D n):Prop where
 row:∀(m:Nat) (xs:List (B.D m)) (x:B.D n),e.up (.row m xs)=c3 x->e.tv x= .row m xs
 el:∀(x:B.D n) (m:Nat) (xs:List (B.D m)),e.tv x= .row m xs->m=B.el n
 tv:∀(x:B.D n),pv B (e.tv x)=(B.ty n).enc x
 lt:∀(x:B.D n),cE 0 ((B.ty n).enc x)
 up:∀(t:TV B.D) (x:B.D n),e.up t=c3 x->cE 0 (pv B t)/\Cc (pv B t) ((B.ty n).enc x)
 wid:∀(x:B.D n),((B.ty n).enc x).cells.length=B.sz n
 one:∀(x:B.D n),((B.ty n).enc x).cells.all PV.one=true
 pos:0<B.sz n
 xw:∀(x:B.D n) (vs:List PV),(B.ty n).enc x≠ .bu vs
 ic:B.D n->cH P n=c3 (B.sz n)
 flat:∀(x:B.D n),B.flat n=true->∀(j:Nat) (c:PV),((B.ty n).enc x).cells[j]?=c3 c->∀(F F':Nat->Prop) (w w':World) (v:Value),VI F w c v->VI F' w' c v
structure cK (P:Program) (B:Tb) (n:Nat) (e:Ev B.D n):Prop where
 ok:cN P B n e
 leaf:∀x:B.D n,((B.ty n).enc x).cells=[(B.ty n).enc x]
section
variable {P:Program}{B:Tb}
def afw(b:(n:Nat)->Ev B.D n)(c:∀n,B.tv n=(b n).tv)(d:∀n,B.up n=(b n).up)(a:∀n,cN P B n (b n)):cU P B where
 row n m xs x hx:=by rw[c];rw[d] at hx;exact(a n).row m xs x hx
 el n x m xs hx:=by rw[c] at hx;exact(a n).el x m xs hx
 tv n x:=by rw[c];exact(a n).tv x
 lt n x:=(a n).lt x
 up n t x hx:=by rw[d] at hx;exact(a n).up t x hx
 wid n x:=(a n).wid x
 one n x:=(a n).one x
 pos n:=(a n).pos
 xw n x vs:=(a n).xw x vs
 ic n x:=(a n).ic x
 flat n x:=(a n).flat x
def amI{n:Nat}{c:Ev B.D n}(b:B.D n->False)(d:0<B.sz n):cN P B n c:=
 ⟨λ_ _ a _=>(b a).elim,λa=>(b a).elim,λa=>(b a).elim,λa=>(b a).elim,λ_ a _=>(b a).elim,λa=>(b a).elim,λa=>(b a).elim,d,λa=>(b a).elim,λa=>(b a).elim,λa=>(b a).elim⟩
variable {n:Nat}
def vv{c:Ev B.D n}(row:∀(b:Nat) (f:List (B.D b)) (a:B.D n),c.up (.row b f)=c3 a->c.tv a= .row b f)
 (q:∀(a:B.D n) (b:Nat) (f:List (B.D b)),c.tv a= .row b f->b=B.el n)
 (o:∀(a:B.D n),pv B (c.tv a)=(B.ty n).enc a)
 (lt:∀(a:B.D n),cE 0 ((B.ty n).enc a))
 (u:∀(h:TV B.D) (a:B.D n),c.up h=c3 a->cE 0 (pv B h)/\Cc (pv B h) ((B.ty n).enc a))
 (g:∀a:B.D n,((B.ty n).enc a).one=true) (i:B.sz n=1) (r:cH P n=c3 1)
 (k:∀(a:B.D n),B.flat n=true->∀(t p:Nat->Prop) (x l:World) (v:Value),VI t x ((B.ty n).enc a) v->VI p l ((B.ty n).enc a) v):cK P B n c:=by
 have e:∀a:B.D n,((B.ty n).enc a).cells=[(B.ty n).enc a]:=λa=>by
  have:=g a;generalize (B.ty n).enc a=j at this⊢;cases j <;> first |rfl |(simp[PV.one] at this;done)
 refine⟨⟨row,q,o,lt,u,λa=>by rw[e,i];rfl,λa=>by rw[e];simp[g a],by omega,λa vs w=>?_,λ_=>by rw[r,i],λa s m j d=>?_⟩,e⟩
 .have:=g a;rw[w] at this;simp[PV.one] at this
 .rw[e] at d
  match m,d with
  |0,d=>
   simp at d;subst d;exact k a s
def vR{h:IntKind}{d:B.D n=Int}(c:∀a,(B.ty n).enc a= .int h (dA d a))(m:B.sz n=1)(l:cH P n=c3 1):cK P B n (fA B.D h d):=by
 refine vv (λe k a b=>by simp[fA] at b) (λa e k b=>by simp[fA] at b) (λa=>by rw[c];rfl) (λa=>by rw[c];exact .int _ _) (λi a b=>?_) (λa=>by rw[c];rfl) m l (λa _ q o r p v g=>by rw[c] at g⊢;cases g;exact .int _ _)
 rw[c];cases i with
 |int s e=>
  simp only[fA] at b;obtain⟨j,f⟩:=a8 b;injection f with f
  subst f;rw[qh j];simp only[pv];refine⟨.int _ _,?_⟩
  have:dA d (dA d.symm e)=e:=by simp[dA]
  rw[this];exact .refl _
 |_=>simp[fA] at b
def agM{d:B.D n=Bool}(c:∀a,(B.ty n).enc a= .bool (dA d a))(j:B.sz n=1)(i:cH P n=c3 1):cK P B n (nE B.D d):=by
 refine vv (λe h a b=>by simp[nE] at b) (λa e h b=>by simp[nE] at b) (λa=>by rw[c];rfl) (λa=>by rw[c];exact .bool _) (λg a b=>?_) (λa=>by rw[c];rfl) j i (λa _ m k o l v f=>by rw[c] at f⊢;cases f;exact .bool _)
 rw[c];cases g with
 |bool e=>
  simp only[nE] at b;injection b with h2
  subst h2;simp only[pv];refine⟨.bool _,?_⟩
  have:dA d (dA d.symm e)=e:=by simp[dA]
  rw[this];exact .refl _
 |_=>simp[nE] at b
def Lq{d:B.D n=Option Nat}(g:∀b,(B.ty n).enc b=asg (dA d b))(q:B.sz n=1)(p:cH P n=c3 1):cK P B n (iR B.D d):=by
 have j:∀c,dA d (dA d.symm c)=c:=λc=>by simp[dA]
 have h:∀c,cE 0 (asg c):=λc=>by
  cases c with
  |none=>exact .dB
  |some f=>exact .fn _ _ _ (by simp) (by simp)
 refine vv (λs i b a=>by simp[iR] at a) (λb s i a=>by simp[iR] at a) (λb=>?_) (λb=>by rw[g];exact h _) (λu b a=>?_) (λb=>?_) q p (λb _ z y A w v e=>?_)
 .rw[g];show pv B (.jC (dA d b))=_
  cases dA d b <;> rfl
 .rw[g];cases u with
  |jC c=>
   simp only[iR] at a;injection a with h2
   subst h2;rw[j];cases c with
   |none=>exact⟨.dB,.refl _⟩
   |some f=>exact⟨h (c3 f),.refl _⟩
  |dB=>
   simp only[iR] at a;injection a with h2
   subst h2;rw[j];exact⟨.dB,.refl _⟩
  |fn f m o=>
   match m,o,a with
   |[],[],a=>
    simp only[iR] at a;injection a with h2
    subst h2;rw[j];exact⟨h (c3 f),.refl _⟩
   |[],_::_,a=>simp[iR] at a
   |_::_,_,a=>simp[iR] at a
  |_=>simp[iR] at a
 .rw[g];cases dA d b <;> rfl
 .rw[g] at e⊢;cases k:dA d b with
  |none=>
   rw[k] at e;cases e
   exact .dB
  |some f=>
   rw[k] at e;cases e with
   |fn _ _ _ i t r e l x=>
    have:i=[]:=dk (by simpa using r.symm);subst this;have:t=[]:=dk (by simpa using l.symm);subst this;exact .fn f [] [] [] [] rfl (by simp) rfl (by simp)
def iA{c:Nat}{e:B.D n=List (B.D c)}(f:∀b,(B.ty n).enc b= .vs (B.sz c) ((dA e b).map (B.ty c).enc))(q:B.sz n=1)(p:cH P n=c3 1)(m:B.el n=c)(o:B.flat n=false):cK P B n (bJ B.D c e):=by
 have d:∀g,dA e (dA e.symm g)=g:=λg=>by simp[dA]
 refine vv (λj k b a=>?_) (λb j k a=>?_) (λb=>by rw[f];rfl) (λb=>by rw[f];exact .vs _ _) (λl b a=>?_) (λb=>by rw[f];rfl) q p (λb i=>by rw[o] at i;cases i)
 .simp only[bJ] at a⊢
  split at a
  .rename_i h;subst h;injection a with a
   subst a;rw[d]
  .cases a
 .simp only[bJ] at a;injection a with h1 h2
  exact h1.symm.trans m.symm
 .rw[f];cases l with
  |row j k=>
   simp only[bJ] at a
   split at a
   .rename_i h;subst h;injection a with a
    subst a;rw[d];exact⟨.vs _ _,.refl _⟩
   .cases a
  |bg=>
   simp only[bJ] at a;injection a with a
   subst a;rw[d];exact⟨.bg,.nil _⟩
  |z0=>
   simp only[bJ] at a;injection a with a
   subst a;rw[d];exact⟨.z0,.z0 _⟩
  |_=>simp[bJ] at a
def alG{f d:Nat}{b:B.D n=List (B.D f)}{k:B.D f=List (B.D d)}(D:∀q,(B.ty f).enc q= .vs (B.sz d) ((dA k q).map (B.ty d).enc))(l:∀c,(B.ty n).enc c= .vs (B.sz f) ((dA b c).map (B.ty f).enc))(x:B.sz n=1)(w:cH P n=c3 1)(u:B.el n=f)(A:B.flat n=false):cK P B n (lx B.D f d b k):=by
 have h:∀m,dA b (dA b.symm m)=m:=λm=>by simp[dA]
 refine vv (λd p c a=>?_) (λc d p a=>?_) (λc=>by rw[l];rfl) (λc=>by rw[l];exact .vs _ _) (λF c a=>?_) (λc=>by rw[l];rfl) x w (λc s=>by rw[A] at s;cases s)
 .simp only[lx,pM] at a⊢
  split at a
  .rename_i j;subst j;injection a with a
   subst a;rw[h]
  .cases a
 .simp only[lx,pM] at a;injection a with h1 k
  exact h1.symm.trans u.symm
 .rw[l];cases F with
  |row d p=>
   simp only[lx,pM] at a
   split at a
   .rename_i j;subst j;injection a with a
    subst a;rw[h];exact⟨.vs _ _,.refl _⟩
   .cases a
  |bg=>
   simp only[lx,pM] at a;injection a with a
   subst a;rw[h];exact⟨.bg,.nil _⟩
  |z0=>
   simp only[lx,pM] at a;injection a with a
   subst a;rw[h];exact⟨.z0,.z0 _⟩
  |rv o e=>
   simp only[lx,pM] at a;obtain⟨E,a⟩:=a8 a;obtain rfl:=beq_eq E
   split at a
   .rename_i g z;injection a with a
    subst a;rw[h];have y:∀(e:List (TV B.D)) (g:List (List (B.D d))),uO B.D d e=c3 g->aP B e=(g.map (dA k.symm)).map (B.ty o).enc:=λe=>by
     induction e with
     |nil=>intro g b;simp only[uO] at b;injection b with b;subst b;rfl
     |cons t e G=>
      intro g b;cases t with
      |row i p=>
       simp only[uO] at b
       split at b
       .rename_i j;subst j
        split at b
        .rename_i r C;injection b with b
         subst b;simp only[aP,hY,G r C]
         congr 1
         rw[D];simp[dA,pv]
        .cases b
       .cases b
      |_=>simp[uO] at b
    have v:pv B (.rv o e)= .vs (B.sz o) (aP B e):=rfl;rw[v,y e g z];exact⟨.vs _ _,.refl _⟩
   .cases a
  |_=>simp[lx,pM] at a
def mJ(B:Tb):(ns:List Nat)->bi B.D ns->List PV
 |[],_=>[]
 |[n],a=>[(B.ty n).enc a]
 |n::b::ns,a=>(B.ty n).enc a.1::mJ B (b::ns) a.2
def Jo:∀(ns:List Nat) (a:bi B.D ns),(mJ B ns a).length=ns.length
 |[],_=>rfl
 |[_],_=>rfl
 |n::b::ns,a=>by simp only[mJ,eo,Jo (b::ns) a.2]
def N3{d:(n:Nat)->Ev B.D n}:∀(ns:List Nat) (a:bi B.D ns),(∀b,b∈ns->cK P B b (d b))->aP B (E6 B.D d ns a)=mJ B ns a
 |[],_,_=>rfl
 |[n],a,c=>by
  exact congrArg (λz=>[z]) ((c n (by simp)).ok.tv a)
 |n::b::ns,a,c=>by
  have f:=(c n (by simp)).ok.tv a.1;have h:=N3 (b::ns) a.2 λg e=>c g (by simp at e⊢;exact .inr e)
  show pv B ((d n).tv a.1)::aP B (E6 B.D d (b::ns) a.2)=(B.ty n).enc a.1::mJ B (b::ns) a.2
  rw[f,h]
def zC{j:(n:Nat)->Ev B.D n}:∀(ns:List Nat) (c:bi B.D ns),(∀b,b∈ns->cK P B b (j b))->∀d,d∈mJ B ns c->∃b,b∈ns/\∃f:B.D b,d=(B.ty b).enc f
 |[],_,_,d,a=>by simp[mJ] at a
 |[n],c,h,d,a=>by
  simp only[mJ,gy] at a;exact⟨n,by simp,c,a⟩
 |n::b::ns,c,h,d,a=>by
  simp only[mJ,ez] at a;rcases a with a |a
  .exact⟨n,by simp,c.1,a⟩
  .obtain⟨g,e,f,i⟩:=zC (b::ns) c.2 (λg e=>h g (by simp at e⊢;exact .inr e)) d a;exact⟨g,by simp at e⊢;exact .inr e,f,i⟩
def Tm{l:(n:Nat)->Ev B.D n}:∀(ns:List Nat) (k:List (TV B.D)) (c:bi B.D ns),(∀h,h∈ns->cK P B h (l h))->Au B.D l ns k=c3 c->
 k.length=ns.length/\(∀e,e∈k->cE 0 (pv B e))/\∀(i:Nat) (f g:PV),(aP B k)[i]?=c3 f->(mJ B ns c)[i]?=c3 g->Cc f g
 |[],[],c,_,_=>⟨rfl,λe j=>(ef j).elim,λi f g a _=>by
  have a:(([]:List PV)[i]?)=c3 f:=a;rw[hP] at a;cases a⟩
 |[n],[e],c,m,d=>by
  obtain⟨p,o⟩:=(m n (gy.2 rfl)).ok.up e c d;refine⟨rfl,λq j=>by rw[gy.1 j];exact p,λi f g a b=>?_⟩
  match i,a,b with
  |0,a,b=>
   have a:c3 (pv B e)=c3 f:=a;have b:c3 ((B.ty n).enc c)=c3 g:=b;injection a with a
   injection b with b
   subst a;subst b;exact o
  |i+1,a,_=>
   have a:(([]:List PV)[i]?)=c3 f:=a;rw[hP] at a;cases a
 |n::h::ns,e::k,c,m,d=>by
  obtain⟨w,v⟩:=aid (show CL ((l n).up e) (Au B.D l (h::ns) k)=c3 c from d);obtain⟨p,o⟩:=(m n h5).ok.up e c.1 w;obtain⟨r,x,t⟩:=Tm (h::ns) k c.2 (λu s=>m u (eH _ s)) v;refine⟨congrArg Nat.succ r,λq j=>?_,λi f g a b=>?_⟩
  .rcases ez.1 j with rfl |j
   .exact p
   .exact x q j
  .match i,a,b with
   |0,a,b=>
    have a:c3 (pv B e)=c3 f:=a;have b:c3 ((B.ty n).enc c.1)=c3 g:=b;injection a with a
    injection b with b
    subst a;subst b;exact o
   |i+1,a,b=>exact t i f g a b
 |[],_::_,_,_,d=>by cases (show(dT:Option (bi B.D []))=c3 _ from d)
 |[n],[],_,_,d=>by cases (show(dT:Option (bi B.D [n]))=c3 _ from d)
 |[n],_::_::_,_,_,d=>by cases (show(dT:Option (bi B.D [n]))=c3 _ from d)
 |n::h::ns,[],_,_,d=>by cases (show(dT:Option (bi B.D (n::h::ns)))=c3 _ from d)
def eS{s:(n:Nat)->Ev B.D n}{m:Type}{ns:List Nat}{mk:bi B.D ns->m}{l:m->bi B.D ns}{j:B.D n=m}(e:∀a,a∈ns->cK P B a (s a))(u:∀c,l (mk c)=c)
 (h:∀d,(B.ty n).enc d= .agg (mJ B ns (l (dA j d)))) (r:B.sz n=ns.length) (N:0<ns.length) (q:cH P n=c3 ns.length) (F:B.flat n=true->∀a,a∈ns->B.flat a=true):cN P B n (cw B.D s ns mk l j):=by
 have J:∀k,dA j (dA j.symm k)=k:=λk=>by simp[dA]
 constructor
 case row=>intro A G d b;simp[cw] at b
 case el=>intro d A G b;simp[cw] at b
 case tv=>
  intro d;rw[h];simp only[cw,pv];rw[N3 ns _ e]
 case lt=>
  intro d;rw[h];refine .agg _ λi f=>?_
  obtain⟨a,g,c,rfl⟩:=zC ns _ e i f;exact(e a g).ok.lt c
 case up=>
  intro o d b;rw[h];cases o with
  |agg C=>
   simp only[cw] at b
   split at b
   .rename_i c E;injection b with b
    subst b;obtain⟨t,I,z⟩:=Tm ns C c e E;rw[J,u];simp only[pv];refine⟨.agg _ λi f=>?_,.agg _ _ ?_ z⟩
    .rw[db] at f;obtain⟨o,x,rfl⟩:=hq.1 f;exact I o x
    .rw[db,ga,Jo,t]
   .cases b
  |_=>simp[cw] at b
 case wid=>
  intro d;rw[h,r];exact Jo _ _
 case one=>
  intro d;rw[h];refine ev.2 λi f=>?_
  obtain⟨a,g,c,rfl⟩:=zC ns _ e i f;have p:=(e a g).ok.one c;rw[(e a g).leaf c] at p;simpa using p
 case pos=>omega
 case xw=>intro d vs b;rw[h] at b;cases b
 case ic=>intro _;rw[q,r]
 case flat=>
  intro d D M i f H y L w v K;rw[h] at f;obtain⟨a,g,c,rfl⟩:=zC ns _ e i (List.mem_of_getElem? f);exact(e a g).ok.flat c (F D a g) 0 _ (by rw[(e a g).leaf c];rfl) H y L w v K
end
def ahP(b:List (Nat×Ty))(n:Nat):(n∈b.map (·.1))\/Br b n=⟨Empty,λ_=>.any⟩:=by
 induction b with
 |nil=>exact .inr rfl
 |cons p b a=>
  simp only[Br,hY,ez];cases c:ea p.1 n with
  |true=>exact .inl (.inl (beq_eq c).symm)
  |false=>rcases a with a |a
          .exact .inl (.inr a)
          .exact .inr a
def P5{e:Type _}:∀(d:List (List e)) (q:Nat) (a:e),a∈px d q->∃c,c∈d/\a∈c
 |[],_,a,b=>by simp[px] at b
 |c::d,0,a,b=>⟨c,by simp,b⟩
 |c::d,q+1,a,b=>let ⟨h,g,f⟩:=P5 d q a b;⟨h,by simp[g],f⟩
def amT(a:List (Nat×xz))(n:Nat)(b:(a.all λp=>Nat.blt 0 p.2.sz)=true):0<(Eu a n).sz:=by
 induction a with
 |nil=>exact Nat.one_pos
 |cons p a c=>
  simp only[hM,e4] at b;simp only[Eu];cases ea p.1 n with
  |true=>exact e0 b.1
  |false=>exact c b.2
def Qa{d:Type _}{f:d->Bool}:∀(b:List (List d)) (q:Nat),(b.all λc=>c.all f)=true->(px b q).all f=true
 |[],_,_=>rfl
 |c::b,0,a=>by simp only[hM,e4] at a;exact a.1
 |c::b,q+1,a=>by simp only[hM,e4] at a;exact Qa b q a.2
def Sp(p:Nat->Prop):List Nat->Prop
 |[]=>True
 |a::b=>p a/\Sp p b
def F2{p:Nat->Prop}:∀(c:List Nat),Sp p c->∀a,a∈c->p a
 |[],_,a,b=>by simp at b
 |e::c,b,a,d=>by
  rcases ez.1 d with rfl |d
  .exact b.1
  .exact F2 c b.2 a d
def e8{c b:List Nat}(d:(c.all λa=>b.contains a)=true):∀a,a∈c->a∈b:=λa e=>by
 have:=ev.1 d a e;simpa using this
end Go.X
namespace Go.X.T
open Go Go.Aml Go.Bml Go.X Go.Proofs
def an3{a:Nat}{e:IntKind}{d:DT a=Int}(h:bh a=fA DT e d)(g:∀c,(BT.ty a).enc c= .int e (dA d c):=by(intro c;rfl))(b:BT.sz a=1:=by rfl)(f:cH c7 a=c3 1:=by kernel_rfl):cK c7 BT a (bh a):=by
 rw[h];exact vR g b f
def amR{a c:Nat}{e:DT a=List (DT c)}(j:bh a=bJ DT c e)(i:∀d,(BT.ty a).enc d= .vs (BT.sz c) ((dA e d).map (BT.ty c).enc):=by(intro d;rfl))(b:BT.sz a=1:=by rfl)(h:cH c7 a=c3 1:=by kernel_rfl)(g:BT.el a=c:=by rfl)(f:BT.flat a=false:=by rfl):cK c7 BT a (bh a):=by
 rw[j];exact iA i b h g f
def amd{a:Nat}(b:bf a=bh a)(c:cK c7 BT a (bh a)):cN c7 BT a (bf a):=by
 rw[b];exact c.ok
def O0:List Nat:=[3,4,5,22,27,28,31,32,33,36,41,44,53,54,62,67,95,107,134,138,159,161,167,168,179,181,247,272,309]
def eY:∀a,a∈O0->cK c7 BT a (bh a):=F2 O0 ⟨an3 (rfl:bh 3=fA DT .i64 rfl),(show cK c7 BT 4 (bh 4) from(show bh 4=nE DT rfl from rfl)▸agM (λ_=>rfl) rfl (by kernel_rfl)),an3 (rfl:bh 5=fA DT .u8 rfl),amR (rfl:bh 22=bJ DT 3 rfl),amR (rfl:bh 27=bJ DT 117 rfl),amR (rfl:bh 28=bJ DT 115 rfl),amR (rfl:bh 31=bJ DT 88 rfl),amR (rfl:bh 32=bJ DT 120 rfl),(show cK c7 BT 33 (bh 33) from(show bh 33=lx DT 22 3 rfl rfl from rfl)▸alG (λ_=>rfl) (λ_=>rfl) rfl (by kernel_rfl) rfl rfl),amR (rfl:bh 36=bJ DT 90 rfl),amR (rfl:bh 41=bJ DT 101 rfl),amR (rfl:bh 44=bJ DT 140 rfl),amR (rfl:bh 53=bJ DT 75 rfl),amR (rfl:bh 54=bJ DT 83 rfl),amR (rfl:bh 62=bJ DT 65 rfl),an3 (rfl:bh 67=fA DT .i64 rfl),amR (rfl:bh 95=bJ DT 5 rfl),amR (rfl:bh 107=bJ DT 97 rfl),(show cK c7 BT 134 (bh 134) from(show bh 134=iR DT rfl from rfl)▸Lq (λ_=>rfl) rfl (by kernel_rfl)),amR (rfl:bh 138=bJ DT 142 rfl),amR (rfl:bh 159=bJ DT 161 rfl),(show cK c7 BT 161 (bh 161) from(show bh 161=iR DT rfl from rfl)▸Lq (λ_=>rfl) rfl (by kernel_rfl)),amR (rfl:bh 167=bJ DT 174 rfl),amR (rfl:bh 168=bJ DT 4 rfl),an3 (rfl:bh 179=fA DT .u64 rfl),an3 (rfl:bh 181=fA DT .u64 rfl),amR (rfl:bh 247=bJ DT 251 rfl),amR (rfl:bh 272=bJ DT 275 rfl),amR (rfl:bh 309=bJ DT 312 rfl),trivial⟩
def alp{a:Nat}{f:Type}{ns:List Nat}{mk:bi DT ns->f}{e:f->bi DT ns}{g:DT a=f}(n:bf a=cw DT bh ns mk e g)(m:∀b,b∈ns->b∈O0:=by exact e8 (by decide))(i:∀c,e (mk c)=c:=by(intro c;rfl))(k:∀d,(BT.ty a).enc d= .agg (mJ BT ns (e (dA g d))):=by(intro d;rfl))(p:BT.sz a=ns.length:=by rfl)(l:0<ns.length:=by decide)(o:cH c7 a=c3 ns.length:=by kernel_rfl)(j:BT.flat a=true->∀b,b∈ns->BT.flat b=true:=by decide):cN c7 BT a (bf a):=by
 rw[n];exact eS (λb h=>eY b (m b h)) i k p l o j
def RH:List Nat:=[3,4,5,22,27,28,30,31,32,33,35,36,38,40,41,43,44,46,48,50,52,53,54,56,60,62,65,67,75,83,88,90,95,97,101,106,107,115,117,120,134,138,140,142,144,159,161,167,168,170,174,179,181,222,230,247,251,272,275,283,309,312,333]
def aqD:∀a,a∈RH->cN c7 BT a (bf a):=F2 RH ⟨amd rfl (eY 3 (by decide)),amd rfl (eY 4 (by decide)),amd rfl (eY 5 (by decide)),amd rfl (eY 22 (by decide)),amd rfl (eY 27 (by decide)),amd rfl (eY 28 (by decide)),alp (rfl:bf 30=cw DT bh [27,28] aof aop rfl),amd rfl (eY 31 (by decide)),amd rfl (eY 32 (by decide)),amd rfl (eY 33 (by decide)),alp (rfl:bf 35=cw DT bh [27,28,3,31,22,32,22,22,33] aow aoG rfl),amd rfl (eY 36 (by decide)),alp (rfl:bf 38=cw DT bh [22,22,22,3] aoM ao3 rfl),alp (rfl:bf 40=cw DT bh [22,3,3] apd ape rfl),amd rfl (eY 41 (by decide)),alp (rfl:bf 43=cw DT bh [22,22] apx apI rfl),amd rfl (eY 44 (by decide)),alp (rfl:bf 46=cw DT bh [44] apL apQ rfl),alp (rfl:bf 48=cw DT bh [3,22] aqd aqm rfl),alp (rfl:bf 50=cw DT bh [22,22,4] aqs aqz rfl),alp (rfl:bf 52=cw DT bh [3,3,3,3] aqB aqN rfl),amd rfl (eY 53 (by decide)),amd rfl (eY 54 (by decide)),alp (rfl:bf 56=cw DT bh [27,28,3,31,22,32,22,22,33,27,28,36,22,22,22,3,22,3,3,41,41,22,22,44,3,22,22,22,4,3,3,3,3,44,53,54] aqO aqP rfl),alp (rfl:bf 60=cw DT bh [27,28,32,22,22,36,22,22,22,3,22,3,3,22] aqR aqS rfl),amd rfl (eY 62 (by decide)),alp (rfl:bf 65=cw DT bh [3,3,3,3] aqU aqV rfl),amd rfl (eY 67 (by decide)),alp (rfl:bf 75=cw DT bh [3,3,3,3,3,4,4,3,3] aqW aqX rfl),alp (rfl:bf 83=cw DT bh [3,3,3,3,3,67,22] aqY aq0 rfl),alp (rfl:bf 88=cw DT bh [3,3,3] aq1 aq2 rfl),alp (rfl:bf 90=cw DT bh [3,3] aq3 aq7 rfl),amd rfl (eY 95 (by decide)),alp (rfl:bf 97=cw DT bh [3,3,95] aq8 aq9 rfl),alp (rfl:bf 101=cw DT bh [3,3,3,22] arb ard rfl),alp (rfl:bf 106=cw DT bh [95,3] are arh rfl),amd rfl (eY 107 (by decide)),alp (rfl:bf 115=cw DT bh [3,3,3,3,4,4,3,3,3,3] ari arj rfl),alp (rfl:bf 117=cw DT bh [3,4] ark arl rfl),alp (rfl:bf 120=cw DT bh [22,3,3,3] arn aro rfl),amd rfl (eY 134 (by decide)),amd rfl (eY 138 (by decide)),alp (rfl:bf 140=cw DT bh [22,138] arq art rfl),alp (rfl:bf 142=cw DT bh [3,22] aru arv rfl),alp (rfl:bf 144=cw DT bh [3,3] arw arx rfl),amd rfl (eY 159 (by decide)),amd rfl (eY 161 (by decide)),amd rfl (eY 167 (by decide)),amd rfl (eY 168 (by decide)),alp (rfl:bf 170=cw DT bh [3,167,168,168] ary arA rfl),alp (rfl:bf 174=cw DT bh [3,3,3,3] arD arF rfl),amd rfl (eY 179 (by decide)),amd rfl (eY 181 (by decide)),alp (rfl:bf 222=cw DT bh [3,3,3] arG arH rfl),alp (rfl:bf 230=cw DT bh [27,28,36,22] arI arL rfl),amd rfl (eY 247 (by decide)),alp (rfl:bf 251=cw DT bh [3,3,3,3] arN arO rfl),amd rfl (eY 272 (by decide)),alp (rfl:bf 275=cw DT bh [3,3] arP arQ rfl),alp (rfl:bf 283=cw DT bh [3,3] arR arS rfl),amd rfl (eY 309 (by decide)),alp (rfl:bf 312=cw DT bh [3,3,3,3] arT arV rfl),alp (rfl:bf 333=cw DT bh [22,3,3,3,3,3,3,22,22,4,44,3,3] arW arX rfl),trivial⟩
def dM:cU c7 BT:=afw bf (λ_=>rfl) (λ_=>rfl) λa=>by
 rcases ahP (px IQ (a/16)) a with b |b
 .refine aqD a ?_
  obtain⟨p,d,rfl⟩:=hq.1 b;obtain⟨h,f,i⟩:=P5 _ _ _ d;have j:p.1∈(IQ.flatten.map λp=>p.1):=hq.2 ⟨p,List.mem_flatten.2 ⟨h,f,i⟩,rfl⟩;exact j
 .have e:Du a=⟨Empty,λ_=>.any⟩:=b;refine amI (λg=>?_) (amT _ _ (Qa _ _ (by decide)))
  have c:(Du a).T:=g;rw[e] at c;exact c.elim
def mixed:c7.follows .mixedOrders=true:=by kernel_rfl
abbrev FT(a:aq BT):Prop:=Fits c7 BT a
def f0:∀a,a∈([]:List (aq BT))->FT a:=λ_ b=>(ef b).elim
def fc{c:aq BT}{d:List (aq BT)}(e:FT c)(f:∀a,a∈d->FT a):∀a,a∈c::d->FT a:=λa b=>by
 rcases ez.1 b with rfl |b
 .exact e
 .exact f a b
def chk(a:aq BT)(fn:Func):Bool:=fn.body.isSome&&!(fn.name== "runtime.NumGoroutine")&&eE a.na fn.ntmps&&gB fn.ntmps (fn.body.getD .skip)&&eE a.low (len a.par.dF)&&lY 0 fn.results.toList.length a.az.dE
def kf{L:Lp}{a:Lp->aq BT}{e:List (aq BT)}(hs:List (Nat×Hn))(n:∀a,a∈e->FT a){fn:Func}(g:c7.funcs[(a L).cO]?=c3 fn)(c:chk (a L) fn=true:=by kernel_rfl)
 (i:∀b,gl L BT c7 e (a L) fn.results.toList (fn.body.getD .skip) hs b=(a L).F b:=by(intro b;kernel_rfl)):FT (a L):=by
 unfold chk at c;rw[e4,e4,e4,e4,e4] at c;obtain⟨⟨⟨⟨⟨k,j⟩,m⟩,f⟩,l⟩,h⟩:=c;obtain⟨code,d⟩:=Option.isSome_iff_exists.1 k;refine FA (L:=L) (hs:=hs) mixed dM n g d (by simpa using j) (rs:=fn.results.toList) rfl m ?_ l h λb=>?_
 .rw[d] at f;exact f
 .have:=i b;rw[d] at this;exact this
end Go.X.T
namespace Go.X
open Go Go.Aml Go.Bml
section
variable {P:Program}{B:Tb}
def ahH{q E:Nat}{h:Env}{i:List aO}{e:Option Nat}{f o r t:TypeId}{s:String}{n:Array Edge}{c:Operand}{sz:Nat}{es:List PV}(H:PE h c= .vs sz es)(w:dU P f=c3 t)(u:fL q e=true):
 Hk P q E ⟨e,.binOp .eql f c (.const (.slice dT 0 0)) o,r,s,n,dT⟩ (λy I=>∃b,(b=true->es=[])/\y=li h e (.bool b)/\I=i) h i:=by
 intro g d m j K J A;have p:=H▸j.e.eval c;have C:∃a l cap,d.eval c= .slice a l cap/\(a.isNone=true->es=[]):=by
  generalize d.eval c=z at p;cases p with
  |aW k=>
   cases k with
   |eX _ a cap=>exact⟨a,0,cap,rfl,λ_=>rfl⟩
   |vs _ _ b G cap=>exact⟨c3 ⟨b,G,dT⟩,_,cap,rfl,λk=>by cases k⟩
 obtain⟨a,l,cap,x,D⟩:=C;have F:(execOp d.eval ⟨e,.binOp .eql f c (.const (.slice dT 0 0)) o,r,s,n,dT⟩).run P m= .ok (.value (.bool a.isNone)) m:=by
  have v:d.eval (.const (.slice dT 0 0))= .slice dT 0 0:=rfl;simp[execOp,x,v,eqGuard_at_slice,Lib.run_eql_slice_nil m f t a l cap 0 0 (gD w)]
 unfold k7;rw[F];exact A _ _ ⟨_,i,g,⟨a.isNone,D,rfl,rfl⟩,⟨j.m,j.e.tn u (.bool _)⟩,GStep.refl _ _ _ _⟩
def lc(p:P.follows .mixedOrders=true)(o:cU P B){L:Lp}{c:aq B}{fn:Func}{k i h:Code}{rs:List ResultVar}{z Q U A a:TypeId}{V K:String}{J W:Array Edge}{r n:Nat}{xs:bi B.D c.par.bX->List (B.D n)}
 (R:P.funcs[c.cO]?=c3 fn) (H:fn.body=c3 (.seq k (.seq (.seq (.region r [⟨c3 3,.move (.tmp 0),U,V,J,dT⟩,⟨c3 4,.binOp .eql z (.tmp 3) (.const (.slice dT 0 0)) Q,A,K,W,dT⟩].toArray false) i) h)))
 (M:(fn.name== "runtime.NumGoroutine")=false) (N:fn.results=rs.toArray) (C:eE c.na fn.ntmps=true) (D:lY 0 rs.length c.az.dE=true) (E:c.low=0) (G:dU P z=c3 a) (u:eE 5 fn.ntmps=true)
 (Z:gB fn.ntmps k=true) (S:gB fn.ntmps i=true) (F:gB fn.ntmps h=true)
 (I:∀d,cz B c.par d=⟨[(0,.row n (xs d))],[]⟩)
 (h0:∀d,exec L B P [] 0 [] k 1 (λa e=>bif ea a 0 then c3 e else dT) ⟨[(0,.row n (xs d))],[]⟩=c3 ⟨[(2,.bg),(0,.row n (xs d))],[]⟩)
 (O:∀d,xs d=[]->exec L B P [] 0 [] i 1 (λa e=>bif ea a 0 then exec L B P [] 0 [] h 1 (kL P c rs) e else kL P c rs a e) ⟨[(4,.bool true),(0,.row n (xs d))],[]⟩=(c.F d).bind c3)
 (aa:∀d,exec L B P [] 0 [] i 1 (λa e=>bif ea a 0 then exec L B P [] 0 [] h 1 (kL P c rs) e else kL P c rs a e) ⟨[(4,.bool false),(0,.row n (xs d))],[]⟩=(c.F d).bind c3):Fits P B c:=by
 refine ti o R H M N C D λd l v=>?_
 rw[I,E];have q:∀c,c∈([]:List (aq B))->Fits P B c:=λ_ t=>(ef t).elim
 have u:5<=fn.ntmps:=e0 u;have x:∀j,j<5->fL fn.ntmps (c3 j)=true:=λj f=>by
  exact Nat.ble_eq_true_of_le (show j+1<=fn.ntmps by omega)
 refine rN ((gO p o q k 1 _ _ _ (h0 d) Z (e6 _)).mono λa m H1 g=>?_)
 have X:∀a (m:Env) (H1:List aO),qP B (λa e=>bif ea a 0 then exec L B P [] 0 [] h 1 (kL P c rs) e else kL P c rs a e) l a m H1->Ce (eT P fn.ntmps 0 h (qP B (kL P c rs) l)) (qP B (kL P c rs) l) a m H1:=by
  intro a m H1 g;cases a with
  |normal=>
   obtain⟨s,f,rfl,rfl⟩:=g;exact(gO p o q h 1 _ _ _ f F (e6 _)).mono nP
  |ret=>exact g
  |exit r=>exact g
  |_=>exact g
 cases a with
 |normal=>
  obtain⟨s,_,f,rfl,rfl⟩:=g;injection f with f
  subst f;refine rN (rN (Lc (aae Pt (x 3 (by omega)) (KR rfl (ahH (sz:=B.sz n) (es:=(xs d).map (B.ty n).enc) (by rfl) G (x 4 (by omega))) ?_))))
  rintro ab H2 ⟨b,Y,rfl,rfl⟩;refine Of ?_
  refine aht (aU B [(4,.bool b),(0,.row n (xs d))]) ⟨rfl,rfl,trivial⟩ ?_
  have T:exec L B P [] 0 [] i 1 (λa e=>bif ea a 0 then exec L B P [] 0 [] h 1 (kL P c rs) e else kL P c rs a e) ⟨[(4,.bool b),(0,.row n (xs d))],[]⟩=c3 l:=by
   cases b with
   |true=>rw[O d (gb.1 (Y rfl)),v];rfl
   |false=>rw[aa d,v];rfl
  exact(gO p o q i 1 _ _ _ T S (e6 _)).mono λa w y t=>X a w y (nP a w y t)
 |ret=>obtain⟨s,_,f,_⟩:=g;cases f
 |exit r=>obtain⟨s,_,f,_⟩:=g;cases f
 |_=>exact g.elim
end
end Go.X
namespace Go.X.T
open Go Go.Aml Go.Bml Go.X Go.Proofs
def oh(L:Lp):FT (RL L):=lc (L:=L) (n:=117) (xs:=λa=>a) (rs:=[.tmp 2]) mixed dM j6 rfl rfl rfl rfl rfl rfl rfl rfl rfl rfl rfl (λ_=>rfl) (λ_=>by kernel_rfl) (λa b=>by cases b;kernel_rfl) (λa=>by kernel_rfl)
def sP(L:Lp):FT (Mq L):=lc (L:=L) (n:=115) (xs:=λa=>a) (rs:=[.tmp 2]) mixed dM j7 rfl rfl rfl rfl rfl rfl rfl rfl rfl rfl rfl (λ_=>rfl) (λ_=>by kernel_rfl) (λa b=>by cases b;kernel_rfl) (λa=>by kernel_rfl)
def Md(L:Lp):FT (Pv L):=lc (L:=L) (n:=88) (xs:=λa=>a) (rs:=[.tmp 2]) mixed dM ih rfl rfl rfl rfl rfl rfl rfl rfl rfl rfl rfl (λ_=>rfl) (λ_=>by kernel_rfl) (λa b=>by cases b;kernel_rfl) (λa=>by kernel_rfl)
def iY(L:Lp):FT (PI L):=lc (L:=L) (n:=3) (xs:=λa=>a) (rs:=[.tmp 2]) mixed dM j8 rfl rfl rfl rfl rfl rfl rfl rfl rfl rfl rfl (λ_=>rfl) (λ_=>by kernel_rfl) (λa b=>by cases b;kernel_rfl) (λa=>by kernel_rfl)
def oH(L:Lp):FT (OB L):=lc (L:=L) (n:=3) (xs:=λa=>a) (rs:=[.tmp 2]) mixed dM j8 rfl rfl rfl rfl rfl rfl rfl rfl rfl rfl rfl (λ_=>rfl) (λ_=>by kernel_rfl) (λa b=>by cases b;kernel_rfl) (λa=>by kernel_rfl)
def O8(L:Lp):FT (C69 L):=lc (L:=L) (n:=88) (xs:=λa=>a) (rs:=[.tmp 2]) mixed dM ih rfl rfl rfl rfl rfl rfl rfl rfl rfl rfl rfl (λ_=>rfl) (λ_=>by kernel_rfl) (λa b=>by cases b;kernel_rfl) (λa=>by kernel_rfl)
def G7(L:Lp):FT (C72 L):=lc (L:=L) (n:=90) (xs:=λa=>a) (rs:=[.tmp 2]) mixed dM j9 rfl rfl rfl rfl rfl rfl rfl rfl rfl rfl rfl (λ_=>rfl) (λ_=>by kernel_rfl) (λa b=>by cases b;kernel_rfl) (λa=>by kernel_rfl)
def IE(L:Lp):FT (C76 L):=lc (L:=L) (n:=75) (xs:=λa=>a) (rs:=[.tmp 2]) mixed dM j1 rfl rfl rfl rfl rfl rfl rfl rfl rfl rfl rfl (λ_=>rfl) (λ_=>by kernel_rfl) (λa b=>by cases b;kernel_rfl) (λa=>by kernel_rfl)
def yo(L:Lp):FT (abt L):=lc (L:=L) (n:=115) (xs:=λa=>a) (rs:=[.tmp 2]) mixed dM j7 rfl rfl rfl rfl rfl rfl rfl rfl rfl rfl rfl (λ_=>rfl) (λ_=>by kernel_rfl) (λa b=>by cases b;kernel_rfl) (λa=>by kernel_rfl)
def akq(L:Lp):FT (aoO L):=lc (L:=L) (n:=117) (xs:=λa=>a) (rs:=[.tmp 2]) mixed dM j6 rfl rfl rfl rfl rfl rfl rfl rfl rfl rfl rfl (λ_=>rfl) (λ_=>by kernel_rfl) (λa b=>by cases b;kernel_rfl) (λa=>by kernel_rfl)
def apm(L:Lp):FT (Vb L):=lc (L:=L) (n:=140) (xs:=λa=>a) (rs:=[.tmp 2]) mixed dM Tryz.func236 rfl rfl rfl rfl rfl rfl rfl rfl rfl rfl rfl (λ_=>rfl) (λ_=>by kernel_rfl) (λa b=>by cases b;kernel_rfl) (λa=>by kernel_rfl)
def anc(L:Lp):FT (afV L):=lc (L:=L) (n:=75) (xs:=λa=>a) (rs:=[.tmp 2]) mixed dM j1 rfl rfl rfl rfl rfl rfl rfl rfl rfl rfl rfl (λ_=>rfl) (λ_=>by kernel_rfl) (λa b=>by cases b;kernel_rfl) (λa=>by kernel_rfl)
def VN(L:Lp):FT (aeW L):=lc (L:=L) (n:=90) (xs:=λa=>a) (rs:=[.tmp 2]) mixed dM j9 rfl rfl rfl rfl rfl rfl rfl rfl rfl rfl rfl (λ_=>rfl) (λ_=>by kernel_rfl) (λa b=>by cases b;kernel_rfl) (λa=>by kernel_rfl)
end Go.X.T
namespace Go.X
open Go Go.Aml Go.Bml Go.RowKit
section
variable {P:Program}{B:Tb}
def PP{i q:Nat}{e:Oper}{b:Act}{d:World}{k m:Act->World->Prop}{j:Exit->Act->World->Prop}(n:∀c,e.op≠ .defer c)(g:∀b d,k b d->m b d)(a:e.wp P b d k j):e.wpIn (c6.inRound i) q P b d m j:=by
 refine⟨λf _=>trivial,?_⟩
 rw[show(c6.inRound i).round=c3 i from rfl,hB i b.eval e n];unfold k7 at a;generalize (execOp b.eval e).run P d=r at a;cases r with
 |ok u o=>
  cases u with
  |value v=>exact g _ _ a
  |skip=>exact g _ _ a
  |defer w=>exact g _ _ a
  |enter f args=>
   refine⟨λa=>by simp[c6] at a,(CallsIn.inRound i (callsIn_wide.2 a)).mono λt l h=>?_⟩
   cases t with
   |returned v=>exact g _ _ h
   |panicked c=>exact h
   |outgrown=>exact h
  |row row args=>
   refine⟨λa=>by simp[c6] at a,λc p _=>?_⟩
   obtain⟨v,l,h,s⟩:=a c p;exact⟨v,l,g _ _ h,stepsIn_wide.2 s⟩
  |_=>exact a.elim
 |halt c o=>
  cases c with
  |panic v=>exact a
  |_=>exact a.elim
def Mn{l n:Nat}{all:Array Oper}{g:Exit->Act->World->Prop}(j:∀b c,¬g .outgrown b c):∀(e:List Oper) (b:Act) (c:World),(∀d,d∈e->∀p,d.op≠ .defer p)->wpList P all g e b c->wpListIn (c6.inRound l) n P all g e b c
 |[],_,_,_,a=>a
 |d::e,b,c,h,a=>by
  unfold wpList at a;unfold wpListIn;have i:=λb c=>Mn (l:=l) (n:=n) (all:=all) j e b c λd k=>h d (eH _ k)
  split at a
  .rename_i f;rw[if_pos f];rcases a with a |⟨_,o,m,a⟩
   .exact PP (h d h5) i a
   .exact(j o m a).elim
  .rename_i f;rw[if_neg f];exact⟨λ_ _=>trivial,i _ _ a⟩
def GStep.lF{n:Nat}{o g:Gh}{H0 H:List aO}{m w w':World}(h:Bml.GStep n o H0 m g H w)(l:bF g H w)(N:w'.os=w.os)(ht:w'.tape=w.tape)(j:w'.output=w.output)(t:w.heap.size<=w'.heap.size)
 (s:∀b,g.F b->w'.heap[b]?=w.heap[b]?) (G:∀r b C,g.β r=c3 (b,C)->w'.heap[b]?=w.heap[b]?) (y:∀b,b<m.heap.size->w'.heap[b]?=w.heap[b]?):Bml.GStep n o H0 m g H w'/\bF g H w':=by
 refine⟨⟨N.trans h.os,ht.trans h.tape,j.trans h.output,gx h.size t,h.F,λb a=>?_,λb a K=>(y b a).trans (h.rest b a K),h.oY,h.oZ,h.dF⟩,⟨λb a=>Nat.lt_of_lt_of_le (l.fb b a) t,l.inj,l.m8,λr d j=>?_⟩⟩
 .exact(s b (h.F b a)).trans (h.jh b a)
 .obtain⟨u,M,k⟩:=l.obj r d j;refine⟨u,M,?_⟩
  cases a:g.β r with
  |none=>rw[a] at k;exact k
  |some F=>
   obtain⟨b,C⟩:=F;rw[a] at k;obtain⟨J,cells,A,D,Q,I,x⟩:=k;refine⟨J,cells,by rw[G r b C a];exact A,D,Q,I,λi E c R=>?_⟩
   obtain⟨L,u1,u2,u3⟩:=x i E c R;exact⟨L,u1,u2,VR.uz (f:=λr v=>∃d,H[r]?=c3 d/\v<=d.aF) (λ_ a=>a) s (λr v d _ j O=>⟨d,j,O,λe=>⟨e,rfl,rfl,rfl⟩⟩) u3 u3.wf⟩
def vy(g:Nat)(P:Program)(j:Nat)(l:Array Value)(h:List Value)(k:World->Prop):Prop:=
 ∀(i:Nat) (c:Nat->World->Prop) (a:World),(∀b a,c b a->k a)->(∀b a d,c b a->Below a.heap.size a d->c b d)->
  (∀b f a,h[b]?=c3 f->c b a->YieldAt c6 (g -1) P i #[f] a λe d=>e= .returned (.bool true)/\c (b+1) d)->
  c 0 a->CallsIn c6 g P j (#[.func (.yield i) #[] #[]]++l) a λe d=>(∃v,e= .returned v)/\c h.length d
def Pq{n:Nat}{g:Operand}{ps:Array Tmp}{assign body:Code}{Q:Exit->Act->World->Prop}{a:Act}{w:World}
 {gf:Nat} {lb:Array Value} (hg:a.eval g= .func (.func gf) #[] lb) (eg:∀args w,(callFunc gf args).run P w= .ok (.enter gf args) w)
 {xs:List Value} {Rd:World->Prop} (hseq:vy (n -1) P gf lb xs Rd) (hps:ps.size=1)
 (I:Nat->World->Prop) (hIr:∀k W,I k W->Rd W)
 (hIp:∀k W r o',I k W->W.heap[w.heap.size+1]?=c3 (.loop r)->o'.isCells=false->I k (W.putObj (w.heap.size+1) o'))
 (hIb:∀k W W',I k W->w.heap.size+2<=W.heap.size->Below W.heap.size W W'->I k W')
 (h0:∀r,I 0 ((w.alloc (.deferred (c3 []))).alloc (.loop r)))
 (Im:Nat->Value->Act->World->Prop)
 (hImp:∀k x a1 W r o',Im k x a1 W->W.heap[w.heap.size+1]?=c3 (.loop r)->o'.isCells=false->Im k x a1 (W.putObj (w.heap.size+1) o'))
 (hassign:∀(l k:Nat) (x:Value) (W:World) (K:Act->World->Prop),xs[k]?=c3 x->I k W->(∀a1 W1,KeepsOthers W W1->Im k x a1 W1->K a1 W1)->
  assign.wpIn (c6.inRound l) (n -1 -1) P (Exit.then K (λ_ _ _=>False)) {tmps:=(ps.zip #[x]).foldl (λt (p,v)=>t.setIfInBounds p v) a.tmps,defers:=[]} W)
 (hbody:∀(l k:Nat) (x:Value) (a1:Act) (W:World),xs[k]?=c3 x->Im k x a1 W->body.wpIn (c6.inRound l) (n -1 -1) P (λe _ W'=>e= .normal/\KeepsOthers W W'/\I (k+1) W') a1 W)
 (hdone:∀(W:World),I xs.length W->W.heap[w.heap.size]?=c3 (.deferred (c3 []))->Q .normal {a with defers:={target:=.collected w.heap.size,args:=#[]}::a.defers} W):
 (Code.rangeFunc g ps assign body).wpIn c6 n P Q a w:=by
 refine wpIn_rangeFunc ?_
 intro fn hfn;obtain⟨rec,hrec⟩:∃rec:LoopState->Option Code->Loop,rec=λst pe=>{state:=st,pending:=pe,fn,tmps:=a.tmps,params:=ps,assign,body,defers:=w.heap.size}:=⟨_,rfl⟩
 obtain⟨W1,hW1⟩:∃W1,(w.alloc (.deferred (c3 []))).alloc (.loop (rec .ready dT))=W1:=⟨_,rfl⟩;have hL1:W1.heap[w.heap.size+1]?=c3 (.loop (rec .ready dT)):=by
  rw[<-hW1];have:=ec (w.alloc (.deferred (c3 []))) (.loop (rec .ready dT));rwa [hQ] at this
 have hK1:W1.heap[w.heap.size]?=c3 (.deferred (c3 [])):=by
  rw[<-hW1];exact(ey _ _ _ (by simp)).trans (ec w _)
 have hI1:I 0 W1:=by rw[<-hW1];exact h0 _
 refine⟨w.heap.size+1,[{target:=.collected w.heap.size,args:=#[]}],W1,{target:=.fn (.func gf) lb,args:=#[.func (.yield (w.heap.size+1)) #[] #[]]},W1,gf,
  #[.func (.yield (w.heap.size+1)) #[] #[]]++lb,W1,?_,?_,λ_ _=>trivial,?_,λh=>by simp[c6] at h,?_⟩
 .rw[<-hW1,hrec];exact run_enterLoop_outer _ _ _ _ _
 .simp only[resolve,hg];simp[go_sem]
 .simp[invoke,go_sem,eg]
 .refine(hseq (w.heap.size+1)
   (λk W=>I k W/\W.heap[w.heap.size+1]?=c3 (.loop (rec .ready dT))/\W.heap[w.heap.size]?=c3 (.deferred (c3 []))) W1
   (λk W h=>hIr k W h.1) (λk W W' h hb=>by
    have h1:=(c5.1 h.2.1).1;exact⟨hIb k W W' h.1 (by omega) hb,(hb.block _ (by omega)).trans h.2.1,(hb.block _ (by omega)).trans h.2.2⟩) ?_ ⟨hI1,hL1,hK1⟩).mono ?_
  .rintro k x W hx ⟨hi,hl,hk⟩;have hlt:w.heap.size+1<W.heap.size:=(c5.1 hl).1;have hy:=run_yield (P:=P) (args:=#[x]) hl (by rw[hrec];simp[hps]);rw[hrec] at hy;refine⟨fn,_,assign,body,hy,roundIn_of_wpIn hfn (hassign _ k x W _ hx hi λa1 Wa hka him=>?_)⟩
   have hla:=hka.same _ _ hl rfl;have hkka:=hka.same _ _ hk rfl;have hlta:w.heap.size+1<Wa.heap.size:=(c5.1 hla).1;refine⟨_,run_beginRound hla (by rw[hrec]),?_⟩
   have hl2:(Wa.putObj (w.heap.size+1) (.loop {rec .ready dT with state:=.busy})).heap[w.heap.size+1]?=c3 (.loop {rec .ready dT with state:=.busy}):=ej hlta;have hk2:(Wa.putObj (w.heap.size+1) (.loop {rec .ready dT with state:=.busy})).heap[w.heap.size]?=c3 (.deferred (c3 [])):=(dv (by omega)).trans hkka;refine wpIn_mono (hbody _ k x a1 _ hx (hImp _ _ _ _ _ _ him hla rfl)) ?_
   rintro e a3 W3 ⟨rfl,hk3,hi3⟩;have hl3:=hk3.same _ _ hl2 rfl;have hr:=run_endRound (P:=P) dT hl3;rw[hrec] at hr;rw[hrec] at hl3;refine⟨_,_,hr,rfl,hIp _ _ _ _ hi3 hl3 rfl,?_,(dv (by omega)).trans (hk3.same _ _ hk2 rfl)⟩
   rw[hrec];exact ej (c5.1 hl3).1
  .rintro e W2 ⟨⟨v,rfl⟩,hi,hl,hk⟩;exact⟨dT,_,by have:=run_endLoop (P:=P) hl (by rw[hrec];simp);rw[hrec] at this;exact this,hdone _ (hIp _ _ _ _ hi hl rfl) ((dv (by omega)).trans hk)⟩
end
section
variable {P:Program}{B:Tb}
structure jV (nl:Nat) (B:Tb) (g2:Gh) (H2:List aO) (w2:World) (W:World) (g:Gh) (H:List (Ob B.D)):Prop where
 m:bF g (av B H) W
 st:Bml.GStep nl g2 H2 w2 g (av B H) W
 sz:w2.heap.size+2<=W.heap.size
 nF:∀b,b=w2.heap.size\/b=w2.heap.size+1->¬g.F b/\∃o,W.heap[b]?=c3 o/\o.isCells=false
def PA{g:Gh}{H:List aO}{f:World}(a:bF g H f){r b h:Nat}(e:g.β r=c3 (b,h)):∃d,f.heap[b]?=c3 d/\d.isCells=true:=by
 have j:=a.m8 r b h e;have c:=(a.obj r _ (c4 j)).mem;rw[e] at c;obtain⟨_,cells,i,_⟩:=c;exact⟨_,i,rfl⟩
section
variable {nl:Nat}{g2:Gh}{H2:List aO}{w2 W:World}{g:Gh}{H:List (Ob B.D)}
def jV.lF(h:jV nl B g2 H2 w2 W g H){a:Nat}{o o':Obj}(m:a=w2.heap.size\/a=w2.heap.size+1)
 (l:W.heap[a]?=c3 o) (y:o.isCells=false) (w:o'.isCells=false):jV nl B g2 H2 w2 (W.putObj a o') g H:=by
 have t:a<W.heap.size:=(c5.1 l).1;have k:∀b,b≠a->(W.putObj a o').heap[b]?=W.heap[b]? :=λb c=>dv (λe=>c e)
 have n:(W.putObj a o').heap.size=W.heap.size:=by simp[World.putObj]
 obtain⟨x,u⟩:=GStep.lF (w':=W.putObj a o') h.st h.m rfl rfl rfl (by rw[n];exact hK _)
  (λb c=>k b λe=>by subst e;exact(h.nF b m).1 c)
  (λr b C c=>k b λe=>by
   subst e;obtain⟨s,d,j⟩:=PA h.m c;rw[l] at d;injection d with d
   rw[<-d,y] at j;cases j)
  (λb c=>k b (by rcases m with e |e <;> omega))
 refine⟨u,x,by rw[n];exact h.sz,λb c=>⟨(h.nF b c).1,?_⟩⟩
 by_cases e:b=a
 .subst e;exact⟨o',ej t,w⟩
 .obtain⟨s,d,j⟩:=(h.nF b c).2;exact⟨s,by rw[k b e];exact d,j⟩
def jV.below(h:jV nl B g2 H2 w2 W g H){d:World}(a:Below W.heap.size W d):jV nl B g2 H2 w2 d g H:=by
 have o:=h.sz;obtain⟨l,j⟩:=GStep.lF (w':=d) h.st h.m a.os a.tape a.output a.size (λb c=>a.block b (h.m.fb b c)) (λr b C c=>a.block b (h.m.qD c)) (λb c=>a.block b (by omega));refine⟨j,l,gx h.sz a.size,λb c=>?_⟩
 obtain⟨k,n,e,m⟩:=h.nF b c;exact⟨k,n,(a.block b (c5.1 e).1).trans e,m⟩
def jV.next(h:jV nl B g2 H2 w2 W g H){k:World}{o:Gh}{H':List (Ob B.D)}(t:bF o (av B H') k)(c:Bml.GStep nl g (av B H) W o (av B H') k):jV nl B g2 H2 w2 k o H'/\KeepsOthers W k:=by
 have m:∀b a,W.heap[b]?=c3 a->a.isCells=false->∀r C,g.β r≠c3 (b,C):=λb a d n r C x=>by
  obtain⟨A,j,s⟩:=PA h.m x;rw[d] at j;injection j with j
  rw[<-j,n] at s;cases s
 refine⟨⟨t,h.st.trans c,gx h.sz c.size,λb y=>?_⟩,c.size,λb a d n=>(c.rest b (c5.1 d).1 (m b a d n)).trans d⟩
 obtain⟨w,a,e,l⟩:=h.nF b y;refine⟨λu=>?_,a,(c.rest b (c5.1 e).1 (m b a e l)).trans e,l⟩
 rcases c.oY b u with h |h |⟨r,C,h⟩
 .exact w h
 .have:=(c5.1 e).1;omega
 .exact m b a e l r C h
def F5(R:cU P B){l n nt v:Nat}{C:List Nat}{b:List Oper}{c:En B.D}{j:Act}{t:Type}{r:t}{k:St B.D->Option t}{Q:Exit->Act->World->Prop}(p:jV nl B g2 H2 w2 W g H)(K:fI g (av B H) W nt (aU B c) j)
 (y:ops B P [] C b (λ_ x=>k x) 0 b [] ⟨c,H⟩=c3 r) (T:∀e,e∈b->fL nt e.dst=true) (M:∀e,e∈b->∀h,e.op≠ .defer h)
 (z:∀o q m u,k o=c3 r->KeepsOthers W m->jV nl B g2 H2 w2 m u o.H->fI u (av B o.H) m nt (aU B o.E) q->Q .normal q m):(k0 v b.toArray false).wpIn (c6.inRound l) n P Q j W:=by
 have E:∀h,h∈([]:List (aq B))->Fits P B h:=λ_ a=>(ef a).elim
 obtain⟨V,f,L,D⟩:=qg R E y;have O:=yW (nt:=nt) (n:=nl) (Q:=λi c H=>i= .normal/\c=aU B f.E/\H=av B f.H) L T ⟨rfl,rfl,rfl⟩;have G:=O g j W ⟨p.m,K⟩ (eI nt nl g (av B H) W λi c H=>i= .normal/\c=aU B f.E/\H=av B f.H) (λ_ _ _ a=>a);have A:=Mn (l:=l) (n:=n) (λj X a=>a) b _ W M G;refine wpIn_mono (wpIn_region_lit A) ?_
 intro i F I d;cases i with
 |normal=>
  obtain⟨U,H3,J,⟨_,rfl,rfl⟩,s,S⟩:=d;obtain⟨w,N⟩:=p.next s.m S;exact z f F I J D N w s.e
 |exit v=>
  obtain⟨_,_,_,⟨a,_⟩,_⟩:=d;cases a
 |ret=>
  obtain⟨_,_,_,⟨a,_⟩,_⟩:=d;cases a
 |goto l=>
  obtain⟨_,_,_,⟨a,_⟩,_⟩:=d;cases a
 |panic h=>exact d.elim
 |outgrown=>exact d.elim
end
def mO(a b:Nat)(c:List (B.D b)):Nat->List (Ob B.D)
 |0=>[⟨1,1,.box a [.bg]⟩]
 |d+1=>[⟨1,1,.box a [.fl 1 1]⟩,⟨1,1,.aap b (c.take (d+1))⟩]
def LY{a:Nat}(c:B.D a->St B.D)(f:B.D a->List (B.D a)->St B.D)(d:List (B.D a))(b:B.D a):Nat->St B.D
 |0=>c b
 |e+1=>f b (d.take (e+1))
def QR(q:Nat):Nat->Option Nat
 |0=>c3 0
 |1=>c3 q
 |_=>dT
def Ku{q i r:Nat}(a:QR q i=c3 r):(i=0/\r=0)\/(i=1/\r=q):=by
 match i,a with
 |0,a=>injection a with a;exact .inl ⟨rfl,a.symm⟩
 |1,a=>injection a with a;exact .inr ⟨rfl,a.symm⟩
def Y5(T:cU P B){g:Gh}{n:World}{Q E k a v q:Nat}{j:List (B.D a)}{m:List (Ob B.D)}(h0:nth m 0=c3 ⟨Q,1,.box k [.fl q v]⟩)(K:nth m q=c3 ⟨E,v,.aap a j⟩)(U:q≠0)(A:bF g (av B m) n):
 ∃x,bF x (av B [⟨1,1,.box k [.fl 1 1]⟩,⟨1,1,.aap a j⟩]) n/\Bml.GStep 1 g (av B m) n x (av B [⟨1,1,.box k [.fl 1 1]⟩,⟨1,1,.aap a j⟩]) n:=by
 have t:(av B m)[0]?=c3 (⟨k,1,[.agg [.fl q v]],1⟩:aO):=df h0;have eq:(av B m)[q]?=c3 (⟨a,B.sz a,j.map (B.ty a).enc,v⟩:aO):=df K;refine⟨dj g (QR q) (λ_=>False),bF.re A (λ_ f=>f.elim) (λi X r f J=>?_) (λi r f=>?_) (λi y c=>?_),GStep.re λi G N h=>?_⟩
 .rcases Ku f with⟨p,b⟩ |⟨p,b⟩ <;> rcases Ku J with⟨S,M⟩ |⟨S,M⟩ <;> omega
 .show i<2
  rcases Ku f with⟨p,b⟩ |⟨p,b⟩ <;> omega
 .match i,c with
  |0,c=>
   have c:c3 (⟨k,1,[.agg [.fl 1 1]],1⟩:aO)=c3 y:=c;injection c with c
   subst c;refine⟨Nat.one_pos,λi D d=>?_,(λf=>by cases f),λr e=>?_⟩
   .match i,d with
    |0,d=>injection d with d;subst d;rfl
   .have e:c3 0=c3 r:=e;injection e with e
    subst e;refine⟨⟨k,1,[.agg [.fl q v]],1⟩,t,rfl,rfl,rfl,λi u o l=>?_⟩
    obtain⟨D,d,R⟩:=gw l
    match i,d with
    |0,d=>
     injection d with d
     subst d
     match u,R with
     |0,_=>
      injection l with l
      subst l;refine⟨.fl q v,rfl,λC s=>?_⟩
      cases s with
      |aW f=>cases f
      |fl _ _ G _ h V L O=>
       rw[eq] at h;injection h with h
       subst h;refine .fl 1 1 ⟨a,B.sz a,j.map (B.ty a).enc,1⟩ C rfl (hK _) L λ_=>?_
       have:=O rfl;unfold SL at this⊢;exact this
  |1,c=>
   have c:c3 (⟨a,B.sz a,j.map (B.ty a).enc,1⟩:aO)=c3 y:=c;injection c with c
   subst c;have w:=A.obj q ⟨a,B.sz a,j.map (B.ty a).enc,v⟩ eq;refine⟨w.pos,w.width,(λf=>by cases f),λr e=>?_⟩
   have e:c3 q=c3 r:=e;injection e with e
   subst e;refine⟨⟨a,B.sz a,j.map (B.ty a).enc,v⟩,eq,rfl,rfl,rfl,λi u o l=>⟨o,l,λC s=>?_⟩⟩
   have F:cE 0 o:=nR (λD d=>by
    obtain⟨z,_,rfl⟩:=hq.1 d;exact T.lt a z) l
   exact .aW ((s.dH F).mono (λ_ I=>.inl I) λ_ _=>rfl)
 .match i,N with
  |0,_=>
   rw[t] at h;injection h with h
   subst h;exact⟨⟨k,1,[.agg [.fl 1 1]],1⟩,rfl,hK _,λ_=>⟨rfl,rfl,rfl⟩⟩
def pA{b:Nat}{fn:Func}{code:Code}(d:P.funcs[b]?=c3 fn)(f:fn.body=c3 code)(e:(fn.name== "runtime.NumGoroutine")=false)(args:Array Value)(a:World):(callFunc b args).run P a= .ok (.enter b args) a:=by
 simp only[callFunc,j2];have c:(program:Sem Program).run P a= .ok P a:=rfl;rw[c];simp only[h6,d];rw[e];simp[f]
def akH{a:List Value}{d t:Nat}(b:a.length<=d):(a.toArray++hU (d -a.toArray.size) undef).getD t undef=a.getD t undef:=by
 rw[dd,ee];rcases j3 t a.length with b |b
 .simp[Array.getElem?_append,b]
 .rw[List.getElem?_eq_none b];rw[Array.getElem?_append_right (by simpa using b)];rcases j3 (t -a.length) (d -a.length) with c |c
  .simp[c]
  .simp[c]
def Ot{g:Gh}{H:List (Ob B.D)}{c:En B.D}{b:World}{a:List Value}{nt:Nat}(d:bF g (av B H) b)(e:a.length<=nt)(f:∀t,VR g (av B H) b (pv B (lk c t)) (a.getD t undef)):
 Rel g nt (aU B c) (av B H) {tmps:=a.toArray++hU (nt -a.toArray.size) undef,defers:=[]} b:=by
 refine⟨d,rfl,?_,λt=>?_⟩
 .simp;omega
 .rw[ep];have:=akH (t:=t) e;rw[this];exact f t
def O9(a4:P.follows .mixedOrders=true)(R:cU P B){L:Lp}{c:aq B}{fn:Func}{ag aj:Code}{bT bN bp:Nat}{K N:List Oper}{n t gf by_:Nat}{aO bJ:TypeId}{bb bx:String}{aV bt:Array Edge}{xs:bi B.D c.par.bX->List (B.D n)}{Y:B.D n->St B.D}{V:B.D n->List (B.D n)->St B.D}{R0:B.D n->List (B.D n)->List (Ob B.D)}{R1:B.D n->List (B.D n)->List (Ob B.D)}{q0 v0 s0 s0' q1 v1 s1 s1':Nat}
 (aZ:P.funcs[c.cO]?=c3 fn) (m:fn.body=c3 (.seq ag (.seq (.seq aj (.block 0 (.rangeFunc (.tmp 6) #[7] (.region bT K.toArray false) (.block 1 (.region bN N.toArray false)))))
  (.seq (.region bp [⟨c3 12,.load t (.tmp 2),aO,bb,aV,dT⟩,⟨c3 4,.assign (.tmp 12),bJ,bx,bt,dT⟩].toArray false) .ret))))
 (bD:(fn.name== "runtime.NumGoroutine")=false) (cd:fn.results=#[.tmp 4]) (cy:c.na=2) (a7:eE 13 fn.ntmps=true) (bf:c.low=0) (bR:dP P t=c3 false) (bL:1<=by_)
 (b3:gB fn.ntmps ag=true) (bX:gB fn.ntmps aj=true) (co:∀u,u∈K->fL fn.ntmps u.dst=true) (bM:∀u,u∈K->∀c,u.op≠ .defer c) (bw:∀u,u∈N->fL fn.ntmps u.dst=true) (b2:∀u,u∈N->∀c,u.op≠ .defer c)
 (bB:∀x,cz B c.par x=⟨[(0,.bg),(1,.fn gf [] [.vp [.row n (xs x)] 0])],[]⟩)
 (bo:∀x,∃ay,exec L B P [] 0 [] ag 1 (λA l=>bif ea A 0 then c3 l else dT) ⟨[(0,.bg),(1,.fn gf [] [.vp [.row n (xs x)] 0])],[]⟩=c3 ⟨ay,[⟨1,1,.box t [.bg]⟩]⟩/\
  ∃ah,exec L B P [] 0 [] aj 1 (λA l=>bif ea A 0 then c3 l else dT) ⟨ay,[⟨1,1,.box t [.bg]⟩]⟩=c3 ⟨ah,[⟨1,1,.box t [.bg]⟩]⟩/\lk ah 6= .fn gf [] [.vp [.row n (xs x)] 0]/\lk ah 2= .ptr 0 1 0 0)
 (bl:∀args w,(callFunc gf args).run P w= .ok (.enter gf args) w)
 (b6:∀aE (am:Nat->Prop) (w:World) (pv:Value) (h:List (B.D n)),2<=aE->h.length<=140737488355328->VI am w (.dw [.vs (B.sz n) (h.map (B.ty n).enc)] 0) pv->∃I:List Value,I.length=h.length/\(∀(i:Nat) (e:B.D n) (v:Value),h[i]?=c3 e->I[i]?=c3 v->VI am w ((B.ty n).enc e) v)/\
  vy aE P gf #[pv] I (λW=>∀b,am b->W.heap[b]?=w.heap[b]?))
 (cl:∀e:B.D n,ops B P [] [2] K (λ_ l=>c3 l) 0 K [] ⟨[(7,B.tv n e),(2,.ptr 0 1 0 0)],[⟨1,1,.box t [.bg]⟩]⟩=c3 (Y e))
 (be:∀(e:B.D n) (h:List (B.D n)),ops B P [] [2] K (λ_ l=>c3 l) 0 K [] ⟨[(7,B.tv n e),(2,.ptr 0 1 0 0)],[⟨1,1,.box t [.fl 1 1]⟩,⟨1,1,.aap n h⟩]⟩=c3 (V e h))
 (au:∀(e:B.D n),ops B P [] [2] N (λ_ l=>c3 l.H) 0 N [] (Y e)=(bj by_ [] [e]).bind λG=>c3 (R0 e G))
 (cq:∀(e:B.D n) (h:List (B.D n)),ops B P [] [2] N (λ_ l=>c3 l.H) 0 N [] (V e h)=(bj by_ h [e]).bind λG=>c3 (R1 e G))
 (bY:∀e G,nth (R0 e G) 0=c3 ⟨s0,1,.box t [.fl q0 v0]⟩/\nth (R0 e G) q0=c3 ⟨s0',v0,.aap n G⟩/\q0≠0)
 (br:∀e G,nth (R1 e G) 0=c3 ⟨s1,1,.box t [.fl q1 v1]⟩/\nth (R1 e G) q1=c3 ⟨s1',v1,.aap n G⟩/\q1≠0)
 (ar:∀x r,c.F x=c3 r->(xs x).length*by_<=140737488355328/\(cz B c.az r)=⟨[(0,.fl 0 0)],[⟨0,0,.aap n (xs x)⟩]⟩/\take B 0 c.az ⟨[(0,.fl 1 1)],[⟨1,1,.box t [.fl 1 1]⟩,⟨1,1,.aap n (xs x)⟩]⟩ c3=c3 r/\(xs x=[]->take B 0 c.az ⟨[(0,.bg)],[⟨1,1,.box t [.bg]⟩]⟩ c3=c3 r)):Fits P B c:=by
 have a7:13<=fn.ntmps:=e0 a7;have a6:∀c,c∈([]:List (aq B))->Fits P B c:=λ_ s=>(ef s).elim
 refine⟨pA aZ m bD,λx r cp g w b9 cE a1 a9=>?_⟩
 obtain⟨aS,bW,ca,bE⟩:=ar x r cp;rw[bB] at a1 a9⊢;rw[bf];obtain⟨ay,bv,ah,ch,bh,bP⟩:=bo x;generalize cD:xs x=h at*;have ci:=Ot a1 (by omega:b9.length<=fn.ntmps) a9;refine(callsIn_wide (n:=10)).1 (callsIn_of_wp_marks aZ m trivial ?_ rfl)
 refine wpIn_seq (wpIn_wide.2 (gO a4 R a6 ag 1 _ _ _ bv b3 (e6 _) g _ w ci _ λA ad b7 M=>?_))
 cases A with
 |normal=>
  obtain⟨_,_,cj,⟨cF,_,aJ,rfl,rfl⟩,cg,bH⟩:=M;injection aJ with aJ
  subst aJ;refine wpIn_seq (wpIn_seq (wpIn_wide.2 (gO a4 R a6 aj 1 _ _ _ ch bX (e6 _) cj ad b7 cg _ λA y w2 M=>?_)))
  cases A with
  |normal=>
   obtain⟨_,_,g2,⟨cC,_,ap,rfl,rfl⟩,O,cn⟩:=M;injection ap with ap
   subst ap;have a5:=O.e.defers;have a2:=O.e.size;have aa:=O.e.at_ 6;rw[ep,bh] at aa;have ck:∃pv,y.tmps.getD 6 undef= .func (.func gf) #[] #[pv]/\VI g2.F w2 (.dw [.vs (B.sz n) (h.map (B.ty n).enc)] 0) pv:=by
    generalize y.tmps.getD 6 undef=z at aa;have aa:VR g2 _ w2 (.fn gf [] [.dw [.vs (B.sz n) (h.map (B.ty n).enc)] 0]) z:=aa;cases aa with
    |aW s=>
     cases s with
     |fn _ _ _ bs vs C _ o aG=>
      obtain rfl:=dk C.symm
      match vs,o with
      |[pv],_=>exact⟨pv,rfl,aG 0 _ pv rfl rfl⟩
    |fn _ _ _ bs vs C _ o aG=>
     obtain rfl:=dk C.symm
     match vs,o with
     |[pv],_=>
      refine⟨pv,rfl,?_⟩
      have:=aG 0 _ pv rfl rfl;cases this with
      |aW s=>exact s
   obtain⟨bV,cm,bA⟩:=ck;obtain⟨I,cb,cs,bk⟩:=b6 9 g2.F w2 bV h (by omega) (gx (Nat.le_mul_of_pos_right _ bL) aS) bA;have aD:=O.e.at_ 2;rw[ep,bP] at aD;refine wpIn_block (Pq (n:=10) (xs:=I) (a:=y) (w:=w2) cm bl bk rfl
    (λk W=>∃g,jV 1 B g2 (av B [⟨1,1,.box t [.bg]⟩]) w2 W g (mO t n h k))
    (λk W s=> ?rd) (λk W r o' s Q ao=> ?put) (λk W aH s cu bS=> ?below) (λae=> ?start)
    (λk v ad W=>∃(e:B.D n) (l:St B.D) (g:Gh),h[k]?=c3 e/\l=LY Y V h e k/\jV 1 B g2 (av B [⟨1,1,.box t [.bg]⟩]) w2 W g l.H/\fI g (av B l.H) W fn.ntmps (aU B l.E) ad)
    (λk x ad W r o' s Q ao=> ?mput) (λb4 k v W aI az D af=> ?assign) (λb4 k v ad W az D=> ?body) (λW D aP=> ?done))
   case rd=>
    obtain⟨g,s⟩:=s;exact s.st.jh
   case put=>
    obtain⟨g,s⟩:=s;exact⟨g,s.lF (.inr rfl) Q rfl ao⟩
   case below=>
    obtain⟨g,s⟩:=s;exact⟨g,s.below bS⟩
   case start=>
    refine⟨g2,?_⟩
    have cw:((w2.alloc (.deferred (c3 []))).alloc (.loop ae)).heap.size=w2.heap.size+2:=by simp
    have aK:∀b,b<w2.heap.size->((w2.alloc (.deferred (c3 []))).alloc (.loop ae)).heap[b]?=w2.heap[b]? :=λb m=>(ey _ _ b (by simp;omega)).trans (ey _ _ b m)
    obtain⟨s1,cf⟩:=GStep.lF (w':=(w2.alloc (.deferred (c3 []))).alloc (.loop ae)) (GStep.refl 1 g2 (av B [⟨1,1,.box t [.bg]⟩]) w2) O.m rfl rfl rfl (by omega) (λb m=>aK b (O.m.fb b m)) (λr b cB m=>aK b (O.m.qD m)) aK;refine⟨cf,s1,by omega,λb m=>⟨λar=>?_,?_⟩⟩
    .have:=O.m.fb b ar;omega
    .rcases m with rfl |rfl
     .exact⟨.deferred (c3 []),(ey (w2.alloc (.deferred (c3 []))) _ w2.heap.size (by simp)).trans (ec w2 _),rfl⟩
     .refine⟨.loop ae,?_,rfl⟩
      have:=ec (w2.alloc (.deferred (c3 []))) (.loop ae)
      rwa [hQ] at this
   case mput=>
    obtain⟨e,l,g,C,o,X,aA⟩:=s;have ak:=X.lF (o':=o') (.inr rfl) Q rfl ao;refine⟨e,l,g,C,o,ak,aA.defers,aA.size,λq=>?_⟩
    have a0:=aA.at_ q;exact VR.uz (f:=λr v=>∃u,(av B l.H)[r]?=c3 u/\v<=u.aF) (λ_ m=>m) (λb m=>dv (λA=>by subst A;exact(X.nF _ (.inr rfl)).1 m)) (λr v u _ Q ax=>⟨u,Q,ax,λA=>⟨A,rfl,rfl,rfl⟩⟩) a0 a0.wf
   case assign=>
    obtain⟨U,D⟩:=D;have F:k<h.length:=by
     have:=(ei.1 az).1;omega
    obtain⟨e,S⟩:∃e,h[k]?=c3 e:=⟨_,c4 F⟩;have ct:=cs k _ v S az;have b1:((#[7]:Array Nat).zip #[v]).foldl (λt (p,v)=>t.setIfInBounds p v) y.tmps=y.tmps.setIfInBounds 7 v:=by simp
    rw[b1];have bK:fI U (av B (mO t n h k)) W fn.ntmps (aU B [(7,B.tv n e),(2,.ptr 0 1 0 0)]) {tmps:=y.tmps.setIfInBounds 7 v,defers:=[]}:=by
     refine⟨rfl,by simp;exact a2,λq=>?_⟩
     rw[ep]
     by_cases aX:q=7
     .subst aX;have Z:(lk [(7,B.tv n e),(2,.ptr 0 1 0 0)] 7:TV B.D)=B.tv n e:=rfl;have aB:(y.tmps.setIfInBounds 7 v).getD 7 undef=v:=by
       rw[dd,e5 (by omega)]
       rfl
      rw[Z,aB,R.tv];exact .aW (ct.mono D.st.F D.st.jh)
     .by_cases o:q=2
      .subst o;have Z:(lk [(7,B.tv n e),(2,.ptr 0 1 0 0)] 2:TV B.D)= .ptr 0 1 0 0:=rfl;have aB:(y.tmps.setIfInBounds 7 v).getD 2 undef=y.tmps.getD 2 undef:=by
        rw[dd,dd,Array.getElem?_setIfInBounds_ne (by omega)]
       rw[Z,aB];exact aD.step D.st (.ptr 0 1 0 0 (by omega))
      .have Z:(lk [(7,B.tv n e),(2,.ptr 0 1 0 0)] q:TV B.D)= .any:=by
        have bz:ea 7 q=false:=by cases m:ea 7 q with |false=>rfl |true=>exact absurd (beq_eq m).symm aX
        have aL:ea 2 q=false:=by cases m:ea 2 q with |false=>rfl |true=>exact absurd (beq_eq m).symm o
        simp only[lk,bz,aL,cond_false]
       rw[Z];exact .aW (.any _)
    have aC:ops B P [] [2] K (λ_ l=>c3 l) 0 K [] ⟨[(7,B.tv n e),(2,.ptr 0 1 0 0)],mO t n h k⟩=c3 (LY Y V h e k):=by
     cases k with
     |zero=>exact cl _
     |succ k=>exact be _ _
    exact F5 R (k:=c3) D bK aC co bM λb0 a8 aH aT T C o X=>af a8 aH C ⟨e,_,aT,S,(hX T),o,X⟩
   case body=>
    obtain⟨e,l,U,S,T,b8,bI⟩:=D;have F:k<h.length:=(ei.1 S).1;have bd:h[k]=e:=by
     rw[c4 F] at S;injection S
    have aQ:(k+1)*by_<=140737488355328:=gx (Nat.mul_le_mul_right _ F) aS;have aN:h.take k++[h[k]]=h.take (k+1):=(List.take_succ_eq_append_getElem F).symm;have aC:∃ai,ops B P [] [2] N (λ_ l=>c3 l.H) 0 N [] l=c3 ai/\∃ac ba v q,nth ai 0=c3 ⟨ac,1,.box t [.fl q v]⟩/\nth ai q=c3 ⟨ba,v,.aap n (h.take (k+1))⟩/\q≠0:=by
     cases k with
     |zero=>
      have aF:bj by_ [] [e]=c3 (h.take 1):=by
       unfold bj;rw[if_pos (by simpa using aQ)];exact congrArg c3 (by rw[<-aN,bd];rfl)
      have C:=au e;rw[aF, <-show l=Y e from T] at C;have o:=bY e (h.take 1);exact⟨_,C,s0,s0',v0,q0,o.1,o.2.1,o.2.2⟩
     |succ k=>
      have aF:bj by_ (h.take (k+1)) [e]=c3 (h.take (k+1+1)):=by
       unfold bj;rw[if_pos (by rw[List.length_take,Nat.min_eq_left (by omega)];exact aQ)];exact congrArg c3 (by rw[<-aN,bd])
      have C:=cq e (h.take (k+1));rw[aF, <-show l=V e (h.take (k+1)) from T] at C;have o:=br e (h.take (k+1+1));exact⟨_,C,s1,s1',v1,q1,o.1,o.2.1,o.2.2⟩
    obtain⟨ai,bU,ac,ba,cG,q,aR,a3,bQ⟩:=aC;refine wpIn_block (F5 R (k:=λl=>c3 l.H) b8 bI bU bw b2 λb0 a8 aH aT T C o X=>?_)
    rw[<-hX T] at aR a3;obtain⟨aw,an,aM⟩:=Y5 R aR a3 bQ o.m;obtain⟨b5,cx⟩:=o.next (H':=mO t n h (k+1)) an aM;exact⟨rfl,C,aw,b5⟩
   case done=>
    obtain⟨U,D⟩:=D;obtain⟨J,ab⟩:∃J:Act,J={y with defers:={target:=.collected w2.heap.size,args:=#[]}::y.defers}:=⟨_,rfl⟩;rw[<-ab];have cc:J.eval=y.eval:=by rw[ab];rfl
    have ce:∃cv ac,nth (mO t n h I.length) 0=c3 ⟨ac,1,.box t [cv]⟩/\take B 0 c.az ⟨[(0,cv)],mO t n h I.length⟩ c3=c3 r:=by
     rw[cb];cases bc:h.length with
     |zero=>exact⟨.bg,1,rfl,bE (dk bc)⟩
     |succ aE=>
      simp only[mO];rw[<-bc,List.take_length];exact⟨.fl 1 1,1,rfl,ca⟩
    obtain⟨cv,ac,au,bq⟩:=ce;have bm:Rel U fn.ntmps [(2,.ptr 0 1 0 0)] (av B (mO t n h I.length)) y W:=by
     refine⟨D.m,a5,a2,λq=>?_⟩
     by_cases o:q=2
     .subst o;exact aD.step D.st (.ptr 0 1 0 0 (by omega))
     .have aL:ea 2 q=false:=by cases m:ea 2 q with |false=>rfl |true=>exact absurd (beq_eq m).symm o
      have:Bml.look [(2,PV.ptr 0 1 0 0)] q=PV.any:=by simp only[Bml.look,aL,cond_false]
      rw[this];exact .aW (.any _)
    obtain⟨v,bn,aY⟩:=AT (P:=P) (d:=c3 12) (ty:=aO) (pos:=bb) (aft:=aV) (gd:=dT) (t:=t) (x:=.tmp 2) (E:=[(2,.ptr 0 1 0 0)]) (H:=av B (mO t n h I.length)) (r:=0) (v:=1) (i:=0) (j:=0) (c:=pv B cv) rfl (df au) rfl bR rfl U fn.ntmps y W bm;refine wpIn_seq (wpIn_region_lit (wpListIn_plain rfl λaI af=>⟨λf _=>trivial,?_⟩))
    rw[ie _ _ _ (λc s=>by cases s),cc,bn];refine af _ _ (wpListIn_plain rfl λaI af=>⟨λf _=>trivial,?_⟩)
    rw[ie _ _ _ (λc s=>by cases s)];have bF:(J.put (c3 12) v).eval (.tmp 12)=v:=by
     rw[ab];show((y.tmps.setIfInBounds 12 v).getD 12 undef)=v
     rw[dd,e5 (by omega)]
     rfl
    show aI ((J.put (c3 12) v).put (c3 4) ((J.put (c3 12) v).eval (.tmp 12))) W
    rw[bF];refine af _ _ (wpListIn_nil (wpIn_ret ?_))
    have bC:((J.put (c3 12) v).put (c3 4) v).defers=[{target:=.collected w2.heap.size,args:=#[]}]:=by
     rw[ab];show _::y.defers=_
     rw[a5]
    have bZ:(((J.put (c3 12) v).put (c3 4) v).tmps).getD 4 undef=v:=by
     rw[ab];show((y.tmps.setIfInBounds 12 v).setIfInBounds 4 v).getD 4 undef=v
     rw[dd,e5 (by simp;omega)]
     rfl
    show LeavesInM _ _ _ _ _ _ ((J.put (c3 12) v).put (c3 4) v).defers .returning W
    rw[bC];refine⟨by simp,.inl ⟨_,_,rfl,run_takeDeferred aP,?_⟩⟩
    refine⟨v,by rw[results_tmp cd,bZ],v,?_⟩
    have ak:=D.lF (o':=.deferred dT) (.inl rfl) aP rfl rfl;have cr:VR U (av B (mO t n h I.length)) (W.putObj w2.heap.size (.deferred dT)) (pv B cv) v:=VR.uz (f:=λr v=>∃u,(av B (mO t n h I.length))[r]?=c3 u/\v<=u.aF) (λ_ m=>m) (λb m=>dv (λA=>by subst A;exact(D.nF _ (.inl rfl)).1 m)) (λr v u _ Q ax=>⟨u,Q,ax,λA=>⟨A,rfl,rfl,rfl⟩⟩) aY aY.wf;obtain⟨cA,al,aw,an,aM,bO⟩:=EK R bq ak.m;injection al with al
    subst al;refine⟨aw,rfl,an,((bH.trans cn).trans (ak.st.less (e6 _))).trans aM,?_⟩
    have:=bO 0 v cr;rw[bW] at this⊢;exact this
  |_=>first |exact M.elim |(obtain⟨_,_,_,⟨_,_,F,_⟩,_⟩:=M;cases F) |(obtain⟨_,_,_,F,_⟩:=M;exact F.elim)
 |_=>first |exact M.elim |(obtain⟨_,_,_,⟨_,_,F,_⟩,_⟩:=M;cases F) |(obtain⟨_,_,_,F,_⟩:=M;exact F.elim)
end
end Go.X
namespace Go.X.T
open Go Go.Aml Go.Bml Go.X Go.RowKit Go.Proofs
attribute [local go_sem] hB
def an0(m:Nat)(hm:2<=m)(l b off sb so cap N:Nat)(ad:Option Addr)(hN:N<=140737488355328)(val:Nat->Int)(J:Nat->World->Prop)
 (hr:∀k W,J k W->W.cell? ⟨b,off,dT⟩=c3 (.slice ad N cap)/\∀i:Nat,i<N->ad=c3 ⟨sb,so,dT⟩/\W.cell? ⟨sb,so+i,dT⟩=c3 (.int .i64 (val i)))
 (hy:∀k W,k<N->J k W->YieldAt c6 (m -1) c7 l #[.int .i64 (val k)] W λe W'=>e= .returned (.bool true)/\J (k+1) W') (W:World) (h0:J 0 W):
 CallsIn c6 m c7 269 #[.func (.yield l) #[] #[],.pointer (c3 ⟨b,off,dT⟩)] W λe W'=>(∃v,e= .returned v)/\J N W':=by
 have h269:c6.fn 269:=trivial;refine callsIn_of_wp j4 rfl h269 ?_ rfl
 have hc0:=(hr 0 W h0).1;simp only[Tryz.ntmps269,h7,eo,hD,Nat.reduceAdd,Nat.reduceSub,fe,ft,h8,gv,hI,h9]
 gi_wp2
 gi_loopw [7] (λvi (wr:World)=>∃k:Nat,vi= .int .i64 (k:Int)/\k<=N/\J k wr) (λvi _=>match vi with | .int _ k=>N -k.toNat |_=>0)
 case atStart=>exact⟨0,rfl,e6 _,h0⟩
 case round=>
  obtain⟨k,rfl,hk,hJ⟩:=hrel;obtain⟨hc,he⟩:=hr k _ hJ
  by_cases hlt:k<N
  .obtain⟨rfl,hek⟩:=he k hlt;obtain⟨fn,tmps,assign,body,hyy,hR⟩:=hy k wr hlt hJ
   gi_wp2
   refine⟨λh=>by simp[c6] at h,hR.mono ?_⟩
   rintro e W3 ⟨rfl,hJ3⟩
   gi_wp2
   go_roundw
   case rel=>exact⟨k+1,congrArg (hS .i64) (by omega),by omega,hJ3⟩
   case measure=>
    show N - ((k:Int)+1).toNat<N - (k:Int).toNat
    omega
  .have:k=N:=by omega
   subst this
   gi_wp2
   go_end0
   exact⟨⟨_,rfl⟩,hJ⟩
def akF(m:Nat)(hm:2<=m)(l b off sb so cap N:Nat)(ad:Option Addr)(hN:N<=140737488355328)(pa pb:Nat->Option Addr)(na ca nb cb:Nat->Nat)(J:Nat->World->Prop)
 (hr:∀k W,J k W->W.cell? ⟨b,off,dT⟩=c3 (.slice ad N cap)/\∀i:Nat,i<N->ad=c3 ⟨sb,so,dT⟩/\W.cell? ⟨sb,so+i*2,dT⟩=c3 (.slice (pa i) (na i) (ca i))/\W.cell? ⟨sb,so+i*2+1,dT⟩=c3 (.slice (pb i) (nb i) (cb i)))
 (hJb:∀k W W',J k W->Below W.heap.size W W'->J k W')
 (hy:∀k W,k<N->J k W->YieldAt c6 (m -1) c7 l #[.agg #[.slice (pa k) (na k) (ca k),.slice (pb k) (nb k) (cb k)]] W λe W'=>e= .returned (.bool true)/\J (k+1) W') (W:World) (h0:J 0 W):
 CallsIn c6 m c7 326 #[.func (.yield l) #[] #[],.pointer (c3 ⟨b,off,dT⟩)] W λe W'=>(∃v,e= .returned v)/\J N W':=by
 have h326:c6.fn 326:=trivial;refine callsIn_of_wp j5 rfl h326 ?_ rfl
 have hc0:=(hr 0 W h0).1;simp only[Tryz.ntmps326,h7,eo,hD,Nat.reduceAdd,Nat.reduceSub,fe,ft,h8,gv,hI,h9]
 gi_wp2
 gi_loopw [7] (λvi (wr:World)=>∃k:Nat,vi= .int .i64 (k:Int)/\k<=N/\J k wr) (λvi _=>match vi with | .int _ k=>N -k.toNat |_=>0)
 case atStart=>exact⟨0,rfl,e6 _,h0⟩
 case round=>
  obtain⟨k,rfl,hk,hJ⟩:=hrel;obtain⟨hc,he⟩:=hr k _ hJ
  by_cases hlt:k<N
  .obtain⟨rfl,hek,hek2⟩:=he k hlt;have hJ2:=hJb k wr (wr.alloc (.cells #[.slice (pa k) (na k) (ca k),.slice (pb k) (nb k) (cb k)] 140)) hJ ((k6 _ _).alloc (hK _) _);obtain⟨fn,tmps,assign,body,hyy,hR⟩:=hy k _ hlt hJ2
   gi_wp2
   refine⟨λh=>by simp[c6] at h,hR.mono ?_⟩
   rintro e W3 ⟨rfl,hJ3⟩
   gi_wp2
   go_roundw
   case rel=>exact⟨k+1,congrArg (hS .i64) (by omega),by omega,hJ3⟩
   case measure=>
    show N - ((k:Int)+1).toNat<N - (k:Int).toNat
    omega
  .have:k=N:=by omega
   subst this
   gi_wp2
   go_end0
   exact⟨⟨_,rfl⟩,hJ⟩
def aoU(r:Nat)(l:Nat->Prop)(m:World)(pv:Value)(a:List Int)(R:2<=r)(K:a.length<=140737488355328)(S:VI l m (.dw [.vs 1 (a.map (PV.int .i64))] 0) pv):
 ∃n:List Value,n.length=a.length/\(∀(i:Nat) (p:Int) (v:Value),a[i]?=c3 p->n[i]?=c3 v->VI l m (.int .i64 p) v)/\vy r c7 269 #[pv] n (λc=>∀b,l b->c.heap[b]?=m.heap[b]?):=by
 cases S with
 |dw _ _ b J A F U Z e=>
  have C:=U 0 _ rfl;have q:=e 0 _ rfl;have G:∃j f g cap,A 0= .slice j a.length cap/\∀i:Nat,i<a.length->j=c3 ⟨f,g,dT⟩/\l f/\m.cell? ⟨f,g+i,dT⟩=c3 (.int .i64 (a.getD i 0)):=by
   generalize s:a.map (PV.int .i64)=O at q;generalize A 0=z at q;cases q with
   |eX _ D cap=>
    have:a=[]:=gb.1 s;subst this;exact⟨D,0,0,cap,rfl,λi d=>by simp at d⟩
   |vs _ _ Q L cap u2 X T ab N Y E=>
    refine⟨_,Q,L,cap,by rw[<-s];simp,λi d=>⟨rfl,T,?_⟩⟩
    have w:abk O i 0=c3 (.int .i64 (a.getD i 0)):=by
     rw[<-s];unfold abk;rw[dt,c4 d,ee,c4 d]
     rfl
    have B:=N i 0 _ w;have u:=E i 0 _ w;rw[Nat.mul_one,Nat.add_zero] at B;rw[B];generalize u2 i 0=z at u⊢;cases u
    rfl
  obtain⟨j,f,g,cap,P,o⟩:=G;refine⟨a.map (hS .i64),by simp,λi p v M e=>?_,λV H c y aa I h0=>?_⟩
  .rw[dt,M] at e;injection e with e
   subst e;exact .int _ _
  .refine(an0 r R V b J f g cap a.length j K (λi=>List.getD (α:=Int) a i 0) H (λh c k=>⟨?_,λi d=>⟨(o i d).1,?_⟩⟩) (λh c t k=>?_) c h0).mono λac W x=>⟨x.1,by rw[ga];exact x.2⟩
   .rw[oW (y h c k) F, <-P];exact C
   .rw[oW (y h c k) (o i d).2.1];exact(o i d).2.2
   .refine I h _ c ?_ k
    rw[dt,c4 t,ee,c4 t]
    rfl
def anR(O:Nat)(y:Nat->Prop)(n:World)(pv:Value)(d:List ay)(ap:2<=O)(am:d.length<=140737488355328)(aq:VI y n (.dw [.vs 2 (d.map ay.enc)] 0) pv):
 ∃I:List Value,I.length=d.length/\(∀(i:Nat) (h:ay) (v:Value),d[i]?=c3 h->I[i]?=c3 v->VI y n (ay.enc h) v)/\vy O c7 326 #[pv] I (λf=>∀b,y b->f.heap[b]?=n.heap[b]?):=by
 cases aq with
 |dw _ _ b an aa ai ah az l=>
  have ac:=ah 0 _ rfl;have L:=l 0 _ rfl;have al:∃F m o cap,∃(C u:Nat->Option Addr) (w t r x:Nat->Nat),aa 0= .slice F d.length cap/\∀i:Nat,i<d.length->(F=c3 ⟨m,o,dT⟩/\y m/\n.cell? ⟨m,o+i*2,dT⟩=c3 (.slice (C i) (w i) (t i))/\n.cell? ⟨m,o+i*2+1,dT⟩=c3 (.slice (u i) (r i) (x i)))/\
   ∀h,d[i]?=c3 h->VI y n (ay.enc h) (.agg #[.slice (C i) (w i) (t i),.slice (u i) (r i) (x i)]):=by
   generalize B:d.map ay.enc=P at L;generalize aa 0=z at L;cases L with
   |eX _ ae cap=>
    have:d=[]:=gb.1 B;subst this;exact⟨ae,0,0,cap,λ_=>dT,λ_=>dT,λ_=>0,λ_=>0,λ_=>0,λ_=>0,rfl,λi a=>by simp at a⟩
   |vs _ _ Z W cap u2 av ar aA Y ax J=>
    have sl:∀i c:Nat,i<d.length->c<2->∃p G D,u2 i c= .slice p G D:=λi c a e=>by
     have K:∃V R,abk P i c=c3 (.vs V R):=by
      rw[<-B];unfold abk;rw[dt,c4 a]
      match c,e with
      |0,_=>exact⟨_,_,rfl⟩
      |1,_=>exact⟨_,_,rfl⟩
     obtain⟨V,R,K⟩:=K;have U:=J i c _ K;generalize u2 i c=z at U⊢;cases U with
     |eX=>exact⟨_,_,_,rfl⟩
     |vs=>exact⟨_,_,_,rfl⟩
    let H:Value->Option Addr:=λv=>match v with | .slice p _ _=>p |_=>dT
    let M:Value->Nat:=λv=>match v with | .slice _ G _=>G |_=>0
    let Q:Value->Nat:=λv=>match v with | .slice _ _ D=>D |_=>0
    have T:∀i c:Nat,i<d.length->c<2->Value.slice (H (u2 i c)) (M (u2 i c)) (Q (u2 i c))=u2 i c:=λi c a e=>by
     obtain⟨p,G,D,S⟩:=sl i c a e;rw[S]
    refine⟨c3 ⟨Z,W,dT⟩,Z,W,cap,λi=>H (u2 i 0),λi=>H (u2 i 1),λi=>M (u2 i 0),λi=>Q (u2 i 0),λi=>M (u2 i 1),λi=>Q (u2 i 1),by rw[<-B];simp,λi a=>?_⟩
    have ab:abk P i 0=c3 (.vs 1 ((d[i]).aw.map (PV.int .i64))):=by
     rw[<-B];unfold abk;rw[dt,c4 a]
     rfl
    have E:∃q,abk P i 1=c3 q/\ay.enc d[i]= .agg [.vs 1 ((d[i]).aw.map (PV.int .i64)),q]:=by
     rw[<-B];unfold abk;rw[dt,c4 a];exact⟨_,rfl,rfl⟩
    obtain⟨q,E,ad⟩:=E;dsimp only;rw[T i 0 a (by omega),T i 1 a (by omega)];refine⟨⟨rfl,ar,Y i 0 _ ab,Y i 1 _ E⟩,λh j=>?_⟩
    rw[c4 a] at j;injection j with j
    subst j;rw[ad];refine .agg _ [u2 i 0,u2 i 1] rfl λc D aw e g=>?_
    match c,e,g with
    |0,e,g=>
     injection e with e
     injection g with g
     subst e;subst g;exact J i 0 _ ab
    |1,e,g=>
     injection e with e
     injection g with g
     subst e;subst g;exact J i 1 _ E
  obtain⟨F,m,o,cap,C,u,w,t,r,x,ao,k⟩:=al
  let val:Nat->Value:=λi=>.agg #[.slice (C i) (w i) (t i),.slice (u i) (r i) (x i)]
  refine⟨(List.range d.length).map val,by simp,λi h v j l=>?_,λau aj f N ag ak h0=>?_⟩
  .have a:=(ei.1 j).1;rw[dt,hL a] at l;injection l with l
   subst l;exact(k i a).2 h j
  .refine(akF O ap au b an m o cap d.length F am C u w t r x aj (λs f A=>⟨?_,λi a=>⟨(k i a).1.1,?_,?_⟩⟩) ag (λs f af A=>?_) f h0).mono λS aB X=>⟨X.1,by rw[ga,List.length_range];exact X.2⟩
   .rw[oW (N s f A) ai, <-ao];exact ac
   .rw[oW (N s f A) (k i a).1.2.1];exact(k i a).1.2.2.1
   .rw[oW (N s f A) (k i a).1.2.1];exact(k i a).1.2.2.2
   .refine ak s _ f ?_ A
    rw[dt,hL af]
    rfl
def SQ{e:Type}{by_:Nat}{a r:List e}(b:bj by_ [] a=c3 r):a.length*by_<=140737488355328/\r=a:=by
 obtain⟨d,c⟩:=AN b;exact⟨by simpa using d,by simpa using c.symm⟩
def u6:∀b:List Oper,(b.all λa=>match a.op with | .defer _=>false |_=>true)=true->∀a,a∈b->∀c,a.op≠ .defer c:=λb e a d c f=>by
 have:=ev.1 e a d;rw[f] at this;cases this
def mL{c:Nat}:∀b:List Oper,(b.all λa=>fL c a.dst)=true->∀a,a∈b->fL c a.dst=true:=λb e a d=>ev.1 e a d
def K15(L:Lp):FT (C15 L):=O9 (L:=L) (n:=3) (t:=22) (by_:=8) (gf:=269) (xs:=λc=>c) (q0:=1) (v0:=1) (s0:=2) (s0':=1) (q1:=1) (v1:=2) (s1:=2) (s1':=2)
 (R0:=λ_ b=>[⟨2,1,.box 22 [.fl 1 1]⟩,⟨1,1,.aap 3 b⟩]) (R1:=λ_ b=>[⟨2,1,.box 22 [.fl 1 2]⟩,⟨2,2,.aap 3 b⟩])
 mixed dM Tryz.func308 rfl rfl rfl rfl rfl rfl (by kernel_rfl) (by omega) rfl rfl (mL _ rfl) (u6 _ rfl) (mL _ rfl) (u6 _ rfl) (λ_=>rfl) (λc=>⟨_,rfl,_,rfl,rfl,rfl⟩) (pA j4 rfl rfl) aoU
 (λa=>rfl) (λa d=>rfl) (λa=>by kernel_rfl) (λa d=>by kernel_rfl) (λa b=>⟨rfl,rfl,by omega⟩) (λa b=>⟨rfl,rfl,by omega⟩)
 (λc r e=>by
  obtain⟨f,rfl⟩:=SQ (by_:=8) e;exact⟨f,rfl,rfl,λh0=>by cases h0;rfl⟩)
def U9(L:Lp):FT (U0 L):=O9 (L:=L) (n:=140) (t:=44) (by_:=48) (gf:=326) (xs:=λc=>c) (q0:=2) (v0:=1) (s0:=2) (s0':=1) (q1:=1) (v1:=2) (s1:=2) (s1':=2)
 (R0:=λ(a:ay) b=>[⟨2,1,.box 44 [.fl 2 1]⟩,⟨2,1,.box 140 [.row 3 a.aw,.row 142 a.aH]⟩,⟨1,1,.aap 140 b⟩]) (R1:=λ(a:ay) b=>[⟨2,1,.box 44 [.fl 1 2]⟩,⟨2,2,.aap 140 b⟩,⟨2,1,.box 140 [.row 3 a.aw,.row 142 a.aH]⟩])
 mixed dM Tryz.func337 rfl rfl rfl rfl rfl rfl (by kernel_rfl) (by omega) rfl rfl (mL _ rfl) (u6 _ rfl) (mL _ rfl) (u6 _ rfl) (λ_=>rfl) (λc=>⟨_,rfl,_,rfl,rfl,rfl⟩) (pA j5 rfl rfl) anR
 (λa=>rfl) (λa d=>rfl) (λa=>by kernel_rfl) (λa d=>by kernel_rfl) (λa b=>⟨rfl,rfl,by omega⟩) (λa b=>⟨rfl,rfl,by omega⟩)
 (λc r e=>by
  obtain⟨f,rfl⟩:=SQ (by_:=48) e;exact⟨f,rfl,rfl,λh0=>by cases h0;rfl⟩)
end Go.X.T
namespace Go.X
open Go Go.Aml Go.Bml Go.RowKit
def IX:List (Code×List (Nat×Hn))->Code->Code
 |[],a=>a
 |b::c,a=>.seq b.1 (IX c a)
section
variable {P:Program}{B:Tb}{R:Type}{r:R}
def AS(e:Lp)(B:Tb)(P:Program)(c:List (aq B))(d:Nat){R:Type}:List (Code×List (Nat×Hn))->(Nat->St B.D->Option R)->St B.D->Option R
 |[],b,a=>b 0 a
 |f::h,b,a=>exec e B P c d f.2 f.1 1 (λg a=>bif ea g 0 then AS e B P c d h b a else b g a) a
def RB(a:Nat):List (Code×List (Nat×Hn))->Bool
 |[]=>true
 |b::c=>bif gB a b.1 then RB a c else false
def Ck{l n:Nat}{o:Region.Mode}{f:Array Oper}{k:Exit->Act->World->Prop}(h:∀b c,¬k .outgrown b c)(e:∀(i:Nat) (g:Oper),f[i]?=c3 g->∀t,g.op≠ .defer t):∀(d:Nat) (bN:Array Bool) (b:Act) (c:World),wpAny P o f k d bN b c->wpAnyIn (c6.inRound l) n P o f k d bN b c
 |0,_,_,_,a=>a
 |d+1,bN,b,c,⟨h0,s⟩=>by
  refine⟨h0,λi u=>?_⟩
  have a:=s i u;unfold wpOp at a;unfold wpOpIn;cases m:f[i]? with
  |none=>
   rw[m] at a;exact Ck h e d _ b c a
  |some g=>
   rw[m] at a;simp only at a⊢
   split at a
   .rename_i j;rw[if_pos j];rcases a with a |⟨_,q,p,a⟩
    .exact PP (e i g m) (λb c a=>Ck h e d _ b c a) a
    .exact(h q p a).elim
   .rename_i j;rw[if_neg j];exact⟨λ_ _=>trivial,Ck h e d _ _ _ a⟩
def EB(h:P.follows .mixedOrders=true)(e:cU P B){k:Lp}{d:List (aq B)}(s:∀a,a∈d->Fits P B a){a:aq B}{fn:Func}{code:Code}{rs:List ResultVar}{hs:List (Nat×Hn)}(p:P.funcs[a.cO]?=c3 fn)(l:fn.body=c3 code)(m:(fn.name== "runtime.NumGoroutine")=false)
 (n:fn.results=rs.toArray) (g:eE a.na fn.ntmps=true) (f:gB fn.ntmps code=true) (j:eE a.low (len a.par.dF)=true) (i:lY 0 rs.length a.az.dE=true) (t:∀b c,a.F b=c3 c->gl k B P d a rs code hs b=c3 c):Fits P B a:=by
 refine ti e p l m n g i λb c o=>?_
 have q:a.low<=(cz B a.par b).H.length:=by
  rw[A7, <-eu];exact e0 j
 exact(gO h e s code 1 _ _ _ (t b c o) f q).mono nP
def aed(h:P.follows .mixedOrders=true)(e:cU P B){k:Lp}{a:aq B}{fn:Func}{code:Code}{rs:List ResultVar}{hs:List (Nat×Hn)}(p:P.funcs[a.cO]?=c3 fn)(l:fn.body=c3 code)(m:(fn.name== "runtime.NumGoroutine")=false)
 (n:fn.results=rs.toArray) (g:eE a.na fn.ntmps=true) (f:gB fn.ntmps code=true) (j:eE a.low (len a.par.dF)=true) (i:lY 0 rs.length a.az.dE=true) (u:∀b c,a.F b=c3 c->∃d:List (aq B),(∀a,a∈d->Fits P B a)/\gl k B P d a rs code hs b=c3 c):Fits P B a:=by
 refine ti e p l m n g i λb c o=>?_
 have s:a.low<=(cz B a.par b).H.length:=by
  rw[A7, <-eu];exact e0 j
 obtain⟨d,t,q⟩:=u b c o;exact(gO h e t code 1 _ _ _ q f s).mono nP
def afO(i:P.follows .mixedOrders=true)(f:cU P B){l:Lp}{a:aq B}{fn:Func}{code:Code}{rs:List ResultVar}(q:P.funcs[a.cO]?=c3 fn)(m:fn.body=c3 code)(n:(fn.name== "runtime.NumGoroutine")=false)
 (o:fn.results=rs.toArray) (h:eE a.na fn.ntmps=true) (g:gB fn.ntmps code=true) (k:eE a.low (len a.par.dF)=true) (j:lY 0 rs.length a.az.dE=true) (v:∀b c,a.F b=c3 c->∃(d:List (aq B)) (e:List (Nat×Hn)),(∀a,a∈d->Fits P B a)/\gl l B P d a rs code e b=c3 c):Fits P B a:=by
 refine ti f q m n o h j λb c p=>?_
 have t:a.low<=(cz B a.par b).H.length:=by
  rw[A7, <-eu];exact e0 k
 obtain⟨d,e,u,s⟩:=v b c p;exact(gO i f u code 1 _ _ _ s g t).mono nP
end
def ji(a:List Deferred)(b:Act):Act:={b with defers:=a}
def xM{b:List Deferred}{c:Act}{a:Option Tmp}{v:Value}:(ji b c).put a v=ji b (c.put a v):=by
 cases a <;> rfl
def amK{b:List Deferred}{a:Act}:(ji b a).eval=a.eval:=rfl
section
variable {P:Program}{B:Tb}
def pK(P:Program)(d:Oper):Prop:=∀(c:Act) (e:World) (a:Deferred) (b:World),(execOp c.eval d).run P e≠ .ok (.defer a) b
def aeJ{e:List Deferred}{d:Oper}{a:Act}{b:World}{p g:Act->World->Prop}{o q:Exit->Act->World->Prop}(t:pK P d)(n:∀m a b,o m a b->q m (ji e a) b)(j:∀a b,p a b->g (ji e a) b)(c:d.wp P a b p o):d.wp P (ji e a) b g q:=by
 unfold k7 at c⊢;rw[amK];have s:=t a b;generalize (execOp a.eval d).run P b=r at c s⊢;cases r with
 |ok z h=>
  cases z with
  |value v=>
   show g ((ji e a).put d.dst v) h
   rw[xM];exact j _ _ c
  |skip=>
   show g ((ji e a).put d.dst undef) h
   rw[xM];exact j _ _ c
  |defer u=>exact absurd rfl (s u h)
  |enter f args=>
   refine Calls.mono (show Calls P f args h _ from c) ?_
   intro m k i;cases m with
   |returned v=>
    show g ((ji e a).put d.dst v) k
    rw[xM];exact j _ _ i
   |panicked l=>exact n _ _ _ i
   |outgrown=>obtain⟨C,A,x⟩:=i;exact⟨_,_,n _ _ _ x⟩
  |row row args=>
   intro l w;obtain⟨v,k,i,y⟩:=c l w;refine⟨v,k,?_,y⟩
   show g ((ji e a).put d.dst v) k
   rw[xM];exact j _ _ i
  |_=>exact c.elim
 |halt l h=>
  cases l with
  |panic v=>exact n _ _ _ c
  |_=>exact c.elim
def Lv{i:List Deferred}{all:Array Oper}{l j:Exit->Act->World->Prop}(f:∀k b c,l k b c->j k (ji i b) c):∀(e:List Oper) (b:Act) (c:World),(∀d,d∈e->pK P d)->wpList P all l e b c->wpList P all j e (ji i b) c
 |[],_,_,_,a=>f _ _ _ a
 |d::e,b,c,h,a=>by
  unfold wpList at a⊢;have m:=λb c=>Lv (all:=all) f e b c λd n=>h d (eH _ n)
  show if Region.wanted d (yielded all b.tmps) then _ else _
  split at a
  .rename_i g;rw[if_pos g];rcases a with a |⟨o,q,p,a⟩
   .exact .inl (aeJ (h d h5) f m a)
   .exact .inr ⟨o,_,_,f _ _ _ a⟩
  .rename_i g;rw[if_neg g,xM];exact m _ _ a
def Hv(O:cU P B){s:List (aq B)}(L:∀q,q∈s->Fits P B q){m nt y:Nat}{C:List Nat}{c:List Oper}{a:St B.D}{v:Type}{r:v}{u:St B.D->Option v}{g:Gh}{j:Act}{e:World}{x:List Deferred}{Q:Exit->Act->World->Prop}
 (J:Rel g nt (aU B a.E) (av B a.H) j e) (z:ops B P s C c (λ_ a=>u a) 0 c [] a=c3 r) (S:∀f,f∈c->fL nt f.dst=true) (M:∀f,f∈c->pK P f)
 (A:∀k t l w,u k=c3 r->Rel w nt (aU B k.E) (av B k.H) t l->Bml.GStep m g (av B a.H) e w (av B k.H) l->Q .normal (ji x t) l):(k0 y c.toArray false).wp P Q (ji x j) e:=by
 obtain⟨U,h,K,D⟩:=qg O L z;have N:=yW (nt:=nt) (n:=m) (Q:=λi o p=>i= .normal/\o=aU B h.E/\p=av B h.H) K S ⟨rfl,rfl,rfl⟩;have G:=N g j e J (eI nt m g (av B a.H) e λi o p=>i= .normal/\o=aU B h.E/\p=av B h.H) (λ_ _ _ b=>b);refine wp_region_lit (Lv ?_ c j e M G)
 intro i E H d;cases i with
 |normal=>
  obtain⟨T,H3,I,⟨_,rfl,rfl⟩,F,R⟩:=d;exact A h E H I D F R
 |exit y=>obtain⟨_,_,_,⟨b,_⟩,_⟩:=d;cases b
 |ret=>obtain⟨_,_,_,⟨b,_⟩,_⟩:=d;cases b
 |goto V=>obtain⟨_,_,_,⟨b,_⟩,_⟩:=d;cases b
 |panic q=>exact d.elim
 |outgrown=>exact d.elim
def Xn(D:cU P B){c:aq B}{fn:Func}{rs:List ResultVar}{A:Nat}(L:fn.results=rs.toArray)(F:lY 0 rs.length c.az.dE=true){k:St B.D}{h:bi B.D c.az.bX}(H:(nh B P k 0 rs [] λR=>take B c.low c.az ⟨R,k.H⟩ c3)=c3 h){t:Gh}{g:Act}{a:World}(z:Rel t A (aU B k.E) (av B k.H) g a):
 ∃v f,(results fn g.tmps).run P a= .ok v a/\bF f (av B (cz B c.az h).H) a/\Bml.GStep c.low t (av B k.H) a f (av B (cz B c.az h).H) a/\VR f (av B (cz B c.az h).H) a (pv B (kR (cz B c.az h).E)) v:=by
 obtain⟨vs,Y,G,Q⟩:=H4 D H;obtain⟨j,J,X,S⟩:=Q t A g a z;obtain⟨o,u,f,N,T,K⟩:=EK D G z.m;injection u with u
 subst u;have l:∃d:List (TV B.D),d.length=rs.length/\(cz B c.az o).E=fi 0 d:=by
  unfold cz nI;exact GW F
 obtain⟨d,s,l⟩:=l;have y:∀(i:Nat) (m:TV B.D) (v:Value),d[i]?=c3 m->j[i]?=c3 v->VR f (av B (cz B c.az o).H) a (pv B m) v:=λi m v e w=>by
  have C:i<vs.length:=by have:=c9 e;omega
  have n:=S i _ v (c4 C) w;have q:=K i v (by
   rw[Jz,if_pos (e6 _),Nat.sub_zero,c4 C];exact n)
  rw[l] at q;have E:=Dz d 0 i;rw[Nat.zero_add] at E;rw[E,e] at q;exact q
 have U:∃v,(results fn g.tmps).run P a= .ok v a/\VR f (av B (cz B c.az o).H) a (pv B (kR (cz B c.az o).E)) v:=by
  have O:(fn.results.mapM (yR g.tmps)).run P a= .ok j.toArray a:=by
   rw[L,Array.mapM_eq_mapM_toList];simp only[Sem.run_map,J,h6]
  rw[ND,j2,O,h6,l]
  by_cases n:j.length=1
  .obtain⟨x,rfl⟩:=hz.1 n;obtain⟨p,rfl⟩:=hz.1 (show d.length=1 by omega);exact⟨x,rfl,y 0 p x rfl rfl⟩
  .refine⟨.tuple j.toArray,?_,?_⟩
   .rw[Sem.run_pure]
    congr 1
    exact dif_neg (by simpa using n)
   .have:kR (fi 0 d)= .bu d:=by
     match d,s with
     |[],_=>rfl
     |[p],s=>simp at s;omega
     |I::b::W,_=>exact congrArg TV.bu (GN (I::b::W) 0)
    rw[this];refine .bu _ j (by rw[db,ga];omega) λi m v e w=>?_
    rw[db,dt] at e;cases r:d[i]? with
    |none=>rw[r] at e;cases e
    |some p=>
     rw[r] at e;injection e with e
     subst e;exact y i p v r w
 obtain⟨v,V,M⟩:=U;exact⟨v,f,V,N,T,M⟩
end
end Go.X
namespace Go.X.T
open Go Go.Aml Go.Bml Go.X Go.RowKit Go.Proofs
attribute [local go_sem] hB
def ai5(m:Nat)(hm:2<=m)(l b off b2 off2 sb so cap N:Nat)(ad:Option Addr)(hN:N*2<=140737488355328)(J:Nat->World->Prop)
 (hr:∀k W,J k W->W.cell? ⟨b,off,dT⟩=c3 (.slice ad (N*2) cap)/\W.cell? ⟨b2,off2,dT⟩=c3 (.int .i64 2)/\N*2<=cap/\(0<N->ad=c3 ⟨sb,so,dT⟩))
 (hJb:∀k W W',J k W->Below W.heap.size W W'->J k W')
 (hy:∀k W,k<N->J k W->YieldAt c6 (m -1) c7 l #[.slice (c3 ⟨sb,so+k*2,dT⟩) 2 2] W λe W'=>e= .returned (.bool true)/\J (k+1) W') (W:World) (h0:J 0 W):
 CallsIn c6 m c7 139 #[.func (.yield l) #[] #[],.pointer (c3 ⟨b,off,dT⟩),.pointer (c3 ⟨b2,off2,dT⟩)] W λe W'=>(∃v,e= .returned v)/\J N W':=by
 have h139:c6.fn 139:=trivial;refine callsIn_of_wp Tryz.func139 rfl h139 ?_ rfl
 have hc0:=(hr 0 W h0).1;simp only[Tryz.ntmps139,h7,eo,hD,Nat.reduceAdd,Nat.reduceSub,fe,ft,h8,gv,hI,h9]
 gi_wp2
 gi_loopw [4] (λvi (wr:World)=>∃k:Nat,vi= .int .i64 ((k*2:Nat):Int)/\k<=N/\J k wr) (λvi _=>match vi with | .int _ k=>N*2 -k.toNat |_=>0)
 case atStart=>exact⟨0,rfl,e6 _,h0⟩
 case round=>
  obtain⟨k,rfl,hk,hJ⟩:=hrel;obtain⟨hc,hc2,hcap,had⟩:=hr k _ hJ
  by_cases hlt:k<N
  .obtain rfl:=had (by omega);have hb0:(0:Int)<=(k:Int)*2:=by omega
   have hb1:(k:Int)*2+2<=(N:Int)*2:=by omega
   have hb2:(N:Int)*2<=(cap:Int):=by omega
   gi_wp2
   gi_region
   have hJ2:=hJb k wr wr.drew hJ (k6 _ _).drew;obtain⟨hcd,hcd2,_,_⟩:=hr k _ hJ2;obtain⟨fn,tmps,assign,body,hyy,hR⟩:=hy k _ hlt hJ2
   gi_wp2
   have e2:k*2+2 -k*2=2:=by omega
   try simp only[e2]
   refine⟨λh=>by simp[c6] at h,hR.mono ?_⟩
   rintro e W3 ⟨rfl,hJ3⟩;obtain⟨_,hc3,_,_⟩:=hr (k+1) _ hJ3
   gi_wp2
   go_roundw
   case rel=>exact⟨k+1,congrArg (hS .i64) (by omega),by omega,hJ3⟩
   case measure=>
    show N*2 - ((k:Int)*2+2).toNat<N*2 - ((k:Int)*2).toNat
    omega
  .have:k=N:=by omega
   subst this
   gi_wp2
   go_end0
   exact⟨⟨_,rfl⟩,hJ⟩
end Go.X.T
