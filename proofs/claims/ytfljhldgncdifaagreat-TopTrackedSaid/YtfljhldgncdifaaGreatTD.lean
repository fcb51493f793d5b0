/- For TopTracked, part 4. -/
import Derived.Test.YtfljhldgncdifaaGreatTC
import Derived.Lib.SliceRun
import Derived.Laws.Entries
import Derived.RangeFuncNested
import Derived.RangeFuncBound
import Derived.RangeFuncCalls
import Derived.RangeFuncLeaves
import Derived.RangeFuncBox
import Derived.WalkKit
import Derived.OwnWalkIn
import Derived.TacticsInMore
import Derived.LoopNIn
import Derived.LoopIn
import Derived.Stop.RegionWithIn
import Derived.BigRegionIn
set_option linter.defProp false
set_option linter.unusedVariables false
set_option linter.unusedSimpArgs false
set_option maxHeartbeats 0
set_option maxRecDepth 100000
set_option maxHeartbeats 2000000
open Option renaming some → c3, none → dT
open List renaming getElem?_eq_getElem → c4, eq_nil_of_length_eq_zero → dk, getElem?_map → dt, getD_eq_getElem?_getD → ee, not_mem_nil → ef, getElem?_eq_some_iff → ei, length_cons → eo, all_eq_true → ev, mem_cons → ez, mem_cons_of_mem → eH, length_map → ga, map_eq_nil_iff → gb, append_toArray → gv, mem_singleton → gy, mem_cons_self → h5, size_toArray → h7, push_toArray → h8, cons_append → h9, mem_map → hq, length_eq_one_iff → hz, length_nil → hD, nil_append → hI, getElem?_range → hL, all_cons → hM, getElem?_nil → hP, map_cons → hY
open Array renaming getElem?_eq_some_iff → c5, getD_eq_getD_getElem? → dd, getElem?_setIfInBounds_self_of_lt → e5, replicate_succ → fe, replicate_zero → ft, replicate → hU
open Go.Fence renaming wide → c6
open Go.Proofs.Tryz renaming prog → c7, func211 → ih, func102 → j1, func269 → j4, func326 → j5, func96 → j6, func97 → j7, func99 → j8, func98 → j9
open Go.World renaming putObj_heap_other → dv, alloc_heap_new → ec, putObj_heap_same → ej, size_alloc → hQ
open Nat renaming le_of_ble_eq_true → e0, zero_le → e6, beq → ea, ble → eE, le_trans → gx, le_refl → hK, lt_or_ge → j3
open Bool renaming and_eq_true → e4
open Go.RowKit.Below renaming heap_alloc → ey, refl → k6
open Go.Result renaming andThen_ok → h6
open Go.Oper renaming semAt_some → hB, semAt_eq → ie, wp → k7
open Go.Value renaming int → hS
open Option.some renaming inj → hX
open Go.Sem renaming run_bind → j2
open Go.Code renaming region → k0
namespace Go.X
open Go Go.Aml Go.Bml
structure cN (P:Program) (B:Tb) (n:Nat) (e:Ev B.D n):Prop where
 row:∀(m:Nat) (xs:List (B.D m)) (x:B.D n),e.up (.row m xs)=c3 x->e.tv x= .row m xs
 el:∀(x:B.D n) (m:Nat) (xs:List (B.D m)),e.tv x= .row m xs->m=B.el n
 tv:∀(x:B.D n),pv B (e.tv x)=(B.ty n).enc x
 lt:∀(x:B.D n),cE 0 ((B.ty n).enc x)
 up:∀(t:TV B.D) (x:B.D n),e.up t=c3 x->cE 0 (pv B t)/\Cc (pv B t) ((B.ty n).enc x)
 wid:∀(x:B.D n),((B.ty n).enc x).cells.length=B.sz n
 one:∀(x:B.D n),((B.ty n).enc x).cells.all PV.one=true
 pos:0<B.sz n
 xw:∀(x:B.D n) (vs:List PV),(B.ty n).enc x≠ .bu vs
 ic:B.D n->cH P n=c3 (B.sz n)
 flat:∀(x:B.D n),B.flat n=true->∀(j:Nat) (c:PV),((B.ty n).enc x).cells[j]?=c3 c->∀(F F':Nat->Prop) (w w':World) (v:Value),VI F w c v->VI F' w' c v
structure cK (P:Program) (B:Tb) (n:Nat) (e:Ev B.D n):Prop where
 ok:cN P B n e
 leaf:∀x:B.D n,((B.ty n).enc x).cells=[(B.ty n).enc x]
section
variable {P:Program}{B:Tb}
def afw(c:(n:Nat)->Ev B.D n)(b:∀n,B.tv n=(c n).tv)(d:∀n,B.up n=(c n).up)(a:∀n,cN P B n (c n)):cU P B where
 row n m xs x hx:=by rw[b];rw[d] at hx;exact(a n).row m xs x hx
 el n x m xs hx:=by rw[b] at hx;exact(a n).el x m xs hx
 tv n x:=by rw[b];exact(a n).tv x
 lt n x:=(a n).lt x
 up n t x hx:=by rw[d] at hx;exact(a n).up t x hx
 wid n x:=(a n).wid x
 one n x:=(a n).one x
 pos n:=(a n).pos
 xw n x vs:=(a n).xw x vs
 ic n x:=(a n).ic x
 flat n x:=(a n).flat x
def amI{n:Nat}{d:Ev B.D n}(b:B.D n->False)(c:0<B.sz n):cN P B n d:=
 ⟨λ_ _ a _=>(b a).elim,λa=>(b a).elim,λa=>(b a).elim,λa=>(b a).elim,λ_ a _=>(b a).elim,λa=>(b a).elim,λa=>(b a).elim,c,λa=>(b a).elim,λa=>(b a).elim,λa=>(b a).elim⟩
variable {n:Nat}
def vv{c:Ev B.D n}(row:∀(b:Nat) (f:List (B.D b)) (a:B.D n),c.up (.row b f)=c3 a->c.tv a= .row b f)
 (t:∀(a:B.D n) (b:Nat) (f:List (B.D b)),c.tv a= .row b f->b=B.el n)
 (q:∀(a:B.D n),pv B (c.tv a)=(B.ty n).enc a)
 (lt:∀(a:B.D n),cE 0 ((B.ty n).enc a))
 (u:∀(h:TV B.D) (a:B.D n),c.up h=c3 a->cE 0 (pv B h)/\Cc (pv B h) ((B.ty n).enc a))
 (g:∀a:B.D n,((B.ty n).enc a).one=true) (i:B.sz n=1) (m:cH P n=c3 1)
 (s:∀(a:B.D n),B.flat n=true->∀(k r:Nat->Prop) (o x:World) (v:Value),VI k o ((B.ty n).enc a) v->VI r x ((B.ty n).enc a) v):cK P B n c:=by
 have e:∀a:B.D n,((B.ty n).enc a).cells=[(B.ty n).enc a]:=λa=>by
  have:=g a;generalize (B.ty n).enc a=j at this⊢;cases j <;> first |rfl |(simp[PV.one] at this;done)
 refine⟨⟨row,t,q,lt,u,λa=>by rw[e,i];rfl,λa=>by rw[e];simp[g a],by omega,λa vs p=>?_,λ_=>by rw[m,i],λa w l j d=>?_⟩,e⟩
 .have:=g a;rw[p] at this;simp[PV.one] at this
 .rw[e] at d
  match l,d with
  |0,d=>
   simp at d;subst d;exact s a w
def vR{g:IntKind}{d:B.D n=Int}(c:∀a,(B.ty n).enc a= .int g (dA d a))(l:B.sz n=1)(m:cH P n=c3 1):cK P B n (fA B.D g d):=by
 refine vv (λe k a b=>by simp[fA] at b) (λa e k b=>by simp[fA] at b) (λa=>by rw[c];rfl) (λa=>by rw[c];exact .int _ _) (λj a b=>?_) (λa=>by rw[c];rfl) l m (λa _ p s o q v h=>by rw[c] at h⊢;cases h;exact .int _ _)
 rw[c];cases j with
 |int r e=>
  simp only[fA] at b;obtain⟨i,f⟩:=a8 b;injection f with f
  subst f;rw[qh i];simp only[pv];refine⟨.int _ _,?_⟩
  have:dA d (dA d.symm e)=e:=by simp[dA]
  rw[this];exact .refl _
 |_=>simp[fA] at b
def agM{d:B.D n=Bool}(c:∀a,(B.ty n).enc a= .bool (dA d a))(i:B.sz n=1)(j:cH P n=c3 1):cK P B n (nE B.D d):=by
 refine vv (λe g a b=>by simp[nE] at b) (λa e g b=>by simp[nE] at b) (λa=>by rw[c];rfl) (λa=>by rw[c];exact .bool _) (λh a b=>?_) (λa=>by rw[c];rfl) i j (λa _ l o k m v f=>by rw[c] at f⊢;cases f;exact .bool _)
 rw[c];cases h with
 |bool e=>
  simp only[nE] at b;injection b with h2
  subst h2;simp only[pv];refine⟨.bool _,?_⟩
  have:dA d (dA d.symm e)=e:=by simp[dA]
  rw[this];exact .refl _
 |_=>simp[nE] at b
def Lq{d:B.D n=Option Nat}(g:∀b,(B.ty n).enc b=anZ (dA d b))(m:B.sz n=1)(p:cH P n=c3 1):cK P B n (iR B.D d):=by
 have h:∀c,dA d (dA d.symm c)=c:=λc=>by simp[dA]
 have i:∀c,cE 0 (anZ c):=λc=>by
  cases c with
  |none=>exact .dB
  |some f=>exact .fn _ _ _ (by simp) (by simp)
 refine vv (λu j b a=>by simp[iR] at a) (λb u j a=>by simp[iR] at a) (λb=>?_) (λb=>by rw[g];exact i _) (λs b a=>?_) (λb=>?_) m p (λb _ w y x A v e=>?_)
 .rw[g];show pv B (.jC (dA d b))=_
  cases dA d b <;> rfl
 .rw[g];cases s with
  |jC c=>
   simp only[iR] at a;injection a with h2
   subst h2;rw[h];cases c with
   |none=>exact⟨.dB,.refl _⟩
   |some f=>exact⟨i (c3 f),.refl _⟩
  |dB=>
   simp only[iR] at a;injection a with h2
   subst h2;rw[h];exact⟨.dB,.refl _⟩
  |fn f o q=>
   match o,q,a with
   |[],[],a=>
    simp only[iR] at a;injection a with h2
    subst h2;rw[h];exact⟨i (c3 f),.refl _⟩
   |[],_::_,a=>simp[iR] at a
   |_::_,_,a=>simp[iR] at a
  |_=>simp[iR] at a
 .rw[g];cases dA d b <;> rfl
 .rw[g] at e⊢;cases k:dA d b with
  |none=>
   rw[k] at e;cases e
   exact .dB
  |some f=>
   rw[k] at e;cases e with
   |fn _ _ _ j t r e l z=>
    have:j=[]:=dk (by simpa using r.symm);subst this;have:t=[]:=dk (by simpa using l.symm);subst this;exact .fn f [] [] [] [] rfl (by simp) rfl (by simp)
def iA{c:Nat}{e:B.D n=List (B.D c)}(d:∀b,(B.ty n).enc b= .vs (B.sz c) ((dA e b).map (B.ty c).enc))(p:B.sz n=1)(q:cH P n=c3 1)(o:B.el n=c)(l:B.flat n=false):cK P B n (bJ B.D c e):=by
 have f:∀h,dA e (dA e.symm h)=h:=λh=>by simp[dA]
 refine vv (λi j b a=>?_) (λb i j a=>?_) (λb=>by rw[d];rfl) (λb=>by rw[d];exact .vs _ _) (λm b a=>?_) (λb=>by rw[d];rfl) p q (λb k=>by rw[l] at k;cases k)
 .simp only[bJ] at a⊢
  split at a
  .rename_i g;subst g;injection a with a
   subst a;rw[f]
  .cases a
 .simp only[bJ] at a;injection a with h1 h2
  exact h1.symm.trans o.symm
 .rw[d];cases m with
  |row i j=>
   simp only[bJ] at a
   split at a
   .rename_i g;subst g;injection a with a
    subst a;rw[f];exact⟨.vs _ _,.refl _⟩
   .cases a
  |bg=>
   simp only[bJ] at a;injection a with a
   subst a;rw[f];exact⟨.bg,.nil _⟩
  |z0=>
   simp only[bJ] at a;injection a with a
   subst a;rw[f];exact⟨.z0,.z0 _⟩
  |_=>simp[bJ] at a
def alG{f c:Nat}{b:B.D n=List (B.D f)}{k:B.D f=List (B.D c)}(v:∀q,(B.ty f).enc q= .vs (B.sz c) ((dA k q).map (B.ty c).enc))(l:∀e,(B.ty n).enc e= .vs (B.sz f) ((dA b e).map (B.ty f).enc))(t:B.sz n=1)(w:cH P n=c3 1)(D:B.el n=f)(u:B.flat n=false):cK P B n (lx B.D f c b k):=by
 have h:∀p,dA b (dA b.symm p)=p:=λp=>by simp[dA]
 refine vv (λc o e a=>?_) (λe c o a=>?_) (λe=>by rw[l];rfl) (λe=>by rw[l];exact .vs _ _) (λA e a=>?_) (λe=>by rw[l];rfl) t w (λe s=>by rw[u] at s;cases s)
 .simp only[lx,pM] at a⊢
  split at a
  .rename_i j;subst j;injection a with a
   subst a;rw[h]
  .cases a
 .simp only[lx,pM] at a;injection a with h1 k
  exact h1.symm.trans D.symm
 .rw[l];cases A with
  |row c o=>
   simp only[lx,pM] at a
   split at a
   .rename_i j;subst j;injection a with a
    subst a;rw[h];exact⟨.vs _ _,.refl _⟩
   .cases a
  |bg=>
   simp only[lx,pM] at a;injection a with a
   subst a;rw[h];exact⟨.bg,.nil _⟩
  |z0=>
   simp only[lx,pM] at a;injection a with a
   subst a;rw[h];exact⟨.z0,.z0 _⟩
  |rv m d=>
   simp only[lx,pM] at a;obtain⟨E,a⟩:=a8 a;obtain rfl:=beq_eq E
   split at a
   .rename_i g z;injection a with a
    subst a;rw[h];have G:∀(d:List (TV B.D)) (g:List (List (B.D c))),uO B.D c d=c3 g->aP B d=(g.map (dA k.symm)).map (B.ty m).enc:=λd=>by
     induction d with
     |nil=>intro g b;simp only[uO] at b;injection b with b;subst b;rfl
     |cons F d C=>
      intro g b;cases F with
      |row i o=>
       simp only[uO] at b
       split at b
       .rename_i j;subst j
        split at b
        .rename_i r y;injection b with b
         subst b;simp only[aP,hY,C r y]
         congr 1
         rw[v];simp[dA,pv]
        .cases b
       .cases b
      |_=>simp[uO] at b
    have x:pv B (.rv m d)= .vs (B.sz m) (aP B d):=rfl;rw[x,G d g z];exact⟨.vs _ _,.refl _⟩
   .cases a
  |_=>simp[lx,pM] at a
def mJ(B:Tb):(ns:List Nat)->bi B.D ns->List PV
 |[],_=>[]
 |[n],a=>[(B.ty n).enc a]
 |n::b::ns,a=>(B.ty n).enc a.1::mJ B (b::ns) a.2
def Jo:∀(ns:List Nat) (a:bi B.D ns),(mJ B ns a).length=ns.length
 |[],_=>rfl
 |[_],_=>rfl
 |n::b::ns,a=>by simp only[mJ,eo,Jo (b::ns) a.2]
def N3{d:(n:Nat)->Ev B.D n}:∀(ns:List Nat) (a:bi B.D ns),(∀b,b∈ns->cK P B b (d b))->aP B (E6 B.D d ns a)=mJ B ns a
 |[],_,_=>rfl
 |[n],a,c=>by
  exact congrArg (λz=>[z]) ((c n (by simp)).ok.tv a)
 |n::b::ns,a,c=>by
  have h:=(c n (by simp)).ok.tv a.1;have f:=N3 (b::ns) a.2 λg e=>c g (by simp at e⊢;exact .inr e)
  show pv B ((d n).tv a.1)::aP B (E6 B.D d (b::ns) a.2)=(B.ty n).enc a.1::mJ B (b::ns) a.2
  rw[h,f]
def zC{i:(n:Nat)->Ev B.D n}:∀(ns:List Nat) (d:bi B.D ns),(∀b,b∈ns->cK P B b (i b))->∀c,c∈mJ B ns d->∃b,b∈ns/\∃g:B.D b,c=(B.ty b).enc g
 |[],_,_,c,a=>by simp[mJ] at a
 |[n],d,h,c,a=>by
  simp only[mJ,gy] at a;exact⟨n,by simp,d,a⟩
 |n::b::ns,d,h,c,a=>by
  simp only[mJ,ez] at a;rcases a with a |a
  .exact⟨n,by simp,d.1,a⟩
  .obtain⟨f,e,g,j⟩:=zC (b::ns) d.2 (λf e=>h f (by simp at e⊢;exact .inr e)) c a;exact⟨f,by simp at e⊢;exact .inr e,g,j⟩
def Tm{l:(n:Nat)->Ev B.D n}:∀(ns:List Nat) (j:List (TV B.D)) (d:bi B.D ns),(∀h,h∈ns->cK P B h (l h))->Au B.D l ns j=c3 d->
 j.length=ns.length/\(∀f,f∈j->cE 0 (pv B f))/\∀(i:Nat) (e g:PV),(aP B j)[i]?=c3 e->(mJ B ns d)[i]?=c3 g->Cc e g
 |[],[],d,_,_=>⟨rfl,λf k=>(ef k).elim,λi e g a _=>by
  have a:(([]:List PV)[i]?)=c3 e:=a;rw[hP] at a;cases a⟩
 |[n],[f],d,m,c=>by
  obtain⟨p,o⟩:=(m n (gy.2 rfl)).ok.up f d c;refine⟨rfl,λq k=>by rw[gy.1 k];exact p,λi e g a b=>?_⟩
  match i,a,b with
  |0,a,b=>
   have a:c3 (pv B f)=c3 e:=a;have b:c3 ((B.ty n).enc d)=c3 g:=b;injection a with a
   injection b with b
   subst a;subst b;exact o
  |i+1,a,_=>
   have a:(([]:List PV)[i]?)=c3 e:=a;rw[hP] at a;cases a
 |n::h::ns,f::j,d,m,c=>by
  obtain⟨w,r⟩:=aid (show CL ((l n).up f) (Au B.D l (h::ns) j)=c3 d from c);obtain⟨p,o⟩:=(m n h5).ok.up f d.1 w;obtain⟨v,u,x⟩:=Tm (h::ns) j d.2 (λt s=>m t (eH _ s)) r;refine⟨congrArg Nat.succ v,λq k=>?_,λi e g a b=>?_⟩
  .rcases ez.1 k with rfl |k
   .exact p
   .exact u q k
  .match i,a,b with
   |0,a,b=>
    have a:c3 (pv B f)=c3 e:=a;have b:c3 ((B.ty n).enc d.1)=c3 g:=b;injection a with a
    injection b with b
    subst a;subst b;exact o
   |i+1,a,b=>exact x i e g a b
 |[],_::_,_,_,c=>by cases (show(dT:Option (bi B.D []))=c3 _ from c)
 |[n],[],_,_,c=>by cases (show(dT:Option (bi B.D [n]))=c3 _ from c)
 |[n],_::_::_,_,_,c=>by cases (show(dT:Option (bi B.D [n]))=c3 _ from c)
 |n::h::ns,[],_,_,c=>by cases (show(dT:Option (bi B.D (n::h::ns)))=c3 _ from c)
def eS{r:(n:Nat)->Ev B.D n}{m:Type}{ns:List Nat}{mk:bi B.D ns->m}{o:m->bi B.D ns}{j:B.D n=m}(e:∀a,a∈ns->cK P B a (r a))(u:∀c,o (mk c)=c)
 (h:∀d,(B.ty n).enc d= .agg (mJ B ns (o (dA j d)))) (p:B.sz n=ns.length) (N:0<ns.length) (s:cH P n=c3 ns.length) (x:B.flat n=true->∀a,a∈ns->B.flat a=true):cN P B n (cw B.D r ns mk o j):=by
 have y:∀l,dA j (dA j.symm l)=l:=λl=>by simp[dA]
 constructor
 case row=>intro w H d b;simp[cw] at b
 case el=>intro d w H b;simp[cw] at b
 case tv=>
  intro d;rw[h];simp only[cw,pv];rw[N3 ns _ e]
 case lt=>
  intro d;rw[h];refine .agg _ λi f=>?_
  obtain⟨a,g,c,rfl⟩:=zC ns _ e i f;exact(e a g).ok.lt c
 case up=>
  intro k d b;rw[h];cases k with
  |agg A=>
   simp only[cw] at b
   split at b
   .rename_i c G;injection b with b
    subst b;obtain⟨E,z,K⟩:=Tm ns A c e G;rw[y,u];simp only[pv];refine⟨.agg _ λi f=>?_,.agg _ _ ?_ K⟩
    .rw[db] at f;obtain⟨k,J,rfl⟩:=hq.1 f;exact z k J
    .rw[db,ga,Jo,E]
   .cases b
  |_=>simp[cw] at b
 case wid=>
  intro d;rw[h,p];exact Jo _ _
 case one=>
  intro d;rw[h];refine ev.2 λi f=>?_
  obtain⟨a,g,c,rfl⟩:=zC ns _ e i f;have q:=(e a g).ok.one c;rw[(e a g).leaf c] at q;simpa using q
 case pos=>omega
 case xw=>intro d vs b;rw[h] at b;cases b
 case ic=>intro _;rw[s,p]
 case flat=>
  intro d I M i f t F C L v D;rw[h] at f;obtain⟨a,g,c,rfl⟩:=zC ns _ e i (List.mem_of_getElem? f);exact(e a g).ok.flat c (x I a g) 0 _ (by rw[(e a g).leaf c];rfl) t F C L v D
end
def ahP(b:List (Nat×Ty))(n:Nat):(n∈b.map (·.1))\/Br b n=⟨Empty,λ_=>.any⟩:=by
 induction b with
 |nil=>exact .inr rfl
 |cons p b a=>
  simp only[Br,hY,ez];cases c:ea p.1 n with
  |true=>exact .inl (.inl (beq_eq c).symm)
  |false=>rcases a with a |a
          .exact .inl (.inr a)
          .exact .inr a
def P5{e:Type _}:∀(d:List (List e)) (q:Nat) (a:e),a∈px d q->∃b,b∈d/\a∈b
 |[],_,a,c=>by simp[px] at c
 |b::d,0,a,c=>⟨b,by simp,c⟩
 |b::d,q+1,a,c=>let ⟨h,f,g⟩:=P5 d q a c;⟨h,by simp[f],g⟩
def amT(a:List (Nat×xz))(n:Nat)(b:(a.all λp=>Nat.blt 0 p.2.sz)=true):0<(Eu a n).sz:=by
 induction a with
 |nil=>exact Nat.one_pos
 |cons p a c=>
  simp only[hM,e4] at b;simp only[Eu];cases ea p.1 n with
  |true=>exact e0 b.1
  |false=>exact c b.2
def Qa{d:Type _}{f:d->Bool}:∀(a:List (List d)) (q:Nat),(a.all λc=>c.all f)=true->(px a q).all f=true
 |[],_,_=>rfl
 |c::a,0,b=>by simp only[hM,e4] at b;exact b.1
 |c::a,q+1,b=>by simp only[hM,e4] at b;exact Qa a q b.2
def Sp(p:Nat->Prop):List Nat->Prop
 |[]=>True
 |b::a=>p b/\Sp p a
def F2{p:Nat->Prop}:∀(c:List Nat),Sp p c->∀a,a∈c->p a
 |[],_,a,b=>by simp at b
 |e::c,b,a,d=>by
  rcases ez.1 d with rfl |d
  .exact b.1
  .exact F2 c b.2 a d
def e8{c b:List Nat}(d:(c.all λa=>b.contains a)=true):∀a,a∈c->a∈b:=λa e=>by
 have:=ev.1 d a e;simpa using this
end Go.X
namespace Go.X.T
open Go Go.Aml Go.Bml Go.X Go.Proofs
def an3{a:Nat}{d:IntKind}{e:DT a=Int}(g:bh a=fA DT d e)(h:∀c,(BT.ty a).enc c= .int d (dA e c):=by(intro c;rfl))(b:BT.sz a=1:=by rfl)(f:cH c7 a=c3 1:=by kernel_rfl):cK c7 BT a (bh a):=by
 rw[g];exact vR h b f
def amR{a c:Nat}{e:DT a=List (DT c)}(h:bh a=bJ DT c e)(j:∀d,(BT.ty a).enc d= .vs (BT.sz c) ((dA e d).map (BT.ty c).enc):=by(intro d;rfl))(b:BT.sz a=1:=by rfl)(g:cH c7 a=c3 1:=by kernel_rfl)(i:BT.el a=c:=by rfl)(f:BT.flat a=false:=by rfl):cK c7 BT a (bh a):=by
 rw[h];exact iA j b g i f
def amd{a:Nat}(b:bf a=bh a)(c:cK c7 BT a (bh a)):cN c7 BT a (bf a):=by
 rw[b];exact c.ok
def O0:List Nat:=[3,4,5,22,27,28,31,32,33,36,41,44,53,54,62,67,95,107,134,138,159,161,167,168,179,181,247,272,309]
def eY:∀a,a∈O0->cK c7 BT a (bh a):=F2 O0 ⟨an3 (rfl:bh 3=fA DT .i64 rfl),(show cK c7 BT 4 (bh 4) from(show bh 4=nE DT rfl from rfl)▸agM (λ_=>rfl) rfl (by kernel_rfl)),an3 (rfl:bh 5=fA DT .u8 rfl),amR (rfl:bh 22=bJ DT 3 rfl),amR (rfl:bh 27=bJ DT 117 rfl),amR (rfl:bh 28=bJ DT 115 rfl),amR (rfl:bh 31=bJ DT 88 rfl),amR (rfl:bh 32=bJ DT 120 rfl),(show cK c7 BT 33 (bh 33) from(show bh 33=lx DT 22 3 rfl rfl from rfl)▸alG (λ_=>rfl) (λ_=>rfl) rfl (by kernel_rfl) rfl rfl),amR (rfl:bh 36=bJ DT 90 rfl),amR (rfl:bh 41=bJ DT 101 rfl),amR (rfl:bh 44=bJ DT 140 rfl),amR (rfl:bh 53=bJ DT 75 rfl),amR (rfl:bh 54=bJ DT 83 rfl),amR (rfl:bh 62=bJ DT 65 rfl),an3 (rfl:bh 67=fA DT .i64 rfl),amR (rfl:bh 95=bJ DT 5 rfl),amR (rfl:bh 107=bJ DT 97 rfl),(show cK c7 BT 134 (bh 134) from(show bh 134=iR DT rfl from rfl)▸Lq (λ_=>rfl) rfl (by kernel_rfl)),amR (rfl:bh 138=bJ DT 142 rfl),amR (rfl:bh 159=bJ DT 161 rfl),(show cK c7 BT 161 (bh 161) from(show bh 161=iR DT rfl from rfl)▸Lq (λ_=>rfl) rfl (by kernel_rfl)),amR (rfl:bh 167=bJ DT 174 rfl),amR (rfl:bh 168=bJ DT 4 rfl),an3 (rfl:bh 179=fA DT .u64 rfl),an3 (rfl:bh 181=fA DT .u64 rfl),amR (rfl:bh 247=bJ DT 251 rfl),amR (rfl:bh 272=bJ DT 275 rfl),amR (rfl:bh 309=bJ DT 312 rfl),trivial⟩
def alp{a:Nat}{d:Type}{ns:List Nat}{mk:bi DT ns->d}{e:d->bi DT ns}{g:DT a=d}(j:bf a=cw DT bh ns mk e g)(l:∀b,b∈ns->b∈O0:=by exact e8 (by decide))(m:∀f,e (mk f)=f:=by(intro f;rfl))(i:∀c,(BT.ty a).enc c= .agg (mJ BT ns (e (dA g c))):=by(intro c;rfl))(k:BT.sz a=ns.length:=by rfl)(o:0<ns.length:=by decide)(p:cH c7 a=c3 ns.length:=by kernel_rfl)(h:BT.flat a=true->∀b,b∈ns->BT.flat b=true:=by decide):cN c7 BT a (bf a):=by
 rw[j];exact eS (λb n=>eY b (l b n)) m i k o p h
def RH:List Nat:=[3,4,5,22,27,28,30,31,32,33,35,36,38,40,41,43,44,46,48,50,52,53,54,56,60,62,65,67,75,83,88,90,95,97,101,106,107,115,117,120,134,138,140,142,144,159,161,167,168,170,174,179,181,222,230,247,251,272,275,283,309,312,333]
def aqD:∀a,a∈RH->cN c7 BT a (bf a):=F2 RH ⟨amd rfl (eY 3 (by decide)),amd rfl (eY 4 (by decide)),amd rfl (eY 5 (by decide)),amd rfl (eY 22 (by decide)),amd rfl (eY 27 (by decide)),amd rfl (eY 28 (by decide)),alp (rfl:bf 30=cw DT bh [27,28] aof aop rfl),amd rfl (eY 31 (by decide)),amd rfl (eY 32 (by decide)),amd rfl (eY 33 (by decide)),alp (rfl:bf 35=cw DT bh [27,28,3,31,22,32,22,22,33] aow aoG rfl),amd rfl (eY 36 (by decide)),alp (rfl:bf 38=cw DT bh [22,22,22,3] aoM ao3 rfl),alp (rfl:bf 40=cw DT bh [22,3,3] apd ape rfl),amd rfl (eY 41 (by decide)),alp (rfl:bf 43=cw DT bh [22,22] apx apI rfl),amd rfl (eY 44 (by decide)),alp (rfl:bf 46=cw DT bh [44] apL apQ rfl),alp (rfl:bf 48=cw DT bh [3,22] aqd aqm rfl),alp (rfl:bf 50=cw DT bh [22,22,4] aqs aqz rfl),alp (rfl:bf 52=cw DT bh [3,3,3,3] aqB aqN rfl),amd rfl (eY 53 (by decide)),amd rfl (eY 54 (by decide)),alp (rfl:bf 56=cw DT bh [27,28,3,31,22,32,22,22,33,27,28,36,22,22,22,3,22,3,3,41,41,22,22,44,3,22,22,22,4,3,3,3,3,44,53,54] aqO aqP rfl),alp (rfl:bf 60=cw DT bh [27,28,32,22,22,36,22,22,22,3,22,3,3,22] aqR aqS rfl),amd rfl (eY 62 (by decide)),alp (rfl:bf 65=cw DT bh [3,3,3,3] aqU aqV rfl),amd rfl (eY 67 (by decide)),alp (rfl:bf 75=cw DT bh [3,3,3,3,3,4,4,3,3] aqW aqX rfl),alp (rfl:bf 83=cw DT bh [3,3,3,3,3,67,22] aqY aq0 rfl),alp (rfl:bf 88=cw DT bh [3,3,3] aq1 aq2 rfl),alp (rfl:bf 90=cw DT bh [3,3] aq3 aq7 rfl),amd rfl (eY 95 (by decide)),alp (rfl:bf 97=cw DT bh [3,3,95] aq8 aq9 rfl),alp (rfl:bf 101=cw DT bh [3,3,3,22] arb ard rfl),alp (rfl:bf 106=cw DT bh [95,3] are arh rfl),amd rfl (eY 107 (by decide)),alp (rfl:bf 115=cw DT bh [3,3,3,3,4,4,3,3,3,3] ari arj rfl),alp (rfl:bf 117=cw DT bh [3,4] ark arl rfl),alp (rfl:bf 120=cw DT bh [22,3,3,3] arn aro rfl),amd rfl (eY 134 (by decide)),amd rfl (eY 138 (by decide)),alp (rfl:bf 140=cw DT bh [22,138] arq art rfl),alp (rfl:bf 142=cw DT bh [3,22] aru arv rfl),alp (rfl:bf 144=cw DT bh [3,3] arw arx rfl),amd rfl (eY 159 (by decide)),amd rfl (eY 161 (by decide)),amd rfl (eY 167 (by decide)),amd rfl (eY 168 (by decide)),alp (rfl:bf 170=cw DT bh [3,167,168,168] ary arA rfl),alp (rfl:bf 174=cw DT bh [3,3,3,3] arD arF rfl),amd rfl (eY 179 (by decide)),amd rfl (eY 181 (by decide)),alp (rfl:bf 222=cw DT bh [3,3,3] arG arH rfl),alp (rfl:bf 230=cw DT bh [27,28,36,22] arI arL rfl),amd rfl (eY 247 (by decide)),alp (rfl:bf 251=cw DT bh [3,3,3,3] arN arO rfl),amd rfl (eY 272 (by decide)),alp (rfl:bf 275=cw DT bh [3,3] arP arQ rfl),alp (rfl:bf 283=cw DT bh [3,3] arR arS rfl),amd rfl (eY 309 (by decide)),alp (rfl:bf 312=cw DT bh [3,3,3,3] arT arV rfl),alp (rfl:bf 333=cw DT bh [22,3,3,3,3,3,3,22,22,4,44,3,3] arW arX rfl),trivial⟩
def dM:cU c7 BT:=afw bf (λ_=>rfl) (λ_=>rfl) λa=>by
 rcases ahP (px IQ (a/16)) a with b |b
 .refine aqD a ?_
  obtain⟨p,h,rfl⟩:=hq.1 b;obtain⟨d,j,i⟩:=P5 _ _ _ h;have e:p.1∈(IQ.flatten.map λp=>p.1):=hq.2 ⟨p,List.mem_flatten.2 ⟨d,j,i⟩,rfl⟩;exact e
 .have f:Du a=⟨Empty,λ_=>.any⟩:=b;refine amI (λg=>?_) (amT _ _ (Qa _ _ (by decide)))
  have c:(Du a).T:=g;rw[f] at c;exact c.elim
def mixed:c7.follows .mixedOrders=true:=by kernel_rfl
abbrev FT(a:aq BT):Prop:=Fits c7 BT a
def f0:∀a,a∈([]:List (aq BT))->FT a:=λ_ b=>(ef b).elim
def fc{c:aq BT}{d:List (aq BT)}(f:FT c)(e:∀a,a∈d->FT a):∀a,a∈c::d->FT a:=λa b=>by
 rcases ez.1 b with rfl |b
 .exact f
 .exact e a b
def chk(a:aq BT)(fn:Func):Bool:=fn.body.isSome&&!(fn.name== "runtime.NumGoroutine")&&eE a.na fn.ntmps&&gB fn.ntmps (fn.body.getD .skip)&&eE a.low (len a.par.dF)&&lY 0 fn.results.toList.length a.az.dE
def kf{L:Lp}{a:Lp->aq BT}{f:List (aq BT)}(hs:List (Nat×Hn))(m:∀a,a∈f->FT a){fn:Func}(i:c7.funcs[(a L).cO]?=c3 fn)(d:chk (a L) fn=true:=by kernel_rfl)
 (j:∀b,gl L BT c7 f (a L) fn.results.toList (fn.body.getD .skip) hs b=(a L).F b:=by(intro b;kernel_rfl)):FT (a L):=by
 unfold chk at d;rw[e4,e4,e4,e4,e4] at d;obtain⟨⟨⟨⟨⟨g,h⟩,n⟩,e⟩,l⟩,k⟩:=d;obtain⟨code,c⟩:=Option.isSome_iff_exists.1 g;refine FA (L:=L) (hs:=hs) mixed dM m i c (by simpa using h) (rs:=fn.results.toList) rfl n ?_ l k λb=>?_
 .rw[c] at e;exact e
 .have:=j b;rw[c] at this;exact this
end Go.X.T
namespace Go.X
open Go Go.Aml Go.Bml
section
variable {P:Program}{B:Tb}
def ahH{o x:Nat}{k:Env}{h:List aO}{d:Option Nat}{e q s r:TypeId}{p:String}{t:Array Edge}{c:Operand}{sz:Nat}{es:List PV}(D:PE k c= .vs sz es)(F:dU P e=c3 r)(v:fL o d=true):
 Hk P o x ⟨d,.binOp .eql e c (.const (.slice dT 0 0)) q,s,p,t,dT⟩ (λu C=>∃b,(b=true->es=[])/\u=li k d (.bool b)/\C=h) k h:=by
 intro g f j m K J y;have n:=D▸m.e.eval c;have H:∃a i cap,f.eval c= .slice a i cap/\(a.isNone=true->es=[]):=by
  generalize f.eval c=z at n;cases n with
  |aW l=>
   cases l with
   |eX _ a cap=>exact⟨a,0,cap,rfl,λ_=>rfl⟩
   |vs _ _ b E cap=>exact⟨c3 ⟨b,E,dT⟩,_,cap,rfl,λl=>by cases l⟩
 obtain⟨a,i,cap,G,w⟩:=H;have A:(execOp f.eval ⟨d,.binOp .eql e c (.const (.slice dT 0 0)) q,s,p,t,dT⟩).run P j= .ok (.value (.bool a.isNone)) j:=by
  have I:f.eval (.const (.slice dT 0 0))= .slice dT 0 0:=rfl;simp[execOp,G,I,eqGuard_at_slice,Lib.run_eql_slice_nil j e r a i cap 0 0 (gD F)]
 unfold k7;rw[A];exact y _ _ ⟨_,h,g,⟨a.isNone,w,rfl,rfl⟩,⟨m.m,m.e.tn v (.bool _)⟩,GStep.refl _ _ _ _⟩
def lc(q:P.follows .mixedOrders=true)(m:cU P B){L:Lp}{c:aq B}{fn:Func}{o i h:Code}{rs:List ResultVar}{z I V H a:TypeId}{G R:String}{Z Y:Array Edge}{t n:Nat}{xs:bi B.D c.par.bX->List (B.D n)}
 (T:P.funcs[c.cO]?=c3 fn) (M:fn.body=c3 (.seq o (.seq (.seq (.region t [⟨c3 3,.move (.tmp 0),V,G,Z,dT⟩,⟨c3 4,.binOp .eql z (.tmp 3) (.const (.slice dT 0 0)) I,H,R,Y,dT⟩].toArray false) i) h)))
 (E:(fn.name== "runtime.NumGoroutine")=false) (W:fn.results=rs.toArray) (O:eE c.na fn.ntmps=true) (N:lY 0 rs.length c.az.dE=true) (U:c.low=0) (X:dU P z=c3 a) (y:eE 5 fn.ntmps=true)
 (C:gB fn.ntmps o=true) (A:gB fn.ntmps i=true) (Q:gB fn.ntmps h=true)
 (K:∀d,cz B c.par d=⟨[(0,.row n (xs d))],[]⟩)
 (h0:∀d,exec L B P [] 0 [] o 1 (λa e=>bif ea a 0 then c3 e else dT) ⟨[(0,.row n (xs d))],[]⟩=c3 ⟨[(2,.bg),(0,.row n (xs d))],[]⟩)
 (aa:∀d,xs d=[]->exec L B P [] 0 [] i 1 (λa e=>bif ea a 0 then exec L B P [] 0 [] h 1 (kL P c rs) e else kL P c rs a e) ⟨[(4,.bool true),(0,.row n (xs d))],[]⟩=(c.F d).bind c3)
 (D:∀d,exec L B P [] 0 [] i 1 (λa e=>bif ea a 0 then exec L B P [] 0 [] h 1 (kL P c rs) e else kL P c rs a e) ⟨[(4,.bool false),(0,.row n (xs d))],[]⟩=(c.F d).bind c3):Fits P B c:=by
 refine ti m T M E W O N λd k w=>?_
 rw[K,U];have r:∀c,c∈([]:List (aq B))->Fits P B c:=λ_ s=>(ef s).elim
 have y:5<=fn.ntmps:=e0 y;have v:∀j,j<5->fL fn.ntmps (c3 j)=true:=λj f=>by
  exact Nat.ble_eq_true_of_le (show j+1<=fn.ntmps by omega)
 refine rN ((gO q m r o 1 _ _ _ (h0 d) C (e6 _)).mono λa l H1 g=>?_)
 have F:∀a (l:Env) (H1:List aO),qP B (λa e=>bif ea a 0 then exec L B P [] 0 [] h 1 (kL P c rs) e else kL P c rs a e) k a l H1->Ce (eT P fn.ntmps 0 h (qP B (kL P c rs) k)) (qP B (kL P c rs) k) a l H1:=by
  intro a l H1 g;cases a with
  |normal=>
   obtain⟨p,f,rfl,rfl⟩:=g;exact(gO q m r h 1 _ _ _ f Q (e6 _)).mono nP
  |ret=>exact g
  |exit t=>exact g
  |_=>exact g
 cases a with
 |normal=>
  obtain⟨p,_,f,rfl,rfl⟩:=g;injection f with f
  subst f;refine rN (rN (Lc (aae Pt (v 3 (by omega)) (KR rfl (ahH (sz:=B.sz n) (es:=(xs d).map (B.ty n).enc) (by rfl) X (v 4 (by omega))) ?_))))
  rintro ab H2 ⟨b,S,rfl,rfl⟩;refine Of ?_
  refine aht (aU B [(4,.bool b),(0,.row n (xs d))]) ⟨rfl,rfl,trivial⟩ ?_
  have J:exec L B P [] 0 [] i 1 (λa e=>bif ea a 0 then exec L B P [] 0 [] h 1 (kL P c rs) e else kL P c rs a e) ⟨[(4,.bool b),(0,.row n (xs d))],[]⟩=c3 k:=by
   cases b with
   |true=>rw[aa d (gb.1 (S rfl)),w];rfl
   |false=>rw[D d,w];rfl
  exact(gO q m r i 1 _ _ _ J A (e6 _)).mono λa x u s=>F a x u (nP a x u s)
 |ret=>obtain⟨p,_,f,_⟩:=g;cases f
 |exit t=>obtain⟨p,_,f,_⟩:=g;cases f
 |_=>exact g.elim
end
end Go.X
namespace Go.X.T
open Go Go.Aml Go.Bml Go.X Go.Proofs
def oh(L:Lp):FT (RL L):=lc (L:=L) (n:=117) (xs:=λa=>a) (rs:=[.tmp 2]) mixed dM j6 rfl rfl rfl rfl rfl rfl rfl rfl rfl rfl rfl (λ_=>rfl) (λ_=>by kernel_rfl) (λa b=>by cases b;kernel_rfl) (λa=>by kernel_rfl)
def sP(L:Lp):FT (Mq L):=lc (L:=L) (n:=115) (xs:=λa=>a) (rs:=[.tmp 2]) mixed dM j7 rfl rfl rfl rfl rfl rfl rfl rfl rfl rfl rfl (λ_=>rfl) (λ_=>by kernel_rfl) (λa b=>by cases b;kernel_rfl) (λa=>by kernel_rfl)
def Md(L:Lp):FT (Pv L):=lc (L:=L) (n:=88) (xs:=λa=>a) (rs:=[.tmp 2]) mixed dM ih rfl rfl rfl rfl rfl rfl rfl rfl rfl rfl rfl (λ_=>rfl) (λ_=>by kernel_rfl) (λa b=>by cases b;kernel_rfl) (λa=>by kernel_rfl)
def iY(L:Lp):FT (PI L):=lc (L:=L) (n:=3) (xs:=λa=>a) (rs:=[.tmp 2]) mixed dM j8 rfl rfl rfl rfl rfl rfl rfl rfl rfl rfl rfl (λ_=>rfl) (λ_=>by kernel_rfl) (λa b=>by cases b;kernel_rfl) (λa=>by kernel_rfl)
def oH(L:Lp):FT (OB L):=lc (L:=L) (n:=3) (xs:=λa=>a) (rs:=[.tmp 2]) mixed dM j8 rfl rfl rfl rfl rfl rfl rfl rfl rfl rfl rfl (λ_=>rfl) (λ_=>by kernel_rfl) (λa b=>by cases b;kernel_rfl) (λa=>by kernel_rfl)
def O8(L:Lp):FT (C69 L):=lc (L:=L) (n:=88) (xs:=λa=>a) (rs:=[.tmp 2]) mixed dM ih rfl rfl rfl rfl rfl rfl rfl rfl rfl rfl rfl (λ_=>rfl) (λ_=>by kernel_rfl) (λa b=>by cases b;kernel_rfl) (λa=>by kernel_rfl)
def G7(L:Lp):FT (C72 L):=lc (L:=L) (n:=90) (xs:=λa=>a) (rs:=[.tmp 2]) mixed dM j9 rfl rfl rfl rfl rfl rfl rfl rfl rfl rfl rfl (λ_=>rfl) (λ_=>by kernel_rfl) (λa b=>by cases b;kernel_rfl) (λa=>by kernel_rfl)
def IE(L:Lp):FT (C76 L):=lc (L:=L) (n:=75) (xs:=λa=>a) (rs:=[.tmp 2]) mixed dM j1 rfl rfl rfl rfl rfl rfl rfl rfl rfl rfl rfl (λ_=>rfl) (λ_=>by kernel_rfl) (λa b=>by cases b;kernel_rfl) (λa=>by kernel_rfl)
def yo(L:Lp):FT (abt L):=lc (L:=L) (n:=115) (xs:=λa=>a) (rs:=[.tmp 2]) mixed dM j7 rfl rfl rfl rfl rfl rfl rfl rfl rfl rfl rfl (λ_=>rfl) (λ_=>by kernel_rfl) (λa b=>by cases b;kernel_rfl) (λa=>by kernel_rfl)
def akq(L:Lp):FT (aoO L):=lc (L:=L) (n:=117) (xs:=λa=>a) (rs:=[.tmp 2]) mixed dM j6 rfl rfl rfl rfl rfl rfl rfl rfl rfl rfl rfl (λ_=>rfl) (λ_=>by kernel_rfl) (λa b=>by cases b;kernel_rfl) (λa=>by kernel_rfl)
def apm(L:Lp):FT (Vb L):=lc (L:=L) (n:=140) (xs:=λa=>a) (rs:=[.tmp 2]) mixed dM Tryz.func236 rfl rfl rfl rfl rfl rfl rfl rfl rfl rfl rfl (λ_=>rfl) (λ_=>by kernel_rfl) (λa b=>by cases b;kernel_rfl) (λa=>by kernel_rfl)
def anc(L:Lp):FT (afV L):=lc (L:=L) (n:=75) (xs:=λa=>a) (rs:=[.tmp 2]) mixed dM j1 rfl rfl rfl rfl rfl rfl rfl rfl rfl rfl rfl (λ_=>rfl) (λ_=>by kernel_rfl) (λa b=>by cases b;kernel_rfl) (λa=>by kernel_rfl)
def VN(L:Lp):FT (aeW L):=lc (L:=L) (n:=90) (xs:=λa=>a) (rs:=[.tmp 2]) mixed dM j9 rfl rfl rfl rfl rfl rfl rfl rfl rfl rfl rfl (λ_=>rfl) (λ_=>by kernel_rfl) (λa b=>by cases b;kernel_rfl) (λa=>by kernel_rfl)
end Go.X.T
namespace Go.X
open Go Go.Aml Go.Bml Go.RowKit
section
variable {P:Program}{B:Tb}
def PP{h o:Nat}{i:Oper}{b:Act}{d:World}{k j:Act->World->Prop}{l:Exit->Act->World->Prop}(n:∀c,i.op≠ .defer c)(e:∀b d,k b d->j b d)(a:i.wp P b d k l):i.wpIn (c6.inRound h) o P b d j l:=by
 refine⟨λf _=>trivial,?_⟩
 rw[show(c6.inRound h).round=c3 h from rfl,hB h b.eval i n];unfold k7 at a;generalize (execOp b.eval i).run P d=r at a;cases r with
 |ok p u=>
  cases p with
  |value v=>exact e _ _ a
  |skip=>exact e _ _ a
  |defer w=>exact e _ _ a
  |enter f args=>
   refine⟨λa=>by simp[c6] at a,(CallsIn.inRound h (callsIn_wide.2 a)).mono λt m g=>?_⟩
   cases t with
   |returned v=>exact e _ _ g
   |panicked c=>exact g
   |outgrown=>exact g
  |row row args=>
   refine⟨λa=>by simp[c6] at a,λc s _=>?_⟩
   obtain⟨v,m,g,q⟩:=a c s;exact⟨v,m,e _ _ g,stepsIn_wide.2 q⟩
  |_=>exact a.elim
 |halt c u=>
  cases c with
  |panic v=>exact a
  |_=>exact a.elim
def Mn{l n:Nat}{all:Array Oper}{g:Exit->Act->World->Prop}(h:∀c b,¬g .outgrown c b):∀(e:List Oper) (c:Act) (b:World),(∀d,d∈e->∀m,d.op≠ .defer m)->wpList P all g e c b->wpListIn (c6.inRound l) n P all g e c b
 |[],_,_,_,a=>a
 |d::e,c,b,j,a=>by
  unfold wpList at a;unfold wpListIn;have i:=λc b=>Mn (l:=l) (n:=n) (all:=all) h e c b λd p=>j d (eH _ p)
  split at a
  .rename_i f;rw[if_pos f];rcases a with a |⟨_,k,o,a⟩
   .exact PP (j d h5) i a
   .exact(h k o a).elim
  .rename_i f;rw[if_neg f];exact⟨λ_ _=>trivial,i _ _ a⟩
def GStep.lF{n:Nat}{u g:Gh}{H0 H:List aO}{o d w':World}(h:Bml.GStep n u H0 o g H d)(m:bF g H d)(A:w'.os=d.os)(ht:w'.tape=d.tape)(k:w'.output=d.output)(s:d.heap.size<=w'.heap.size)
 (t:∀b,g.F b->w'.heap[b]?=d.heap[b]?) (K:∀r b C,g.β r=c3 (b,C)->w'.heap[b]?=d.heap[b]?) (O:∀b,b<o.heap.size->w'.heap[b]?=d.heap[b]?):Bml.GStep n u H0 o g H w'/\bF g H w':=by
 refine⟨⟨A.trans h.os,ht.trans h.tape,k.trans h.output,gx h.size s,h.F,λb a=>?_,λb a Q=>(O b a).trans (h.rest b a Q),h.oY,h.oZ,h.dF⟩,⟨λb a=>Nat.lt_of_lt_of_le (m.fb b a) s,m.inj,m.m8,λr j k=>?_⟩⟩
 .exact(t b (h.F b a)).trans (h.jh b a)
 .obtain⟨L,D,l⟩:=m.obj r j k;refine⟨L,D,?_⟩
  cases a:g.β r with
  |none=>rw[a] at l;exact l
  |some x=>
   obtain⟨b,C⟩:=x;rw[a] at l;obtain⟨F,cells,G,y,J,R,N⟩:=l;refine⟨F,cells,by rw[K r b C a];exact G,y,J,R,λi w c M=>?_⟩
   obtain⟨E,u1,u2,u3⟩:=N i w c M;exact⟨E,u1,u2,VR.uz (f:=λr v=>∃j,H[r]?=c3 j/\v<=j.aF) (λ_ a=>a) t (λr v j _ k I=>⟨j,k,I,λe=>⟨e,rfl,rfl,rfl⟩⟩) u3 u3.wf⟩
def vy(i:Nat)(P:Program)(j:Nat)(k:Array Value)(f:List Value)(l:World->Prop):Prop:=
 ∀(h:Nat) (c:Nat->World->Prop) (a:World),(∀b a,c b a->l a)->(∀b a d,c b a->Below a.heap.size a d->c b d)->
  (∀b g a,f[b]?=c3 g->c b a->YieldAt c6 (i -1) P h #[g] a λe d=>e= .returned (.bool true)/\c (b+1) d)->
  c 0 a->CallsIn c6 i P j (#[.func (.yield h) #[] #[]]++k) a λe d=>(∃v,e= .returned v)/\c f.length d
def Pq{n:Nat}{g:Operand}{ps:Array Tmp}{assign body:Code}{Q:Exit->Act->World->Prop}{a:Act}{w:World}
 {gf:Nat} {lb:Array Value} (hg:a.eval g= .func (.func gf) #[] lb) (eg:∀args w,(callFunc gf args).run P w= .ok (.enter gf args) w)
 {xs:List Value} {Rd:World->Prop} (hseq:vy (n -1) P gf lb xs Rd) (hps:ps.size=1)
 (I:Nat->World->Prop) (hIr:∀k W,I k W->Rd W)
 (hIp:∀k W r o',I k W->W.heap[w.heap.size+1]?=c3 (.loop r)->o'.isCells=false->I k (W.putObj (w.heap.size+1) o'))
 (hIb:∀k W W',I k W->w.heap.size+2<=W.heap.size->Below W.heap.size W W'->I k W')
 (h0:∀r,I 0 ((w.alloc (.deferred (c3 []))).alloc (.loop r)))
 (Im:Nat->Value->Act->World->Prop)
 (hImp:∀k x a1 W r o',Im k x a1 W->W.heap[w.heap.size+1]?=c3 (.loop r)->o'.isCells=false->Im k x a1 (W.putObj (w.heap.size+1) o'))
 (hassign:∀(l k:Nat) (x:Value) (W:World) (K:Act->World->Prop),xs[k]?=c3 x->I k W->(∀a1 W1,KeepsOthers W W1->Im k x a1 W1->K a1 W1)->
  assign.wpIn (c6.inRound l) (n -1 -1) P (Exit.then K (λ_ _ _=>False)) {tmps:=(ps.zip #[x]).foldl (λt (p,v)=>t.setIfInBounds p v) a.tmps,defers:=[]} W)
 (hbody:∀(l k:Nat) (x:Value) (a1:Act) (W:World),xs[k]?=c3 x->Im k x a1 W->body.wpIn (c6.inRound l) (n -1 -1) P (λe _ W'=>e= .normal/\KeepsOthers W W'/\I (k+1) W') a1 W)
 (hdone:∀(W:World),I xs.length W->W.heap[w.heap.size]?=c3 (.deferred (c3 []))->Q .normal {a with defers:={target:=.collected w.heap.size,args:=#[]}::a.defers} W):
 (Code.rangeFunc g ps assign body).wpIn c6 n P Q a w:=by
 refine wpIn_rangeFunc ?_
 intro fn hfn;obtain⟨rec,hrec⟩:∃rec:LoopState->Option Code->Loop,rec=λst pe=>{state:=st,pending:=pe,fn,tmps:=a.tmps,params:=ps,assign,body,defers:=w.heap.size}:=⟨_,rfl⟩
 obtain⟨W1,hW1⟩:∃W1,(w.alloc (.deferred (c3 []))).alloc (.loop (rec .ready dT))=W1:=⟨_,rfl⟩;have hL1:W1.heap[w.heap.size+1]?=c3 (.loop (rec .ready dT)):=by
  rw[<-hW1];have:=ec (w.alloc (.deferred (c3 []))) (.loop (rec .ready dT));rwa [hQ] at this
 have hK1:W1.heap[w.heap.size]?=c3 (.deferred (c3 [])):=by
  rw[<-hW1];exact(ey _ _ _ (by simp)).trans (ec w _)
 have hI1:I 0 W1:=by rw[<-hW1];exact h0 _
 refine⟨w.heap.size+1,[{target:=.collected w.heap.size,args:=#[]}],W1,{target:=.fn (.func gf) lb,args:=#[.func (.yield (w.heap.size+1)) #[] #[]]},W1,gf,
  #[.func (.yield (w.heap.size+1)) #[] #[]]++lb,W1,?_,?_,λ_ _=>trivial,?_,λh=>by simp[c6] at h,?_⟩
 .rw[<-hW1,hrec];exact run_enterLoop_outer _ _ _ _ _
 .simp only[resolve,hg];simp[go_sem]
 .simp[invoke,go_sem,eg]
 .refine(hseq (w.heap.size+1)
   (λk W=>I k W/\W.heap[w.heap.size+1]?=c3 (.loop (rec .ready dT))/\W.heap[w.heap.size]?=c3 (.deferred (c3 []))) W1
   (λk W h=>hIr k W h.1) (λk W W' h hb=>by
    have h1:=(c5.1 h.2.1).1;exact⟨hIb k W W' h.1 (by omega) hb,(hb.block _ (by omega)).trans h.2.1,(hb.block _ (by omega)).trans h.2.2⟩) ?_ ⟨hI1,hL1,hK1⟩).mono ?_
  .rintro k x W hx ⟨hi,hl,hk⟩;have hlt:w.heap.size+1<W.heap.size:=(c5.1 hl).1;have hy:=run_yield (P:=P) (args:=#[x]) hl (by rw[hrec];simp[hps]);rw[hrec] at hy;refine⟨fn,_,assign,body,hy,roundIn_of_wpIn hfn (hassign _ k x W _ hx hi λa1 Wa hka him=>?_)⟩
   have hla:=hka.same _ _ hl rfl;have hkka:=hka.same _ _ hk rfl;have hlta:w.heap.size+1<Wa.heap.size:=(c5.1 hla).1;refine⟨_,run_beginRound hla (by rw[hrec]),?_⟩
   have hl2:(Wa.putObj (w.heap.size+1) (.loop {rec .ready dT with state:=.busy})).heap[w.heap.size+1]?=c3 (.loop {rec .ready dT with state:=.busy}):=ej hlta;have hk2:(Wa.putObj (w.heap.size+1) (.loop {rec .ready dT with state:=.busy})).heap[w.heap.size]?=c3 (.deferred (c3 [])):=(dv (by omega)).trans hkka;refine wpIn_mono (hbody _ k x a1 _ hx (hImp _ _ _ _ _ _ him hla rfl)) ?_
   rintro e a3 W3 ⟨rfl,hk3,hi3⟩;have hl3:=hk3.same _ _ hl2 rfl;have hr:=run_endRound (P:=P) dT hl3;rw[hrec] at hr;rw[hrec] at hl3;refine⟨_,_,hr,rfl,hIp _ _ _ _ hi3 hl3 rfl,?_,(dv (by omega)).trans (hk3.same _ _ hk2 rfl)⟩
   rw[hrec];exact ej (c5.1 hl3).1
  .rintro e W2 ⟨⟨v,rfl⟩,hi,hl,hk⟩;exact⟨dT,_,by have:=run_endLoop (P:=P) hl (by rw[hrec];simp);rw[hrec] at this;exact this,hdone _ (hIp _ _ _ _ hi hl rfl) ((dv (by omega)).trans hk)⟩
end
section
variable {P:Program}{B:Tb}
structure jV (nl:Nat) (B:Tb) (g2:Gh) (H2:List aO) (w2:World) (W:World) (g:Gh) (H:List (Ob B.D)):Prop where
 m:bF g (av B H) W
 st:Bml.GStep nl g2 H2 w2 g (av B H) W
 sz:w2.heap.size+2<=W.heap.size
 nF:∀b,b=w2.heap.size\/b=w2.heap.size+1->¬g.F b/\∃o,W.heap[b]?=c3 o/\o.isCells=false
def PA{g:Gh}{H:List aO}{c:World}(h:bF g H c){r b a:Nat}(d:g.β r=c3 (b,a)):∃e,c.heap[b]?=c3 e/\e.isCells=true:=by
 have j:=h.m8 r b a d;have f:=(h.obj r _ (c4 j)).mem;rw[d] at f;obtain⟨_,cells,i,_⟩:=f;exact⟨_,i,rfl⟩
section
variable {nl:Nat}{g2:Gh}{H2:List aO}{w2 W:World}{g:Gh}{H:List (Ob B.D)}
def jV.lF(h:jV nl B g2 H2 w2 W g H){l:Nat}{n o':Obj}(s:l=w2.heap.size\/l=w2.heap.size+1)
 (m:W.heap[l]?=c3 n) (u:n.isCells=false) (w:o'.isCells=false):jV nl B g2 H2 w2 (W.putObj l o') g H:=by
 have t:l<W.heap.size:=(c5.1 m).1;have j:∀b,b≠l->(W.putObj l o').heap[b]?=W.heap[b]? :=λb a=>dv (λe=>a e)
 have k:(W.putObj l o').heap.size=W.heap.size:=by simp[World.putObj]
 obtain⟨y,x⟩:=GStep.lF (w':=W.putObj l o') h.st h.m rfl rfl rfl (by rw[k];exact hK _)
  (λb a=>j b λe=>by subst e;exact(h.nF b s).1 a)
  (λr b C a=>j b λe=>by
   subst e;obtain⟨o,c,d⟩:=PA h.m a;rw[m] at c;injection c with c
   rw[<-c,u] at d;cases d)
  (λb a=>j b (by rcases s with e |e <;> omega))
 refine⟨x,y,by rw[k];exact h.sz,λb a=>⟨(h.nF b a).1,?_⟩⟩
 by_cases e:b=l
 .subst e;exact⟨o',ej t,w⟩
 .obtain⟨o,c,d⟩:=(h.nF b a).2;exact⟨o,by rw[j b e];exact c,d⟩
def jV.below(h:jV nl B g2 H2 w2 W g H){d:World}(a:Below W.heap.size W d):jV nl B g2 H2 w2 d g H:=by
 have o:=h.sz;obtain⟨k,j⟩:=GStep.lF (w':=d) h.st h.m a.os a.tape a.output a.size (λb c=>a.block b (h.m.fb b c)) (λr b C c=>a.block b (h.m.qD c)) (λb c=>a.block b (by omega));refine⟨j,k,gx h.sz a.size,λb c=>?_⟩
 obtain⟨n,l,e,m⟩:=h.nF b c;exact⟨n,l,(a.block b (c5.1 e).1).trans e,m⟩
def jV.next(h:jV nl B g2 H2 w2 W g H){k:World}{m:Gh}{H':List (Ob B.D)}(x:bF m (av B H') k)(c:Bml.GStep nl g (av B H) W m (av B H') k):jV nl B g2 H2 w2 k m H'/\KeepsOthers W k:=by
 have n:∀b a,W.heap[b]?=c3 a->a.isCells=false->∀r C,g.β r≠c3 (b,C):=λb a d l r C u=>by
  obtain⟨A,j,s⟩:=PA h.m u;rw[d] at j;injection j with j
  rw[<-j,l] at s;cases s
 refine⟨⟨x,h.st.trans c,gx h.sz c.size,λb w=>?_⟩,c.size,λb a d l=>(c.rest b (c5.1 d).1 (n b a d l)).trans d⟩
 obtain⟨y,a,e,o⟩:=h.nF b w;refine⟨λt=>?_,a,(c.rest b (c5.1 e).1 (n b a e o)).trans e,o⟩
 rcases c.oY b t with h |h |⟨r,C,h⟩
 .exact y h
 .have:=(c5.1 e).1;omega
 .exact n b a e o r C h
def F5(K:cU P B){l n nt t:Nat}{D:List Nat}{d:List Oper}{b:En B.D}{o:Act}{q:Type}{r:q}{k:St B.D->Option q}{Q:Exit->Act->World->Prop}(p:jV nl B g2 H2 w2 W g H)(L:fI g (av B H) W nt (aU B b) o)
 (N:ops B P [] D d (λ_ w=>k w) 0 d [] ⟨b,H⟩=c3 r) (O:∀i,i∈d->fL nt i.dst=true) (A:∀i,i∈d->∀e,i.op≠ .defer e)
 (R:∀m s j u,k m=c3 r->KeepsOthers W j->jV nl B g2 H2 w2 j u m.H->fI u (av B m.H) j nt (aU B m.E) s->Q .normal s j):(k0 t d.toArray false).wpIn (c6.inRound l) n P Q o W:=by
 have F:∀e,e∈([]:List (aq B))->Fits P B e:=λ_ a=>(ef a).elim
 obtain⟨V,f,S,C⟩:=qg K F N;have I:=yW (nt:=nt) (n:=nl) (Q:=λh b H=>h= .normal/\b=aU B f.E/\H=av B f.H) S O ⟨rfl,rfl,rfl⟩;have G:=I g o W ⟨p.m,L⟩ (eI nt nl g (av B H) W λh b H=>h= .normal/\b=aU B f.E/\H=av B f.H) (λ_ _ _ a=>a);have z:=Mn (l:=l) (n:=n) (λo X a=>a) d _ W A G;refine wpIn_mono (wpIn_region_lit z) ?_
 intro h x y c;cases h with
 |normal=>
  obtain⟨U,H3,T,⟨_,rfl,rfl⟩,v,J⟩:=c;obtain⟨M,E⟩:=p.next v.m J;exact R f x y T C E M v.e
 |exit t=>
  obtain⟨_,_,_,⟨a,_⟩,_⟩:=c;cases a
 |ret=>
  obtain⟨_,_,_,⟨a,_⟩,_⟩:=c;cases a
 |goto l=>
  obtain⟨_,_,_,⟨a,_⟩,_⟩:=c;cases a
 |panic e=>exact c.elim
 |outgrown=>exact c.elim
end
def mO(b a:Nat)(d:List (B.D a)):Nat->List (Ob B.D)
 |0=>[⟨1,1,.box b [.bg]⟩]
 |c+1=>[⟨1,1,.box b [.fl 1 1]⟩,⟨1,1,.aap a (d.take (c+1))⟩]
def LY{a:Nat}(d:B.D a->St B.D)(e:B.D a->List (B.D a)->St B.D)(f:List (B.D a))(b:B.D a):Nat->St B.D
 |0=>d b
 |c+1=>e b (f.take (c+1))
def QR(q:Nat):Nat->Option Nat
 |0=>c3 0
 |1=>c3 q
 |_=>dT
def Ku{q i r:Nat}(a:QR q i=c3 r):(i=0/\r=0)\/(i=1/\r=q):=by
 match i,a with
 |0,a=>injection a with a;exact .inl ⟨rfl,a.symm⟩
 |1,a=>injection a with a;exact .inr ⟨rfl,a.symm⟩
def Y5(O:cU P B){g:Gh}{n:World}{F L l a v q:Nat}{j:List (B.D a)}{m:List (Ob B.D)}(h0:nth m 0=c3 ⟨F,1,.box l [.fl q v]⟩)(E:nth m q=c3 ⟨L,v,.aap a j⟩)(U:q≠0)(C:bF g (av B m) n):
 ∃y,bF y (av B [⟨1,1,.box l [.fl 1 1]⟩,⟨1,1,.aap a j⟩]) n/\Bml.GStep 1 g (av B m) n y (av B [⟨1,1,.box l [.fl 1 1]⟩,⟨1,1,.aap a j⟩]) n:=by
 have D:(av B m)[0]?=c3 (⟨l,1,[.agg [.fl q v]],1⟩:aO):=df h0;have eq:(av B m)[q]?=c3 (⟨a,B.sz a,j.map (B.ty a).enc,v⟩:aO):=df E;refine⟨dj g (QR q) (λ_=>False),bF.re C (λ_ e=>e.elim) (λi X r e J=>?_) (λi r e=>?_) (λi w c=>?_),GStep.re λi T Q h=>?_⟩
 .rcases Ku e with⟨s,b⟩ |⟨s,b⟩ <;> rcases Ku J with⟨I,K⟩ |⟨I,K⟩ <;> omega
 .show i<2
  rcases Ku e with⟨s,b⟩ |⟨s,b⟩ <;> omega
 .match i,c with
  |0,c=>
   have c:c3 (⟨l,1,[.agg [.fl 1 1]],1⟩:aO)=c3 w:=c;injection c with c
   subst c;refine⟨Nat.one_pos,λi x d=>?_,(λe=>by cases e),λr f=>?_⟩
   .match i,d with
    |0,d=>injection d with d;subst d;rfl
   .have f:c3 0=c3 r:=f;injection f with f
    subst f;refine⟨⟨l,1,[.agg [.fl q v]],1⟩,D,rfl,rfl,rfl,λi t p k=>?_⟩
    obtain⟨x,d,S⟩:=gw k
    match i,d with
    |0,d=>
     injection d with d
     subst d
     match t,S with
     |0,_=>
      injection k with k
      subst k;refine⟨.fl q v,rfl,λu o=>?_⟩
      cases o with
      |aW e=>cases e
      |fl _ _ T _ h V G N=>
       rw[eq] at h;injection h with h
       subst h;refine .fl 1 1 ⟨a,B.sz a,j.map (B.ty a).enc,1⟩ u rfl (hK _) G λ_=>?_
       have:=N rfl;unfold SL at this⊢;exact this
  |1,c=>
   have c:c3 (⟨a,B.sz a,j.map (B.ty a).enc,1⟩:aO)=c3 w:=c;injection c with c
   subst c;have A:=C.obj q ⟨a,B.sz a,j.map (B.ty a).enc,v⟩ eq;refine⟨A.pos,A.width,(λe=>by cases e),λr f=>?_⟩
   have f:c3 q=c3 r:=f;injection f with f
   subst f;refine⟨⟨a,B.sz a,j.map (B.ty a).enc,v⟩,eq,rfl,rfl,rfl,λi t p k=>⟨p,k,λu o=>?_⟩⟩
   have R:cE 0 p:=nR (λx d=>by
    obtain⟨z,_,rfl⟩:=hq.1 d;exact O.lt a z) k
   exact .aW ((o.dH R).mono (λ_ M=>.inl M) λ_ _=>rfl)
 .match i,Q with
  |0,_=>
   rw[D] at h;injection h with h
   subst h;exact⟨⟨l,1,[.agg [.fl 1 1]],1⟩,rfl,hK _,λ_=>⟨rfl,rfl,rfl⟩⟩
def pA{b:Nat}{fn:Func}{code:Code}(d:P.funcs[b]?=c3 fn)(e:fn.body=c3 code)(c:(fn.name== "runtime.NumGoroutine")=false)(args:Array Value)(a:World):(callFunc b args).run P a= .ok (.enter b args) a:=by
 simp only[callFunc,j2];have f:(program:Sem Program).run P a= .ok P a:=rfl;rw[f];simp only[h6,d];rw[c];simp[e]
def akH{a:List Value}{c t:Nat}(b:a.length<=c):(a.toArray++hU (c -a.toArray.size) undef).getD t undef=a.getD t undef:=by
 rw[dd,ee];rcases j3 t a.length with b |b
 .simp[Array.getElem?_append,b]
 .rw[List.getElem?_eq_none b];rw[Array.getElem?_append_right (by simpa using b)];rcases j3 (t -a.length) (c -a.length) with d |d
  .simp[d]
  .simp[d]
def Ot{g:Gh}{H:List (Ob B.D)}{c:En B.D}{b:World}{a:List Value}{nt:Nat}(f:bF g (av B H) b)(d:a.length<=nt)(e:∀t,VR g (av B H) b (pv B (lk c t)) (a.getD t undef)):
 Rel g nt (aU B c) (av B H) {tmps:=a.toArray++hU (nt -a.toArray.size) undef,defers:=[]} b:=by
 refine⟨f,rfl,?_,λt=>?_⟩
 .simp;omega
 .rw[ep];have:=akH (t:=t) d;rw[this];exact e t
def O9(aT:P.follows .mixedOrders=true)(Q:cU P B){L:Lp}{c:aq B}{fn:Func}{ak ag:Code}{cn bt b2:Nat}{K J:List Oper}{n t gf by_:Nat}{aY cq:TypeId}{aZ bq:String}{bd bN:Array Edge}{xs:bi B.D c.par.bX->List (B.D n)}{ac:B.D n->St B.D}{ae:B.D n->List (B.D n)->St B.D}{R0:B.D n->List (B.D n)->List (Ob B.D)}{R1:B.D n->List (B.D n)->List (Ob B.D)}{q0 v0 s0 s0' q1 v1 s1 s1':Nat}
 (ba:P.funcs[c.cO]?=c3 fn) (m:fn.body=c3 (.seq ak (.seq (.seq ag (.block 0 (.rangeFunc (.tmp 6) #[7] (.region cn K.toArray false) (.block 1 (.region bt J.toArray false)))))
  (.seq (.region b2 [⟨c3 12,.load t (.tmp 2),aY,aZ,bd,dT⟩,⟨c3 4,.assign (.tmp 12),cq,bq,bN,dT⟩].toArray false) .ret))))
 (bD:(fn.name== "runtime.NumGoroutine")=false) (bO:fn.results=#[.tmp 4]) (cy:c.na=2) (aP:eE 13 fn.ntmps=true) (cd:c.low=0) (bJ:dP P t=c3 false) (bv:1<=by_)
 (bk:gB fn.ntmps ak=true) (cf:gB fn.ntmps ag=true) (be:∀u,u∈K->fL fn.ntmps u.dst=true) (bK:∀u,u∈K->∀c,u.op≠ .defer c) (bM:∀u,u∈J->fL fn.ntmps u.dst=true) (bW:∀u,u∈J->∀c,u.op≠ .defer c)
 (b5:∀x,cz B c.par x=⟨[(0,.bg),(1,.fn gf [] [.vp [.row n (xs x)] 0])],[]⟩)
 (bY:∀x,∃az,exec L B P [] 0 [] ak 1 (λC l=>bif ea C 0 then c3 l else dT) ⟨[(0,.bg),(1,.fn gf [] [.vp [.row n (xs x)] 0])],[]⟩=c3 ⟨az,[⟨1,1,.box t [.bg]⟩]⟩/\
  ∃aj,exec L B P [] 0 [] ag 1 (λC l=>bif ea C 0 then c3 l else dT) ⟨az,[⟨1,1,.box t [.bg]⟩]⟩=c3 ⟨aj,[⟨1,1,.box t [.bg]⟩]⟩/\lk aj 6= .fn gf [] [.vp [.row n (xs x)] 0]/\lk aj 2= .ptr 0 1 0 0)
 (ck:∀args w,(callFunc gf args).run P w= .ok (.enter gf args) w)
 (cp:∀ao (aD:Nat->Prop) (w:World) (pv:Value) (h:List (B.D n)),2<=ao->h.length<=140737488355328->VI aD w (.dw [.vs (B.sz n) (h.map (B.ty n).enc)] 0) pv->∃G:List Value,G.length=h.length/\(∀(i:Nat) (e:B.D n) (v:Value),h[i]?=c3 e->G[i]?=c3 v->VI aD w ((B.ty n).enc e) v)/\
  vy ao P gf #[pv] G (λW=>∀b,aD b->W.heap[b]?=w.heap[b]?))
 (br:∀e:B.D n,ops B P [] [2] K (λ_ l=>c3 l) 0 K [] ⟨[(7,B.tv n e),(2,.ptr 0 1 0 0)],[⟨1,1,.box t [.bg]⟩]⟩=c3 (ac e))
 (bx:∀(e:B.D n) (h:List (B.D n)),ops B P [] [2] K (λ_ l=>c3 l) 0 K [] ⟨[(7,B.tv n e),(2,.ptr 0 1 0 0)],[⟨1,1,.box t [.fl 1 1]⟩,⟨1,1,.aap n h⟩]⟩=c3 (ae e h))
 (aK:∀(e:B.D n),ops B P [] [2] J (λ_ l=>c3 l.H) 0 J [] (ac e)=(bj by_ [] [e]).bind λI=>c3 (R0 e I))
 (cc:∀(e:B.D n) (h:List (B.D n)),ops B P [] [2] J (λ_ l=>c3 l.H) 0 J [] (ae e h)=(bj by_ h [e]).bind λI=>c3 (R1 e I))
 (ch:∀e I,nth (R0 e I) 0=c3 ⟨s0,1,.box t [.fl q0 v0]⟩/\nth (R0 e I) q0=c3 ⟨s0',v0,.aap n I⟩/\q0≠0)
 (b3:∀e I,nth (R1 e I) 0=c3 ⟨s1,1,.box t [.fl q1 v1]⟩/\nth (R1 e I) q1=c3 ⟨s1',v1,.aap n I⟩/\q1≠0)
 (ay:∀x r,c.F x=c3 r->(xs x).length*by_<=140737488355328/\(cz B c.az r)=⟨[(0,.fl 0 0)],[⟨0,0,.aap n (xs x)⟩]⟩/\take B 0 c.az ⟨[(0,.fl 1 1)],[⟨1,1,.box t [.fl 1 1]⟩,⟨1,1,.aap n (xs x)⟩]⟩ c3=c3 r/\(xs x=[]->take B 0 c.az ⟨[(0,.bg)],[⟨1,1,.box t [.bg]⟩]⟩ c3=c3 r)):Fits P B c:=by
 have aP:13<=fn.ntmps:=e0 aP;have a9:∀c,c∈([]:List (aq B))->Fits P B c:=λ_ s=>(ef s).elim
 refine⟨pA ba m bD,λx r bs g w ca cA aR aO=>?_⟩
 obtain⟨a0,bX,b4,cg⟩:=ay x r bs;rw[b5] at aR aO⊢;rw[cd];obtain⟨az,bo,aj,bh,b6,bE⟩:=bY x;generalize cB:xs x=h at*;have bB:=Ot aR (by omega:ca.length<=fn.ntmps) aO;refine(callsIn_wide (n:=10)).1 (callsIn_of_wp_marks ba m trivial ?_ rfl)
 refine wpIn_seq (wpIn_wide.2 (gO aT Q a9 ak 1 _ _ _ bo bk (e6 _) g _ w bB _ λC aa cj N=>?_))
 cases C with
 |normal=>
  obtain⟨_,_,bQ,⟨cF,_,aJ,rfl,rfl⟩,ce,bC⟩:=N;injection aJ with aJ
  subst aJ;refine wpIn_seq (wpIn_seq (wpIn_wide.2 (gO aT Q a9 ag 1 _ _ _ bh cf (e6 _) bQ aa cj ce _ λC y w2 N=>?_)))
  cases C with
  |normal=>
   obtain⟨_,_,g2,⟨cw,_,aB,rfl,rfl⟩,O,bl⟩:=N;injection aB with aB
   subst aB;have a2:=O.e.defers;have a1:=O.e.size;have ad:=O.e.at_ 6;rw[ep,b6] at ad;have bZ:∃pv,y.tmps.getD 6 undef= .func (.func gf) #[] #[pv]/\VI g2.F w2 (.dw [.vs (B.sz n) (h.map (B.ty n).enc)] 0) pv:=by
    generalize y.tmps.getD 6 undef=z at ad;have ad:VR g2 _ w2 (.fn gf [] [.dw [.vs (B.sz n) (h.map (B.ty n).enc)] 0]) z:=ad;cases ad with
    |aW s=>
     cases s with
     |fn _ _ _ bm vs A _ o aM=>
      obtain rfl:=dk A.symm
      match vs,o with
      |[pv],_=>exact⟨pv,rfl,aM 0 _ pv rfl rfl⟩
    |fn _ _ _ bm vs A _ o aM=>
     obtain rfl:=dk A.symm
     match vs,o with
     |[pv],_=>
      refine⟨pv,rfl,?_⟩
      have:=aM 0 _ pv rfl rfl;cases this with
      |aW s=>exact s
   obtain⟨bL,b8,bF⟩:=bZ;obtain⟨G,co,bR,b0⟩:=cp 9 g2.F w2 bL h (by omega) (gx (Nat.le_mul_of_pos_right _ bv) a0) bF;have ar:=O.e.at_ 2;rw[ep,bE] at ar;refine wpIn_block (Pq (n:=10) (xs:=G) (a:=y) (w:=w2) b8 ck b0 rfl
    (λk W=>∃g,jV 1 B g2 (av B [⟨1,1,.box t [.bg]⟩]) w2 W g (mO t n h k))
    (λk W s=> ?rd) (λk W r o' s R aA=> ?put) (λk W aI s cu b7=> ?below) (λZ=> ?start)
    (λk v aa W=>∃(e:B.D n) (l:St B.D) (g:Gh),h[k]?=c3 e/\l=LY ac ae h e k/\jV 1 B g2 (av B [⟨1,1,.box t [.bg]⟩]) w2 W g l.H/\fI g (av B l.H) W fn.ntmps (aU B l.E) aa)
    (λk x aa W r o' s R aA=> ?mput) (λbH k v W aw aF D X=> ?assign) (λbH k v aa W aF D=> ?body) (λW D aQ=> ?done))
   case rd=>
    obtain⟨g,s⟩:=s;exact s.st.jh
   case put=>
    obtain⟨g,s⟩:=s;exact⟨g,s.lF (.inr rfl) R rfl aA⟩
   case below=>
    obtain⟨g,s⟩:=s;exact⟨g,s.below b7⟩
   case start=>
    refine⟨g2,?_⟩
    have cG:((w2.alloc (.deferred (c3 []))).alloc (.loop Z)).heap.size=w2.heap.size+2:=by simp
    have au:∀b,b<w2.heap.size->((w2.alloc (.deferred (c3 []))).alloc (.loop Z)).heap[b]?=w2.heap[b]? :=λb m=>(ey _ _ b (by simp;omega)).trans (ey _ _ b m)
    obtain⟨s1,cs⟩:=GStep.lF (w':=(w2.alloc (.deferred (c3 []))).alloc (.loop Z)) (GStep.refl 1 g2 (av B [⟨1,1,.box t [.bg]⟩]) w2) O.m rfl rfl rfl (by omega) (λb m=>au b (O.m.fb b m)) (λr b cE m=>au b (O.m.qD m)) au;refine⟨cs,s1,by omega,λb m=>⟨λay=>?_,?_⟩⟩
    .have:=O.m.fb b ay;omega
    .rcases m with rfl |rfl
     .exact⟨.deferred (c3 []),(ey (w2.alloc (.deferred (c3 []))) _ w2.heap.size (by simp)).trans (ec w2 _),rfl⟩
     .refine⟨.loop Z,?_,rfl⟩
      have:=ec (w2.alloc (.deferred (c3 []))) (.loop Z)
      rwa [hQ] at this
   case mput=>
    obtain⟨e,l,g,A,o,ab,aC⟩:=s;have ai:=ab.lF (o':=o') (.inr rfl) R rfl aA;refine⟨e,l,g,A,o,ai,aC.defers,aC.size,λq=>?_⟩
    have a8:=aC.at_ q;exact VR.uz (f:=λr v=>∃u,(av B l.H)[r]?=c3 u/\v<=u.aF) (λ_ m=>m) (λb m=>dv (λC=>by subst C;exact(ab.nF _ (.inr rfl)).1 m)) (λr v u _ R am=>⟨u,R,am,λC=>⟨C,rfl,rfl,rfl⟩⟩) a8 a8.wf
   case assign=>
    obtain⟨U,D⟩:=D;have F:k<h.length:=by
     have:=(ei.1 aF).1;omega
    obtain⟨e,S⟩:∃e,h[k]?=c3 e:=⟨_,c4 F⟩;have ci:=bR k _ v S aF;have bU:((#[7]:Array Nat).zip #[v]).foldl (λt (p,v)=>t.setIfInBounds p v) y.tmps=y.tmps.setIfInBounds 7 v:=by simp
    rw[bU];have b1:fI U (av B (mO t n h k)) W fn.ntmps (aU B [(7,B.tv n e),(2,.ptr 0 1 0 0)]) {tmps:=y.tmps.setIfInBounds 7 v,defers:=[]}:=by
     refine⟨rfl,by simp;exact a1,λq=>?_⟩
     rw[ep]
     by_cases a6:q=7
     .subst a6;have Y:(lk [(7,B.tv n e),(2,.ptr 0 1 0 0)] 7:TV B.D)=B.tv n e:=rfl;have ax:(y.tmps.setIfInBounds 7 v).getD 7 undef=v:=by
       rw[dd,e5 (by omega)]
       rfl
      rw[Y,ax,Q.tv];exact .aW (ci.mono D.st.F D.st.jh)
     .by_cases o:q=2
      .subst o;have Y:(lk [(7,B.tv n e),(2,.ptr 0 1 0 0)] 2:TV B.D)= .ptr 0 1 0 0:=rfl;have ax:(y.tmps.setIfInBounds 7 v).getD 2 undef=y.tmps.getD 2 undef:=by
        rw[dd,dd,Array.getElem?_setIfInBounds_ne (by omega)]
       rw[Y,ax];exact ar.step D.st (.ptr 0 1 0 0 (by omega))
      .have Y:(lk [(7,B.tv n e),(2,.ptr 0 1 0 0)] q:TV B.D)= .any:=by
        have bn:ea 7 q=false:=by cases m:ea 7 q with |false=>rfl |true=>exact absurd (beq_eq m).symm a6
        have ap:ea 2 q=false:=by cases m:ea 2 q with |false=>rfl |true=>exact absurd (beq_eq m).symm o
        simp only[lk,bn,ap,cond_false]
       rw[Y];exact .aW (.any _)
    have aG:ops B P [] [2] K (λ_ l=>c3 l) 0 K [] ⟨[(7,B.tv n e),(2,.ptr 0 1 0 0)],mO t n h k⟩=c3 (LY ac ae h e k):=by
     cases k with
     |zero=>exact br _
     |succ k=>exact bx _ _
    exact F5 Q (k:=c3) D b1 aG be bK λbV a4 aI a5 T A o ab=>X a4 aI A ⟨e,_,a5,S,(hX T),o,ab⟩
   case body=>
    obtain⟨e,l,U,S,T,bA,cb⟩:=D;have F:k<h.length:=(ei.1 S).1;have aV:h[k]=e:=by
     rw[c4 F] at S;injection S
    have aN:(k+1)*by_<=140737488355328:=gx (Nat.mul_le_mul_right _ F) a0;have a3:h.take k++[h[k]]=h.take (k+1):=(List.take_succ_eq_append_getElem F).symm;have aG:∃ah,ops B P [] [2] J (λ_ l=>c3 l.H) 0 J [] l=c3 ah/\∃V aX v q,nth ah 0=c3 ⟨V,1,.box t [.fl q v]⟩/\nth ah q=c3 ⟨aX,v,.aap n (h.take (k+1))⟩/\q≠0:=by
     cases k with
     |zero=>
      have al:bj by_ [] [e]=c3 (h.take 1):=by
       unfold bj;rw[if_pos (by simpa using aN)];exact congrArg c3 (by rw[<-a3,aV];rfl)
      have A:=aK e;rw[al, <-show l=ac e from T] at A;have o:=ch e (h.take 1);exact⟨_,A,s0,s0',v0,q0,o.1,o.2.1,o.2.2⟩
     |succ k=>
      have al:bj by_ (h.take (k+1)) [e]=c3 (h.take (k+1+1)):=by
       unfold bj;rw[if_pos (by rw[List.length_take,Nat.min_eq_left (by omega)];exact aN)];exact congrArg c3 (by rw[<-a3,aV])
      have A:=cc e (h.take (k+1));rw[al, <-show l=ae e (h.take (k+1)) from T] at A;have o:=b3 e (h.take (k+1+1));exact⟨_,A,s1,s1',v1,q1,o.1,o.2.1,o.2.2⟩
    obtain⟨ah,cr,V,aX,cC,q,aS,bc,bw⟩:=aG;refine wpIn_block (F5 Q (k:=λl=>c3 l.H) bA cb cr bM bW λbV a4 aI a5 T A o ab=>?_)
    rw[<-hX T] at aS bc;obtain⟨aH,aL,an⟩:=Y5 Q aS bc bw o.m;obtain⟨b9,cD⟩:=o.next (H':=mO t n h (k+1)) aL an;exact⟨rfl,A,aH,b9⟩
   case done=>
    obtain⟨U,D⟩:=D;obtain⟨M,af⟩:∃M:Act,M={y with defers:={target:=.collected w2.heap.size,args:=#[]}::y.defers}:=⟨_,rfl⟩;rw[<-af];have ct:M.eval=y.eval:=by rw[af];rfl
    have cl:∃cv V,nth (mO t n h G.length) 0=c3 ⟨V,1,.box t [cv]⟩/\take B 0 c.az ⟨[(0,cv)],mO t n h G.length⟩ c3=c3 r:=by
     rw[co];cases bb:h.length with
     |zero=>exact⟨.bg,1,rfl,cg (dk bb)⟩
     |succ ao=>
      simp only[mO];rw[<-bb,List.take_length];exact⟨.fl 1 1,1,rfl,b4⟩
    obtain⟨cv,V,aK,bI⟩:=cl;have bP:Rel U fn.ntmps [(2,.ptr 0 1 0 0)] (av B (mO t n h G.length)) y W:=by
     refine⟨D.m,a2,a1,λq=>?_⟩
     by_cases o:q=2
     .subst o;exact ar.step D.st (.ptr 0 1 0 0 (by omega))
     .have ap:ea 2 q=false:=by cases m:ea 2 q with |false=>rfl |true=>exact absurd (beq_eq m).symm o
      have:Bml.look [(2,PV.ptr 0 1 0 0)] q=PV.any:=by simp only[Bml.look,ap,cond_false]
      rw[this];exact .aW (.any _)
    obtain⟨v,bS,a7⟩:=AT (P:=P) (d:=c3 12) (ty:=aY) (pos:=aZ) (aft:=bd) (gd:=dT) (t:=t) (x:=.tmp 2) (E:=[(2,.ptr 0 1 0 0)]) (H:=av B (mO t n h G.length)) (r:=0) (v:=1) (i:=0) (j:=0) (c:=pv B cv) rfl (df aK) rfl bJ rfl U fn.ntmps y W bP;refine wpIn_seq (wpIn_region_lit (wpListIn_plain rfl λaw X=>⟨λf _=>trivial,?_⟩))
    rw[ie _ _ _ (λc s=>by cases s),ct,bS];refine X _ _ (wpListIn_plain rfl λaw X=>⟨λf _=>trivial,?_⟩)
    rw[ie _ _ _ (λc s=>by cases s)];have bf:(M.put (c3 12) v).eval (.tmp 12)=v:=by
     rw[af];show((y.tmps.setIfInBounds 12 v).getD 12 undef)=v
     rw[dd,e5 (by omega)]
     rfl
    show aw ((M.put (c3 12) v).put (c3 4) ((M.put (c3 12) v).eval (.tmp 12))) W
    rw[bf];refine X _ _ (wpListIn_nil (wpIn_ret ?_))
    have bz:((M.put (c3 12) v).put (c3 4) v).defers=[{target:=.collected w2.heap.size,args:=#[]}]:=by
     rw[af];show _::y.defers=_
     rw[a2]
    have bT:(((M.put (c3 12) v).put (c3 4) v).tmps).getD 4 undef=v:=by
     rw[af];show((y.tmps.setIfInBounds 12 v).setIfInBounds 4 v).getD 4 undef=v
     rw[dd,e5 (by simp;omega)]
     rfl
    show LeavesInM _ _ _ _ _ _ ((M.put (c3 12) v).put (c3 4) v).defers .returning W
    rw[bz];refine⟨by simp,.inl ⟨_,_,rfl,run_takeDeferred aQ,?_⟩⟩
    refine⟨v,by rw[results_tmp bO,bT],v,?_⟩
    have ai:=D.lF (o':=.deferred dT) (.inl rfl) aQ rfl rfl;have bp:VR U (av B (mO t n h G.length)) (W.putObj w2.heap.size (.deferred dT)) (pv B cv) v:=VR.uz (f:=λr v=>∃u,(av B (mO t n h G.length))[r]?=c3 u/\v<=u.aF) (λ_ m=>m) (λb m=>dv (λC=>by subst C;exact(D.nF _ (.inl rfl)).1 m)) (λr v u _ R am=>⟨u,R,am,λC=>⟨C,rfl,rfl,rfl⟩⟩) a7 a7.wf;obtain⟨cx,aE,aH,aL,an,cm⟩:=EK Q bI ai.m;injection aE with aE
    subst aE;refine⟨aH,rfl,aL,((bC.trans bl).trans (ai.st.less (e6 _))).trans an,?_⟩
    have:=cm 0 v bp;rw[bX] at this⊢;exact this
  |_=>first |exact N.elim |(obtain⟨_,_,_,⟨_,_,F,_⟩,_⟩:=N;cases F) |(obtain⟨_,_,_,F,_⟩:=N;exact F.elim)
 |_=>first |exact N.elim |(obtain⟨_,_,_,⟨_,_,F,_⟩,_⟩:=N;cases F) |(obtain⟨_,_,_,F,_⟩:=N;exact F.elim)
end
end Go.X
namespace Go.X.T
open Go Go.Aml Go.Bml Go.X Go.RowKit Go.Proofs
attribute [local go_sem] hB
def an0(m:Nat)(hm:2<=m)(l b off sb so cap N:Nat)(ad:Option Addr)(hN:N<=140737488355328)(val:Nat->Int)(J:Nat->World->Prop)
 (hr:∀k W,J k W->W.cell? ⟨b,off,dT⟩=c3 (.slice ad N cap)/\∀i:Nat,i<N->ad=c3 ⟨sb,so,dT⟩/\W.cell? ⟨sb,so+i,dT⟩=c3 (.int .i64 (val i)))
 (hy:∀k W,k<N->J k W->YieldAt c6 (m -1) c7 l #[.int .i64 (val k)] W λe W'=>e= .returned (.bool true)/\J (k+1) W') (W:World) (h0:J 0 W):
 CallsIn c6 m c7 269 #[.func (.yield l) #[] #[],.pointer (c3 ⟨b,off,dT⟩)] W λe W'=>(∃v,e= .returned v)/\J N W':=by
 have h269:c6.fn 269:=trivial;refine callsIn_of_wp j4 rfl h269 ?_ rfl
 have hc0:=(hr 0 W h0).1;simp only[Tryz.ntmps269,h7,eo,hD,Nat.reduceAdd,Nat.reduceSub,fe,ft,h8,gv,hI,h9]
 gi_wp2
 gi_loopw [7] (λvi (wr:World)=>∃k:Nat,vi= .int .i64 (k:Int)/\k<=N/\J k wr) (λvi _=>match vi with | .int _ k=>N -k.toNat |_=>0)
 case atStart=>exact⟨0,rfl,e6 _,h0⟩
 case round=>
  obtain⟨k,rfl,hk,hJ⟩:=hrel;obtain⟨hc,he⟩:=hr k _ hJ
  by_cases hlt:k<N
  .obtain⟨rfl,hek⟩:=he k hlt;obtain⟨fn,tmps,assign,body,hyy,hR⟩:=hy k wr hlt hJ
   gi_wp2
   refine⟨λh=>by simp[c6] at h,hR.mono ?_⟩
   rintro e W3 ⟨rfl,hJ3⟩
   gi_wp2
   go_roundw
   case rel=>exact⟨k+1,congrArg (hS .i64) (by omega),by omega,hJ3⟩
   case measure=>
    show N - ((k:Int)+1).toNat<N - (k:Int).toNat
    omega
  .have:k=N:=by omega
   subst this
   gi_wp2
   go_end0
   exact⟨⟨_,rfl⟩,hJ⟩
def akF(m:Nat)(hm:2<=m)(l b off sb so cap N:Nat)(ad:Option Addr)(hN:N<=140737488355328)(pa pb:Nat->Option Addr)(na ca nb cb:Nat->Nat)(J:Nat->World->Prop)
 (hr:∀k W,J k W->W.cell? ⟨b,off,dT⟩=c3 (.slice ad N cap)/\∀i:Nat,i<N->ad=c3 ⟨sb,so,dT⟩/\W.cell? ⟨sb,so+i*2,dT⟩=c3 (.slice (pa i) (na i) (ca i))/\W.cell? ⟨sb,so+i*2+1,dT⟩=c3 (.slice (pb i) (nb i) (cb i)))
 (hJb:∀k W W',J k W->Below W.heap.size W W'->J k W')
 (hy:∀k W,k<N->J k W->YieldAt c6 (m -1) c7 l #[.agg #[.slice (pa k) (na k) (ca k),.slice (pb k) (nb k) (cb k)]] W λe W'=>e= .returned (.bool true)/\J (k+1) W') (W:World) (h0:J 0 W):
 CallsIn c6 m c7 326 #[.func (.yield l) #[] #[],.pointer (c3 ⟨b,off,dT⟩)] W λe W'=>(∃v,e= .returned v)/\J N W':=by
 have h326:c6.fn 326:=trivial;refine callsIn_of_wp j5 rfl h326 ?_ rfl
 have hc0:=(hr 0 W h0).1;simp only[Tryz.ntmps326,h7,eo,hD,Nat.reduceAdd,Nat.reduceSub,fe,ft,h8,gv,hI,h9]
 gi_wp2
 gi_loopw [7] (λvi (wr:World)=>∃k:Nat,vi= .int .i64 (k:Int)/\k<=N/\J k wr) (λvi _=>match vi with | .int _ k=>N -k.toNat |_=>0)
 case atStart=>exact⟨0,rfl,e6 _,h0⟩
 case round=>
  obtain⟨k,rfl,hk,hJ⟩:=hrel;obtain⟨hc,he⟩:=hr k _ hJ
  by_cases hlt:k<N
  .obtain⟨rfl,hek,hek2⟩:=he k hlt;have hJ2:=hJb k wr (wr.alloc (.cells #[.slice (pa k) (na k) (ca k),.slice (pb k) (nb k) (cb k)] 140)) hJ ((k6 _ _).alloc (hK _) _);obtain⟨fn,tmps,assign,body,hyy,hR⟩:=hy k _ hlt hJ2
   gi_wp2
   refine⟨λh=>by simp[c6] at h,hR.mono ?_⟩
   rintro e W3 ⟨rfl,hJ3⟩
   gi_wp2
   go_roundw
   case rel=>exact⟨k+1,congrArg (hS .i64) (by omega),by omega,hJ3⟩
   case measure=>
    show N - ((k:Int)+1).toNat<N - (k:Int).toNat
    omega
  .have:k=N:=by omega
   subst this
   gi_wp2
   go_end0
   exact⟨⟨_,rfl⟩,hJ⟩
def aoU(s:Nat)(g:Nat->Prop)(l:World)(pv:Value)(a:List Int)(R:2<=s)(M:a.length<=140737488355328)(I:VI g l (.dw [.vs 1 (a.map (PV.int .i64))] 0) pv):
 ∃n:List Value,n.length=a.length/\(∀(i:Nat) (p:Int) (v:Value),a[i]?=c3 p->n[i]?=c3 v->VI g l (.int .i64 p) v)/\vy s c7 269 #[pv] n (λd=>∀b,g b->d.heap[b]?=l.heap[b]?):=by
 cases I with
 |dw _ _ b Q x F N Z e=>
  have J:=N 0 _ rfl;have o:=e 0 _ rfl;have U:∃m f j cap,x 0= .slice m a.length cap/\∀i:Nat,i<a.length->m=c3 ⟨f,j,dT⟩/\g f/\l.cell? ⟨f,j+i,dT⟩=c3 (.int .i64 (a.getD i 0)):=by
   generalize r:a.map (PV.int .i64)=C at o;generalize x 0=z at o;cases o with
   |eX _ V cap=>
    have:a=[]:=gb.1 r;subst this;exact⟨V,0,0,cap,rfl,λi c=>by simp at c⟩
   |vs _ _ T G cap u2 W H ab S aa O=>
    refine⟨_,T,G,cap,by rw[<-r];simp,λi c=>⟨rfl,H,?_⟩⟩
    have B:abk C i 0=c3 (.int .i64 (a.getD i 0)):=by
     rw[<-r];unfold abk;rw[dt,c4 c,ee,c4 c]
     rfl
    have w:=S i 0 _ B;have y:=O i 0 _ B;rw[Nat.mul_one,Nat.add_zero] at w;rw[w];generalize u2 i 0=z at y⊢;cases y
    rfl
  obtain⟨m,f,j,cap,E,q⟩:=U;refine⟨a.map (hS .i64),by simp,λi p v L e=>?_,λD P d A Y K h0=>?_⟩
  .rw[dt,L] at e;injection e with e
   subst e;exact .int _ _
  .refine(an0 s R D b Q f j cap a.length m M (λi=>List.getD (α:=Int) a i 0) P (λh d k=>⟨?_,λi c=>⟨(q i c).1,?_⟩⟩) (λh d t k=>?_) d h0).mono λac X u=>⟨u.1,by rw[ga];exact u.2⟩
   .rw[oW (A h d k) F, <-E];exact J
   .rw[oW (A h d k) (q i c).2.1];exact(q i c).2.2
   .refine K h _ d ?_ k
    rw[dt,c4 t,ee,c4 t]
    rfl
def anR(P:Nat)(r:Nat->Prop)(k:World)(pv:Value)(d:List ay)(aq:2<=P)(am:d.length<=140737488355328)(aj:VI r k (.dw [.vs 2 (d.map ay.enc)] 0) pv):
 ∃I:List Value,I.length=d.length/\(∀(i:Nat) (h:ay) (v:Value),d[i]?=c3 h->I[i]?=c3 v->VI r k (ay.enc h) v)/\vy P c7 326 #[pv] I (λg=>∀b,r b->g.heap[b]?=k.heap[b]?):=by
 cases aj with
 |dw _ _ b ap V ah an ax l=>
  have ak:=an 0 _ rfl;have J:=l 0 _ rfl;have au:∃G n A cap,∃(D C:Nat->Option Addr) (w o s u:Nat->Nat),V 0= .slice G d.length cap/\∀i:Nat,i<d.length->(G=c3 ⟨n,A,dT⟩/\r n/\k.cell? ⟨n,A+i*2,dT⟩=c3 (.slice (D i) (w i) (o i))/\k.cell? ⟨n,A+i*2+1,dT⟩=c3 (.slice (C i) (s i) (u i)))/\
   ∀h,d[i]?=c3 h->VI r k (ay.enc h) (.agg #[.slice (D i) (w i) (o i),.slice (C i) (s i) (u i)]):=by
   generalize t:d.map ay.enc=H at J;generalize V 0=z at J;cases J with
   |eX _ ar cap=>
    have:d=[]:=gb.1 t;subst this;exact⟨ar,0,0,cap,λ_=>dT,λ_=>dT,λ_=>0,λ_=>0,λ_=>0,λ_=>0,rfl,λi a=>by simp at a⟩
   |vs _ _ ab Y cap u2 av ai aA aa az M=>
    have sl:∀i c:Nat,i<d.length->c<2->∃p E y,u2 i c= .slice p E y:=λi c a e=>by
     have Q:∃S U,abk H i c=c3 (.vs S U):=by
      rw[<-t];unfold abk;rw[dt,c4 a]
      match c,e with
      |0,_=>exact⟨_,_,rfl⟩
      |1,_=>exact⟨_,_,rfl⟩
     obtain⟨S,U,Q⟩:=Q;have W:=M i c _ Q;generalize u2 i c=z at W⊢;cases W with
     |eX=>exact⟨_,_,_,rfl⟩
     |vs=>exact⟨_,_,_,rfl⟩
    let K:Value->Option Addr:=λv=>match v with | .slice p _ _=>p |_=>dT
    let N:Value->Nat:=λv=>match v with | .slice _ E _=>E |_=>0
    let O:Value->Nat:=λv=>match v with | .slice _ _ y=>y |_=>0
    have X:∀i c:Nat,i<d.length->c<2->Value.slice (K (u2 i c)) (N (u2 i c)) (O (u2 i c))=u2 i c:=λi c a e=>by
     obtain⟨p,E,y,Z⟩:=sl i c a e;rw[Z]
    refine⟨c3 ⟨ab,Y,dT⟩,ab,Y,cap,λi=>K (u2 i 0),λi=>K (u2 i 1),λi=>N (u2 i 0),λi=>O (u2 i 0),λi=>N (u2 i 1),λi=>O (u2 i 1),by rw[<-t];simp,λi a=>?_⟩
    have R:abk H i 0=c3 (.vs 1 ((d[i]).aw.map (PV.int .i64))):=by
     rw[<-t];unfold abk;rw[dt,c4 a]
     rfl
    have F:∃q,abk H i 1=c3 q/\ay.enc d[i]= .agg [.vs 1 ((d[i]).aw.map (PV.int .i64)),q]:=by
     rw[<-t];unfold abk;rw[dt,c4 a];exact⟨_,rfl,rfl⟩
    obtain⟨q,F,ac⟩:=F;dsimp only;rw[X i 0 a (by omega),X i 1 a (by omega)];refine⟨⟨rfl,ai,aa i 0 _ R,aa i 1 _ F⟩,λh j=>?_⟩
    rw[c4 a] at j;injection j with j
    subst j;rw[ac];refine .agg _ [u2 i 0,u2 i 1] rfl λc y aB e f=>?_
    match c,e,f with
    |0,e,f=>
     injection e with e
     injection f with f
     subst e;subst f;exact M i 0 _ R
    |1,e,f=>
     injection e with e
     injection f with f
     subst e;subst f;exact M i 1 _ F
  obtain⟨G,n,A,cap,D,C,w,o,s,u,ag,m⟩:=au
  let val:Nat->Value:=λi=>.agg #[.slice (D i) (w i) (o i),.slice (C i) (s i) (u i)]
  refine⟨(List.range d.length).map val,by simp,λi h v j l=>?_,λaf ao g L ae al h0=>?_⟩
  .have a:=(ei.1 j).1;rw[dt,hL a] at l;injection l with l
   subst l;exact(m i a).2 h j
  .refine(akF P aq af b ap n A cap d.length G am D C w o s u ao (λx g B=>⟨?_,λi a=>⟨(m i a).1.1,?_,?_⟩⟩) ae (λx g ad B=>?_) g h0).mono λZ aw T=>⟨T.1,by rw[ga,List.length_range];exact T.2⟩
   .rw[oW (L x g B) ah, <-ag];exact ak
   .rw[oW (L x g B) (m i a).1.2.1];exact(m i a).1.2.2.1
   .rw[oW (L x g B) (m i a).1.2.1];exact(m i a).1.2.2.2
   .refine al x _ g ?_ B
    rw[dt,hL ad]
    rfl
def SQ{b:Type}{by_:Nat}{a r:List b}(e:bj by_ [] a=c3 r):a.length*by_<=140737488355328/\r=a:=by
 obtain⟨c,d⟩:=AN e;exact⟨by simpa using c,by simpa using d.symm⟩
def u6:∀b:List Oper,(b.all λa=>match a.op with | .defer _=>false |_=>true)=true->∀a,a∈b->∀c,a.op≠ .defer c:=λb e a f c d=>by
 have:=ev.1 e a f;rw[d] at this;cases this
def mL{c:Nat}:∀b:List Oper,(b.all λa=>fL c a.dst)=true->∀a,a∈b->fL c a.dst=true:=λb d a e=>ev.1 d a e
def K15(L:Lp):FT (C15 L):=O9 (L:=L) (n:=3) (t:=22) (by_:=8) (gf:=269) (xs:=λc=>c) (q0:=1) (v0:=1) (s0:=2) (s0':=1) (q1:=1) (v1:=2) (s1:=2) (s1':=2)
 (R0:=λ_ a=>[⟨2,1,.box 22 [.fl 1 1]⟩,⟨1,1,.aap 3 a⟩]) (R1:=λ_ a=>[⟨2,1,.box 22 [.fl 1 2]⟩,⟨2,2,.aap 3 a⟩])
 mixed dM Tryz.func308 rfl rfl rfl rfl rfl rfl (by kernel_rfl) (by omega) rfl rfl (mL _ rfl) (u6 _ rfl) (mL _ rfl) (u6 _ rfl) (λ_=>rfl) (λc=>⟨_,rfl,_,rfl,rfl,rfl⟩) (pA j4 rfl rfl) aoU
 (λb=>rfl) (λb f=>rfl) (λb=>by kernel_rfl) (λb f=>by kernel_rfl) (λb a=>⟨rfl,rfl,by omega⟩) (λb a=>⟨rfl,rfl,by omega⟩)
 (λc r e=>by
  obtain⟨d,rfl⟩:=SQ (by_:=8) e;exact⟨d,rfl,rfl,λh0=>by cases h0;rfl⟩)
def U9(L:Lp):FT (U0 L):=O9 (L:=L) (n:=140) (t:=44) (by_:=48) (gf:=326) (xs:=λc=>c) (q0:=2) (v0:=1) (s0:=2) (s0':=1) (q1:=1) (v1:=2) (s1:=2) (s1':=2)
 (R0:=λ(a:ay) b=>[⟨2,1,.box 44 [.fl 2 1]⟩,⟨2,1,.box 140 [.row 3 a.aw,.row 142 a.aH]⟩,⟨1,1,.aap 140 b⟩]) (R1:=λ(a:ay) b=>[⟨2,1,.box 44 [.fl 1 2]⟩,⟨2,2,.aap 140 b⟩,⟨2,1,.box 140 [.row 3 a.aw,.row 142 a.aH]⟩])
 mixed dM Tryz.func337 rfl rfl rfl rfl rfl rfl (by kernel_rfl) (by omega) rfl rfl (mL _ rfl) (u6 _ rfl) (mL _ rfl) (u6 _ rfl) (λ_=>rfl) (λc=>⟨_,rfl,_,rfl,rfl,rfl⟩) (pA j5 rfl rfl) anR
 (λa=>rfl) (λa f=>rfl) (λa=>by kernel_rfl) (λa f=>by kernel_rfl) (λa b=>⟨rfl,rfl,by omega⟩) (λa b=>⟨rfl,rfl,by omega⟩)
 (λc r e=>by
  obtain⟨d,rfl⟩:=SQ (by_:=48) e;exact⟨d,rfl,rfl,λh0=>by cases h0;rfl⟩)
end Go.X.T
namespace Go.X
open Go Go.Aml Go.Bml Go.RowKit
def IX:List (Code×List (Nat×Hn))->Code->Code
 |[],a=>a
 |c::b,a=>.seq c.1 (IX b a)
section
variable {P:Program}{B:Tb}{R:Type}{r:R}
def AS(c:Lp)(B:Tb)(P:Program)(g:List (aq B))(f:Nat){R:Type}:List (Code×List (Nat×Hn))->(Nat->St B.D->Option R)->St B.D->Option R
 |[],b,a=>b 0 a
 |e::h,b,a=>exec c B P g f e.2 e.1 1 (λd a=>bif ea d 0 then AS c B P g f h b a else b d a) a
def RB(a:Nat):List (Code×List (Nat×Hn))->Bool
 |[]=>true
 |c::b=>bif gB a c.1 then RB a b else false
def Ck{l n:Nat}{o:Region.Mode}{f:Array Oper}{j:Exit->Act->World->Prop}(e:∀c b,¬j .outgrown c b)(h:∀(i:Nat) (g:Oper),f[i]?=c3 g->∀s,g.op≠ .defer s):∀(d:Nat) (bN:Array Bool) (c:Act) (b:World),wpAny P o f j d bN c b->wpAnyIn (c6.inRound l) n P o f j d bN c b
 |0,_,_,_,a=>a
 |d+1,bN,c,b,⟨h0,p⟩=>by
  refine⟨h0,λi u=>?_⟩
  have a:=p i u;unfold wpOp at a;unfold wpOpIn;cases m:f[i]? with
  |none=>
   rw[m] at a;exact Ck e h d _ c b a
  |some g=>
   rw[m] at a;simp only at a⊢
   split at a
   .rename_i k;rw[if_pos k];rcases a with a |⟨_,q,t,a⟩
    .exact PP (h i g m) (λc b a=>Ck e h d _ c b a) a
    .exact(e q t a).elim
   .rename_i k;rw[if_neg k];exact⟨λ_ _=>trivial,Ck e h d _ _ _ a⟩
def EB(i:P.follows .mixedOrders=true)(d:cU P B){j:Lp}{e:List (aq B)}(t:∀a,a∈e->Fits P B a){a:aq B}{fn:Func}{code:Code}{rs:List ResultVar}{hs:List (Nat×Hn)}(p:P.funcs[a.cO]?=c3 fn)(l:fn.body=c3 code)(h:(fn.name== "runtime.NumGoroutine")=false)
 (s:fn.results=rs.toArray) (o:eE a.na fn.ntmps=true) (g:gB fn.ntmps code=true) (q:eE a.low (len a.par.dF)=true) (m:lY 0 rs.length a.az.dE=true) (n:∀b c,a.F b=c3 c->gl j B P e a rs code hs b=c3 c):Fits P B a:=by
 refine ti d p l h s o m λb c k=>?_
 have f:a.low<=(cz B a.par b).H.length:=by
  rw[A7, <-eu];exact e0 q
 exact(gO i d t code 1 _ _ _ (n b c k) g f).mono nP
def aed(i:P.follows .mixedOrders=true)(e:cU P B){j:Lp}{a:aq B}{fn:Func}{code:Code}{rs:List ResultVar}{hs:List (Nat×Hn)}(q:P.funcs[a.cO]?=c3 fn)(l:fn.body=c3 code)(h:(fn.name== "runtime.NumGoroutine")=false)
 (t:fn.results=rs.toArray) (o:eE a.na fn.ntmps=true) (g:gB fn.ntmps code=true) (s:eE a.low (len a.par.dF)=true) (m:lY 0 rs.length a.az.dE=true) (n:∀b c,a.F b=c3 c->∃d:List (aq B),(∀a,a∈d->Fits P B a)/\gl j B P d a rs code hs b=c3 c):Fits P B a:=by
 refine ti e q l h t o m λb c k=>?_
 have f:a.low<=(cz B a.par b).H.length:=by
  rw[A7, <-eu];exact e0 s
 obtain⟨d,u,p⟩:=n b c k;exact(gO i e u code 1 _ _ _ p g f).mono nP
def afO(j:P.follows .mixedOrders=true)(f:cU P B){k:Lp}{a:aq B}{fn:Func}{code:Code}{rs:List ResultVar}(s:P.funcs[a.cO]?=c3 fn)(m:fn.body=c3 code)(i:(fn.name== "runtime.NumGoroutine")=false)
 (u:fn.results=rs.toArray) (p:eE a.na fn.ntmps=true) (h:gB fn.ntmps code=true) (t:eE a.low (len a.par.dF)=true) (n:lY 0 rs.length a.az.dE=true) (o:∀b c,a.F b=c3 c->∃(d:List (aq B)) (e:List (Nat×Hn)),(∀a,a∈d->Fits P B a)/\gl k B P d a rs code e b=c3 c):Fits P B a:=by
 refine ti f s m i u p n λb c l=>?_
 have g:a.low<=(cz B a.par b).H.length:=by
  rw[A7, <-eu];exact e0 t
 obtain⟨d,e,v,q⟩:=o b c l;exact(gO j f v code 1 _ _ _ q h g).mono nP
end
def ji(a:List Deferred)(b:Act):Act:={b with defers:=a}
def xM{b:List Deferred}{c:Act}{a:Option Tmp}{v:Value}:(ji b c).put a v=ji b (c.put a v):=by
 cases a <;> rfl
def amK{b:List Deferred}{a:Act}:(ji b a).eval=a.eval:=rfl
section
variable {P:Program}{B:Tb}
def pK(P:Program)(c:Oper):Prop:=∀(e:Act) (a:World) (b:Deferred) (d:World),(execOp e.eval c).run P a≠ .ok (.defer b) d
def aeJ{e:List Deferred}{d:Oper}{a:Act}{b:World}{p g:Act->World->Prop}{q o:Exit->Act->World->Prop}(t:pK P d)(n:∀l a b,q l a b->o l (ji e a) b)(j:∀a b,p a b->g (ji e a) b)(c:d.wp P a b p q):d.wp P (ji e a) b g o:=by
 unfold k7 at c⊢;rw[amK];have s:=t a b;generalize (execOp a.eval d).run P b=r at c s⊢;cases r with
 |ok w i=>
  cases w with
  |value v=>
   show g ((ji e a).put d.dst v) i
   rw[xM];exact j _ _ c
  |skip=>
   show g ((ji e a).put d.dst undef) i
   rw[xM];exact j _ _ c
  |defer z=>exact absurd rfl (s z i)
  |enter f args=>
   refine Calls.mono (show Calls P f args i _ from c) ?_
   intro l m h;cases l with
   |returned v=>
    show g ((ji e a).put d.dst v) m
    rw[xM];exact j _ _ h
   |panicked k=>exact n _ _ _ h
   |outgrown=>obtain⟨C,A,u⟩:=h;exact⟨_,_,n _ _ _ u⟩
  |row row args=>
   intro k y;obtain⟨v,m,h,x⟩:=c k y;refine⟨v,m,?_,x⟩
   show g ((ji e a).put d.dst v) m
   rw[xM];exact j _ _ h
  |_=>exact c.elim
 |halt k i=>
  cases k with
  |panic v=>exact n _ _ _ c
  |_=>exact c.elim
def Lv{k:List Deferred}{all:Array Oper}{h l:Exit->Act->World->Prop}(f:∀j b c,h j b c->l j (ji k b) c):∀(e:List Oper) (b:Act) (c:World),(∀d,d∈e->pK P d)->wpList P all h e b c->wpList P all l e (ji k b) c
 |[],_,_,_,a=>f _ _ _ a
 |d::e,b,c,m,a=>by
  unfold wpList at a⊢;have i:=λb c=>Lv (all:=all) f e b c λd o=>m d (eH _ o)
  show if Region.wanted d (yielded all b.tmps) then _ else _
  split at a
  .rename_i g;rw[if_pos g];rcases a with a |⟨n,p,q,a⟩
   .exact .inl (aeJ (m d h5) f i a)
   .exact .inr ⟨n,_,_,f _ _ _ a⟩
  .rename_i g;rw[if_neg g,xM];exact i _ _ a
def Hv(J:cU P B){y:List (aq B)}(S:∀o,o∈y->Fits P B o){m nt w:Nat}{F:List Nat}{e:List Oper}{a:St B.D}{u:Type}{r:u}{s:St B.D->Option u}{g:Gh}{k:Act}{c:World}{t:List Deferred}{Q:Exit->Act->World->Prop}
 (K:Rel g nt (aU B a.E) (av B a.H) k c) (L:ops B P y F e (λ_ a=>s a) 0 e [] a=c3 r) (M:∀i,i∈e->fL nt i.dst=true) (C:∀i,i∈e->pK P i)
 (N:∀j v q x,s j=c3 r->Rel x nt (aU B j.E) (av B j.H) v q->Bml.GStep m g (av B a.H) c x (av B j.H) q->Q .normal (ji t v) q):(k0 w e.toArray false).wp P Q (ji t k) c:=by
 obtain⟨V,f,R,E⟩:=qg J S L;have H:=yW (nt:=nt) (n:=m) (Q:=λh p l=>h= .normal/\p=aU B f.E/\l=av B f.H) R M ⟨rfl,rfl,rfl⟩;have G:=H g k c K (eI nt m g (av B a.H) c λh p l=>h= .normal/\p=aU B f.E/\l=av B f.H) (λ_ _ _ b=>b);refine wp_region_lit (Lv ?_ e k c C G)
 intro h z A d;cases h with
 |normal=>
  obtain⟨T,H3,D,⟨_,rfl,rfl⟩,O,I⟩:=d;exact N f z A D E O I
 |exit w=>obtain⟨_,_,_,⟨b,_⟩,_⟩:=d;cases b
 |ret=>obtain⟨_,_,_,⟨b,_⟩,_⟩:=d;cases b
 |goto U=>obtain⟨_,_,_,⟨b,_⟩,_⟩:=d;cases b
 |panic o=>exact d.elim
 |outgrown=>exact d.elim
def Xn(A:cU P B){c:aq B}{fn:Func}{rs:List ResultVar}{y:Nat}(U:fn.results=rs.toArray)(R:lY 0 rs.length c.az.dE=true){g:St B.D}{h:bi B.D c.az.bX}(L:(nh B P g 0 rs [] λO=>take B c.low c.az ⟨O,g.H⟩ c3)=c3 h){r:Gh}{k:Act}{a:World}(E:Rel r y (aU B g.E) (av B g.H) k a):
 ∃v f,(results fn k.tmps).run P a= .ok v a/\bF f (av B (cz B c.az h).H) a/\Bml.GStep c.low r (av B g.H) a f (av B (cz B c.az h).H) a/\VR f (av B (cz B c.az h).H) a (pv B (kR (cz B c.az h).E)) v:=by
 obtain⟨vs,Y,T,G⟩:=H4 A L;obtain⟨j,K,X,J⟩:=G r y k a E;obtain⟨p,w,f,W,I,S⟩:=EK A T E.m;injection w with w
 subst w;have m:∃d:List (TV B.D),d.length=rs.length/\(cz B c.az p).E=fi 0 d:=by
  unfold cz nI;exact GW R
 obtain⟨d,t,m⟩:=m;have x:∀(i:Nat) (o:TV B.D) (v:Value),d[i]?=c3 o->j[i]?=c3 v->VR f (av B (cz B c.az p).H) a (pv B o) v:=λi o v e s=>by
  have C:i<vs.length:=by have:=c9 e;omega
  have l:=J i _ v (c4 C) s;have q:=S i v (by
   rw[Jz,if_pos (e6 _),Nat.sub_zero,c4 C];exact l)
  rw[m] at q;have z:=Dz d 0 i;rw[Nat.zero_add] at z;rw[z,e] at q;exact q
 have Q:∃v,(results fn k.tmps).run P a= .ok v a/\VR f (av B (cz B c.az p).H) a (pv B (kR (cz B c.az p).E)) v:=by
  have H:(fn.results.mapM (yR k.tmps)).run P a= .ok j.toArray a:=by
   rw[U,Array.mapM_eq_mapM_toList];simp only[Sem.run_map,K,h6]
  rw[ND,j2,H,h6,m]
  by_cases l:j.length=1
  .obtain⟨D,rfl⟩:=hz.1 l;obtain⟨n,rfl⟩:=hz.1 (show d.length=1 by omega);exact⟨D,rfl,x 0 n D rfl rfl⟩
  .refine⟨.tuple j.toArray,?_,?_⟩
   .rw[Sem.run_pure]
    congr 1
    exact dif_neg (by simpa using l)
   .have:kR (fi 0 d)= .bu d:=by
     match d,t with
     |[],_=>rfl
     |[n],t=>simp at t;omega
     |V::b::M,_=>exact congrArg TV.bu (GN (V::b::M) 0)
    rw[this];refine .bu _ j (by rw[db,ga];omega) λi o v e s=>?_
    rw[db,dt] at e;cases u:d[i]? with
    |none=>rw[u] at e;cases e
    |some n=>
     rw[u] at e;injection e with e
     subst e;exact x i n v u s
 obtain⟨v,N,F⟩:=Q;exact⟨v,f,N,W,I,F⟩
end
end Go.X
namespace Go.X.T
open Go Go.Aml Go.Bml Go.X Go.RowKit Go.Proofs
attribute [local go_sem] hB
def ai5(m:Nat)(hm:2<=m)(l b off b2 off2 sb so cap N:Nat)(ad:Option Addr)(hN:N*2<=140737488355328)(J:Nat->World->Prop)
 (hr:∀k W,J k W->W.cell? ⟨b,off,dT⟩=c3 (.slice ad (N*2) cap)/\W.cell? ⟨b2,off2,dT⟩=c3 (.int .i64 2)/\N*2<=cap/\(0<N->ad=c3 ⟨sb,so,dT⟩))
 (hJb:∀k W W',J k W->Below W.heap.size W W'->J k W')
 (hy:∀k W,k<N->J k W->YieldAt c6 (m -1) c7 l #[.slice (c3 ⟨sb,so+k*2,dT⟩) 2 2] W λe W'=>e= .returned (.bool true)/\J (k+1) W') (W:World) (h0:J 0 W):
 CallsIn c6 m c7 139 #[.func (.yield l) #[] #[],.pointer (c3 ⟨b,off,dT⟩),.pointer (c3 ⟨b2,off2,dT⟩)] W λe W'=>(∃v,e= .returned v)/\J N W':=by
 have h139:c6.fn 139:=trivial;refine callsIn_of_wp Tryz.func139 rfl h139 ?_ rfl
 have hc0:=(hr 0 W h0).1;simp only[Tryz.ntmps139,h7,eo,hD,Nat.reduceAdd,Nat.reduceSub,fe,ft,h8,gv,hI,h9]
 gi_wp2
 gi_loopw [4] (λvi (wr:World)=>∃k:Nat,vi= .int .i64 ((k*2:Nat):Int)/\k<=N/\J k wr) (λvi _=>match vi with | .int _ k=>N*2 -k.toNat |_=>0)
 case atStart=>exact⟨0,rfl,e6 _,h0⟩
 case round=>
  obtain⟨k,rfl,hk,hJ⟩:=hrel;obtain⟨hc,hc2,hcap,had⟩:=hr k _ hJ
  by_cases hlt:k<N
  .obtain rfl:=had (by omega);have hb0:(0:Int)<=(k:Int)*2:=by omega
   have hb1:(k:Int)*2+2<=(N:Int)*2:=by omega
   have hb2:(N:Int)*2<=(cap:Int):=by omega
   gi_wp2
   gi_region
   have hJ2:=hJb k wr wr.drew hJ (k6 _ _).drew;obtain⟨hcd,hcd2,_,_⟩:=hr k _ hJ2;obtain⟨fn,tmps,assign,body,hyy,hR⟩:=hy k _ hlt hJ2
   gi_wp2
   have e2:k*2+2 -k*2=2:=by omega
   try simp only[e2]
   refine⟨λh=>by simp[c6] at h,hR.mono ?_⟩
   rintro e W3 ⟨rfl,hJ3⟩;obtain⟨_,hc3,_,_⟩:=hr (k+1) _ hJ3
   gi_wp2
   go_roundw
   case rel=>exact⟨k+1,congrArg (hS .i64) (by omega),by omega,hJ3⟩
   case measure=>
    show N*2 - ((k:Int)*2+2).toNat<N*2 - ((k:Int)*2).toNat
    omega
  .have:k=N:=by omega
   subst this
   gi_wp2
   go_end0
   exact⟨⟨_,rfl⟩,hJ⟩
end Go.X.T
