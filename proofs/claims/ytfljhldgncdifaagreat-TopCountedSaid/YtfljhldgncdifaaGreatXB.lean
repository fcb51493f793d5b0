/- For TopCounted, part 2. -/
import Derived.Test.YtfljhldgncdifaaGreatXA
import Derived.Laws.CopyRow
import Derived.ProofKit
import Derived.OpenShut
import Derived.ChangeOld
import Derived.Deep.Slices
import Derived.KernelRfl
import Derived.WalkKit
import Derived.ShutString
import Derived.Below
import Derived.Carry
set_option linter.defProp false
set_option linter.unusedVariables false
set_option linter.unusedSimpArgs false
open Decidable renaming decide → c3
open List renaming getElem?_eq_getElem → c4, mem_append → c6, mem_cons_of_mem → c7, mem_cons → dd, getElem?_append_right → dk, getElem?_append_left → dt, append_assoc → dv, eq_nil_of_length_eq_zero → dT, getElem?_eq_some_iff → e0, length_append → e5, getElem?_map → ec, mem_of_getElem? → ej, getElem?_take_of_lt → eo, getElem?_set_self → ev, mem_map → ey, getElem?_set_ne → eH, append_nil → ft, getElem?_eq_none → ga, range → gv, take_append_drop → gx, getElem?_toArray → gy, length_set → h6, getD_eq_getElem?_getD → h8, length_take → hq, map_cons → hz, replicate → hB, getElem?_drop → hK, mem_range → hL, mem_map_of_mem → hY, getElem?_range → ie, length_drop → ih, mem_cons_self → j3, mem_append_right → j5, length_replicate → j7, eq_of_mem_replicate → k0, nodup_cons → k8, getElem?_cons_zero → kc, flatten_cons → kl, length_map → l3, drop_zero → m2, getElem?_eq_none_iff → m4, mem_range'_1 → m6, map_take → mb, all_eq_true → n0, take_of_length_le → n1, map_map → n2, length_eq_one_iff → ng, nil_append → o3, map_append → o4, singleton_append → o8, range' → o9, mem_append_left → oi, getElem_of_mem → oo, map_drop → oq, countP_append → p4, ext_getElem? → p6, reverse_cons → p7, getElem_mem → q6, range'_succ → q7, not_mem_nil → q8, mem_filter → r0, drop_drop → r3
open Option renaming some → c5, none → ea, bind_eq_some_iff → ei, map_some → l4, bind_some → my, getD_some → qa
open Nat renaming le_of_ble_eq_true → e4, zero_add → e6, le_refl → ef, beq → fe, mul_le_mul_right → gb, lt_or_ge → hI, ble_eq_true_of_le → hM, beq_refl → hQ, add_zero → hS, blt → j8, add_mul → j9, eq_of_beq_eq_true → l0, lt_succ_self → l1, zero_le → l2, le_trans → la, pos_of_ne_zero → m3, ble → m5, min_eq_left → o6, strongRecOn → o7, lt_trichotomy → q3, one_pos → qb, one_mul → qq, min_comm → rb, sub_zero → s5, sub_self → s6, zero_mul → s8
open Option.some renaming injEq → ee
open Go.Builtin renaming zeroCells → ez, clear_ → j1, copy_ → k6, firstCells → p0, lenOf → r4
open Prod.mk renaming inj → eE, injEq → h5
open Go.Result renaming andThen_ok → h7
open Array renaming getElem?_eq_getElem → h9, getD_eq_getD_getElem? → hD, replicate → hP, toArray_toList → hU, mem_toList_iff → hX, getElem?_eq_none → j4, getElem?_toList → j6, getElem?_setIfInBounds_ne → km, getElem_mem → q2
open Bool renaming and_eq_true → j2
open Go.Region renaming wanted → k7, binds → m1, ready → pc
open Classical renaming axiomOfChoice → kd
open Go.Sem renaming run_bind → kh, run_pure → m0
open Go.Op renaming operands → ma, call → s3
open Go.DataW renaming TrodAll → mx, trod → o1
open List.cons renaming injEq → o2
open Go.Instr renaming sureAddr → oj, loadAt → q4
open Go.Call renaming operands → oS
open Go.Value renaming okWide → q5, cells → sp
open Go.Oper renaming wp → r5
open Go.Lit renaming int → s7
open Go.Addr renaming add_lit → sa
open Go.Cell renaming okWide → sn
namespace Go.X
open Go Go.Aml Go.Bml
section
variable {P:Program}{B:Tb}{R:Type}{r:R}
def eJ(B:Tb):List Nat->List (TV B.D)->List (TV B.D)->Prop
 |[],[],[]=>True
 |b::ns,f::d,e::c=>(∃a,B.up b f=c5 a/\e=B.tv b a)/\eJ B ns d c
 |_,_,_=>False
def Ae:∀{ns:List Nat} {f:List (TV B.D)} {b:bi B.D ns->Option R},m9 B ns f b=c5 r->∃c,b c=c5 r/\eJ B ns f (rQ B ns c)
 |[],[],b,a=>⟨(),a,trivial⟩
 |[j],[h],b,a=>by
  obtain⟨c,d,e⟩:=fq (by simpa only[m9] using a);exact⟨c,e,⟨c,d,rfl⟩,trivial⟩
 |j::l::ns,h::k,b,a=>by
  simp only[m9] at a;obtain⟨c,d,a⟩:=fq a;obtain⟨g,e,i⟩:=Ae a;exact⟨(c,g),e,⟨c,d,rfl⟩,i⟩
 |[],_::_,b,a=>by simp[m9] at a
 |[_],[],b,a=>by simp[m9] at a
 |_::_::_,[],b,a=>by simp[m9] at a
 |[_],_::_::_,b,a=>by simp[m9] at a
def eJ.split:∀{ns c:List Nat} {ls e d:List (TV B.D)},eJ B (aX ns c) (aX ls e) d->ls.length=ns.length->∃j k,d=j++k/\eJ B ns ls j/\eJ B c e k
 |[],c,[],e,d,h,_=>⟨[],d,rfl,trivial,h⟩
 |n::ns,c,u::ls,e,m::d,h,a=>by
  obtain⟨l,s⟩:=h;obtain⟨j,k,rfl,o,t⟩:=eJ.split (ns:=ns) (ls:=ls) s (by simpa using a);exact⟨m::j,k,rfl,⟨l,o⟩,t⟩
 |n::ns,c,u::ls,e,[],h,a=>h.elim
 |[],_,_::_,_,_,_,a=>by simp at a
 |_::_,_,[],_,_,_,a=>by simp at a
def yx{q:Nat->Type}{H:List (Ob q)}{i:Nat}:∀{l:List Nat},i∈kY H l↔∃r k v m j,r∈l/\nth H r=c5 ⟨k,v,.hole m [] j⟩/\i∈iB j
 |[]=>by simp[kY]
 |r::l=>by
  have o:=yx (H:=H) (i:=i) (l:=l);unfold kY
  split
  .rename_i k v m j n;rw[bK,c6,o]
   constructor
   .rintro(s |⟨g,d,h,e,f,b,a,c⟩)
    .exact⟨r,k,v,m,j,by simp,n,s⟩
    .exact⟨g,d,h,e,f,c7 _ b,a,c⟩
   .rintro⟨g,d,h,e,f,b,a,c⟩;rcases dd.1 b with rfl |b
    .rw[n] at a;injection a with a
     injection a with _ _ a
     injection a with e1 e2 e3
     subst e1;rw[<-e3] at c;exact .inl c
    .exact .inr ⟨g,d,h,e,f,b,a,c⟩
  .rename_i p;rw[o]
   constructor
   .rintro⟨g,d,h,e,f,b,a,c⟩;exact⟨g,d,h,e,f,c7 _ b,a,c⟩
   .rintro⟨g,d,h,e,f,b,a,c⟩;rcases dd.1 b with rfl |b
    .exact absurd a (p _ _ _ _)
    .exact⟨g,d,h,e,f,b,a,c⟩
def jN{b:Nat->Type}(c:List (Ob b))(a:List Nat)(i:Nat):Prop:=i∈aX a (kY c a)
def jN.mono{D:Nat->Type}{H:List (Ob D)}{d a:List Nat}{i:Nat}(h:jN H d i)(c:∀r,r∈d->r∈a):jN H a i:=by
 unfold jN at h⊢;rw[bK,c6] at h⊢;rcases h with h |h
 .exact .inl (c i h)
 .obtain⟨r,s,v,n,es,e,k,j⟩:=yx.1 h;exact .inr (yx.2 ⟨r,s,v,n,es,c r e,k,j⟩)
def jN.one{D:Nat->Type}{H:List (Ob D)}{a:List Nat}{i:Nat}(h:i∈a):jN H a i:=by
 unfold jN;rw[bK,c6];exact .inl h
def aoW{g:Gh}{u:List aO}{l:World}{r:Nat}{o:aO}{w:Value}{n:Nat->Prop}{f:List PV}(H:qT g u l r o)(j:SL g o r 0 o.es.length w)(v:f.length=o.es.length)(D:∀(i:Nat) (z:PV),f[i]?=c5 z->z.cells.length=o.sz)
 (A:∀b x,g.β r=c5 (b,x)->n b) (G:∀i a c,abk f i a=c5 c->∃p,abk o.es i a=c5 p/\∀d,VR g u l p d->VI n l c d):VI n l (.vs o.sz f) w:=by
 obtain⟨_,j⟩:=j;have t:=H.mem;cases s:g.β r with
 |none=>
  rw[s] at j t;obtain⟨_,h0,y,rfl⟩:=j;have:f=[]:=dT (by omega);subst this;exact .eX o.sz y 0
 |some E=>
  obtain⟨b,x⟩:=E;rw[s] at j t;obtain⟨cap,y,rfl,I,M,C⟩:=j;obtain⟨rfl,rfl⟩:=C rfl;obtain⟨S,cells,L,N,O,Q,K⟩:=t;rw[<-v];have q:∀i a c,abk f i a=c5 c->∃d,cells[i*o.sz+a]?=c5 d/\d.oneCell'=true/\VI n l c d:=λi a c h=>by
   obtain⟨p,J,F⟩:=G i a c h;obtain⟨d,e,m,k⟩:=K i a p J;exact⟨d,e,m,F d k⟩
  refine .vs o.sz f b 0 cap (λi a=>(cells[i*o.sz+a]?).getD undef) (by rw[v];exact I) (A b cap s) D (λi a c h=>?_) (λi a c h=>?_) (λi a c h=>?_)
  .obtain⟨d,e,m,k⟩:=q i a c h;rw[e,e6];unfold World.cell?;rw[L];simpa using e
  .obtain⟨d,e,m,k⟩:=q i a c h;rw[e];exact m
  .obtain⟨d,e,m,k⟩:=q i a c h;rw[e];exact k
def S8{c:List (Ob B.D)}{a:List Nat}{b:TV B.D}:(pv B (ml c a b)).cells=[pv B (ml c a b)]:=by
 unfold ml
 split
 .split
  .cases has a _ <;> rfl
  .rfl
 .rfl
def agS{g:Gh}{a:List (Ob B.D)}{e:World}{h:List Nat}{j:Nat->Option Nat}{f:Nat->Prop}(k:cU P B)(x:bF g (av B a) e){q i:Nat}{v:Value}(u:q∉h->f q)(t:VR g (av B a) e (.fl q i) v):VI (dj g j f).F e (pv B (ml a h (.fl q i))) v:=by
 unfold ml;simp only
 split
 .rename_i o A m;cases s:has h q with
  |true=>exact .any v
  |false=>
   obtain⟨z,n⟩:=fx m;have c:=df n;have w:=lh (t.ub c rfl) c rfl;have:=Ed (x.obj q _ c) w (λC y=>by
    obtain⟨l,_,rfl⟩:=ey.1 y;exact k.lt o l) (F:=(dj g j f).F) (λ_ d=>.inl d) λb p d=>.inr ⟨q,p,u (nA s),d⟩
   simp only[aY] at this;rw[m2,n1 (ef _)] at this;exact this
 .exact .any v
def Hi{b:Nat->Type}{c:List (Ob b)}{d:List Nat}:∀a:List (TV b),qf c d a=a.map (ml c d)
 |[]=>rfl
 |e::a=>by simp only[qf,Hi a,hz]
def Hw{d:Nat->Type}:∀{l:List (TV d)},DA l=true->∀(i:Nat) (b:TV d),l[i]?=c5 b->∃q c,b= .fl q c/\q∈iB l
 |[],_,_,_,a=>by simp at a
 |h::l,e,i,b,a=>by
  cases h with
  |fl q c=>
   cases i with
   |zero=>simp at a;exact⟨q,c,a.symm,by simp[iB,refs,bK]⟩
   |succ i=>
    obtain⟨g,f,j,k⟩:=Hw (l:=l) e i b (by simpa using a);exact⟨g,f,j,by simp only[iB,bK,c6];exact .inr k⟩
  |_=>cases e
mutual
def Jt{g:Gh}{j:List (Ob B.D)}{H:World}{kept:List Nat}{src:Nat->Option Nat}{fz:Nat->Prop}(u:cU P B)(t:bF g (av B j) H):
 ∀(y:TV B.D) (v:Value),(∀i,jN j (refs y) i->i∉kept->fz i)->VR g (av B j) H (pv B y) v->VI (dj g src fz).F H (pv B (kJ j kept y)) v
 | .any,v,d,_=>.any v
 | .z0,v,d,a=>(a.dH .z0).mono (λ_ c=>.inl c) λ_ _=>rfl
 | .fS,v,d,a=>(a.dH .fS).mono (λ_ c=>.inl c) λ_ _=>rfl
 | .bg,v,d,a=>(a.dH .bg).mono (λ_ c=>.inl c) λ_ _=>rfl
 | .dB,v,d,a=>(a.dH .dB).mono (λ_ c=>.inl c) λ_ _=>rfl
 | .int al s,v,d,a=>(a.dH (.int _ _)).mono (λ_ c=>.inl c) λ_ _=>rfl
 | .bool b,v,d,a=>(a.dH (.bool _)).mono (λ_ c=>.inl c) λ_ _=>rfl
 | .str G,v,d,a=>(a.dH (.str _)).mono (λ_ c=>.inl c) λ_ _=>rfl
 | .row s A,v,d,a=>(a.dH (.vs _ _)).mono (λ_ c=>.inl c) λ_ _=>rfl
 | .rv s an,v,d,a=>(a.dH (.vs _ _)).mono (λ_ c=>.inl c) λ_ _=>rfl
 | .vp w Q,v,d,a=>(a.dH (.dw _ _)).mono (λ_ c=>.inl c) λ_ _=>rfl
 | .ptr ..,v,d,_=>.any v
 | .bu _,v,d,_=>.any v
 | .jC ea,v,d,a=>(a.dH .dB).mono (λ_ c=>.inl c) λ_ _=>rfl
 | .jC (c5 f),v,d,a=>(a.dH (.fn _ _ _ (by simp) (by simp))).mono (λ_ c=>.inl c) λ_ _=>rfl
 | .fl q K,v,d,a=>by
  simp only[kJ];cases S:aK j q K with
  |none=>exact .any v
  |some b=>
   cases b with
   |aap s A=>
    simp only;cases C:has kept q with
    |true=>exact .any v
    |false=>
     obtain⟨G,I⟩:=fx S;have p:=df I;have N:=lh (a.ub p rfl) p rfl;have:=Ed (t.obj q _ p) N (λae n=>by
      obtain⟨k,_,rfl⟩:=ey.1 n;exact u.lt s k) (F:=(dj g src fz).F) (λ_ c=>.inl c) λb M c=>.inr ⟨q,M,d q (.one (by simp[refs])) (nA C),c⟩
     simp only[aY] at this;rw[m2,n1 (ef _)] at this;exact this
   |box _ _=>exact .any v
   |dead=>exact .any v
   |hole s A x=>
    cases A with
    |cons _ _=>exact .any v
    |nil=>
    simp only;cases C:has kept q with
    |true=>exact .any v
    |false=>
    cases ac:DA x with
    |false=>exact .any v
    |true=>
     obtain⟨G,I⟩:=fx S;have p:=df I;have N:=lh (a.ub p rfl) p rfl;have ad:=t.obj q _ p;have T:(aY B ⟨G,K,.hole s [] x⟩).es=aP B x:=rfl;have af:∀i,(aP B (qf j kept x))[i]?=(x[i]?).map λy=>pv B (ml j kept y):=λi=>by
      rw[Hi,db,n2,ec]
      rfl
     refine aoW (o:=aY B ⟨G,K,.hole s [] x⟩) ad N (by rw[T,Hi,db,db];simp) (λi ae n=>?_) (λb M c=>.inr ⟨q,M,d q (.one (by simp[refs])) (nA C),c⟩) (λi Q aa h=>?_)
     .rw[af] at n;cases e:x[i]? with
      |none=>rw[e] at n;cases n
      |some y=>
       rw[e] at n;injection n with n
       subst n;obtain⟨J,O,rfl,Y⟩:=Hw ac i y e;have:=ad.width i (.fl J O) (by rw[T,db,ec,e];rfl);rw[S8];exact this
     .unfold abk at h;rw[af] at h;cases e:x[i]? with
      |none=>rw[e] at h;cases h
      |some y=>
       rw[e] at h;obtain⟨J,O,rfl,Y⟩:=Hw ac i y e;have h:(pv B (ml j kept (.fl J O))).cells[Q]?=c5 aa:=h;rw[S8] at h;cases Q with
       |succ Q=>simp at h
       |zero=>
        have h:c5 (pv B (ml j kept (.fl J O)))=c5 aa:=h;injection h with h
        subst h;refine⟨.fl J O,?_,λak aj=>agS u t (λai=>d J ?_ ai) aj⟩
        .unfold abk;rw[T,db,ec,e]
         rfl
        .unfold jN;rw[bK,c6];exact .inr (yx.2 ⟨q,G,K,s,x,by simp[refs],I,Y⟩)
 | .sl q K am len,v,d,a=>by
  simp only[kJ];cases S:aK j q K with
  |none=>exact .any v
  |some b=>
   cases b with
   |aap s A=>
    simp only;cases C:has kept q with
    |true=>exact .any v
    |false=>
     obtain⟨G,I⟩:=fx S;have p:=df I;have N:=lh a p rfl;have:=Ed (t.obj q _ p) N (λae n=>by
      obtain⟨k,_,rfl⟩:=ey.1 n;exact u.lt s k) (F:=(dj g src fz).F) (λ_ c=>.inl c) λb M c=>.inr ⟨q,M,d q (.one (by simp[refs])) (nA C),c⟩
     simpa[aY,pv,mb,oq] using this
   |box _ _=>exact .any v
   |dead=>exact .any v
   |hole _ _ _=>exact .any v
 | .agg w,v,d,a=>by
  obtain⟨A,rfl,l,C⟩:=a.ky;exact .agg _ A (by rw[<-l];exact(pH (src:=src) u t w A d l C).1) (pH (src:=src) u t w A d l C).2
 | .fn f w L,v,d,a=>by
  have ah:∃m vs:List Value,v= .func (.func f) m.toArray vs.toArray/\(aP B w).length=m.length/\(∀(i:Nat) (z:PV) (k:Value),(aP B w)[i]?=c5 z->m[i]?=c5 k->VR g (av B j) H z k)/\(aP B L).length=vs.length/\
   (∀(i:Nat) (z:PV) (k:Value),(aP B L)[i]?=c5 z->vs[i]?=c5 k->VR g (av B j) H z k):=by
   have ag:VR g (av B j) H (.fn f (aP B w) (aP B L)) v:=a;cases ag with
   |aW a=>cases a with |fn _ _ _ m vs l X E W=>exact⟨m,vs,rfl,l,λi z k V U=>.aW (X i z k V U),E,λi z k V U=>.aW (W i z k V U)⟩
   |fn _ _ _ m vs l X E W=>exact⟨m,vs,rfl,l,X,E,W⟩
  obtain⟨m,vs,rfl,l,ab,E,Z⟩:=ah;exact .fn f _ _ m vs (by rw[<-l];exact(pH (src:=src) u t w m (λi e=>d i (e.mono λr D=>by simp only[refs,bK,c6];exact .inl D)) l ab).1) (pH (src:=src) u t w m (λi e=>d i (e.mono λr D=>by simp only[refs,bK,c6];exact .inl D)) l ab).2 (by rw[<-E];exact(pH (src:=src) u t L vs (λi e=>d i (e.mono λr D=>by simp only[refs,bK,c6];exact .inr D)) E Z).1) (pH (src:=src) u t L vs (λi e=>d i (e.mono λr D=>by simp only[refs,bK,c6];exact .inr D)) E Z).2
def pH{g:Gh}{e:List (Ob B.D)}{l:World}{kept:List Nat}{src:Nat->Option Nat}{fz:Nat->Prop}(n:cU P B)(q:bF g (av B e) l):
 ∀(b:List (TV B.D)) (d:List Value),(∀i,jN e (iB b) i->i∉kept->fz i)->(aP B b).length=d.length->(∀(i:Nat) (a:PV) (c:Value),(aP B b)[i]?=c5 a->d[i]?=c5 c->VR g (av B e) l a c)->
  (aP B (jS e kept b)).length=(aP B b).length/\∀(i:Nat) (a:PV) (c:Value),(aP B (jS e kept b))[i]?=c5 a->d[i]?=c5 c->VI (dj g src fz).F l a c
 |[],d,_,_,_=>⟨rfl,by simp[jS,aP]⟩
 |a::b,[],_,j,_=>by simp[aP] at j
 |a::b,c::d,p,j,o=>by
  obtain⟨u,t⟩:=pH (src:=src) n q b d (λi m=>p i (m.mono λr k=>by simp only[iB,bK,c6];exact .inr k)) (by simpa[aP] using j) λi a c f h=>o (i+1) a c (by simpa[aP] using f) (by simpa using h)
  refine⟨by simp[jS,aP,u],λi s v f h=>?_⟩
  cases i with
  |zero=>
   simp[jS,aP] at f h;subst f;subst h;exact Jt n q a c (λi m=>p i (m.mono λr k=>by simp only[iB,bK,c6];exact .inl k)) (o 0 _ _ (by simp[aP]) (by simp))
  |succ i=>exact t i s v (by simpa[jS,aP] using f) (by simpa using h)
end
structure mR (B:Tb) (g:Gh) (H H':List (Ob B.D)) (w:World) (ids:List Rf) (kept:List Nat) (src:Nat->Option Nat) (ρ:Nat->Nat×Nat):Prop where
 m:bF g (av B H) w
 num:∀q,(ρ q).1=q
 bG:∀q i,nth ids q=c5 (.bG i)->src q=c5 i/\∃o o',nth H i=c5 o/\nth H' q=c5 o'/\o'.aF=(ρ q).2/\(aY B o').sz=(aY B o).sz/\(aY B o').es.length=(aY B o).es.length
 new:∀q,nth ids q=c5 .new->src q=ea/\∃o',nth H' q=c5 o'/\o'.aF=(ρ q).2/\(aY B o').es=[]
def iK{d:Type}{c b:Option (List d)}{f:List d}(a:cat c b=c5 f):∃e g,c=c5 e/\b=c5 g/\f=aX e g:=by
 unfold cat at a
 split at a
 .injection a with a
  exact⟨_,_,rfl,rfl,a.symm⟩
 .cases a
def e7(a:Ob B.D):(aY B a).aF=a.aF:=by
 unfold aY
 split <;> rfl
def WO{g:Gh}{d m:List (Ob B.D)}{e:World}{o:List Rf}{G:List Nat}{j:Nat->Option Nat}{H:Nat->Prop}{h:Nat->Nat×Nat}(p:mR B g d m e o G j h){q i n s:Nat}{b:Bd B.D}{v:Value}
 (z:nth o q=c5 (.bG i)) (l:nth d i=c5 ⟨s,n,b⟩) (f:VR g (av B d) e (.ptr i n 0 0) v):VR (dj g j H) (av B m) e (.ptr (h q).1 (h q).2 0 0) v:=by
 obtain⟨F,M,C,c,x,E,u,w⟩:=p.bG q i z;rw[l] at c;injection c with c
 subst c;have k:=df l;cases f with
 |aW f=>cases f
 |ptr _ _ _ _ L J a K y=>
  unfold ek at k;rw[k] at a;injection a with a
  subst a;obtain⟨A,I,D,t,rfl⟩:=y (by rw[e7]);rw[p.num];refine .ptr q _ 0 0 (aY B C) _ (df x) (by rw[e7,E];exact ef _) λ_=>⟨by rw[w];exact A,I,D,?_,by rw[u]⟩
  show(j q).bind g.β=_
  rw[F];exact t
def LX{g:Gh}{e n:List (Ob B.D)}{f:World}{t:List Rf}{G:List Nat}{d:Nat->Option Nat}{s:Nat->Prop}{j:Nat->Nat×Nat}(u:mR B g e n f t G d j){q i p w:Nat}{b:Bd B.D}{v:Value}
 (z:nth t q=c5 (.bG i)) (m:nth e i=c5 ⟨w,p,b⟩) (h:VR g (av B e) f (.fl i p) v):VR (dj g d s) (av B n) f (.fl (j q).1 (j q).2) v:=by
 obtain⟨F,J,C,c,y,E,x,l⟩:=u.bG q i z;rw[m] at c;injection c with c
 subst c;have k:=df m;cases h with
 |aW h=>cases h
 |fl _ _ I _ a H A D=>
  unfold ek at k;rw[k] at a;injection a with a
  subst a;rw[u.num];refine .fl q _ (aY B C) _ (df y) (by rw[e7,E];exact ef _) A λ_=>?_
  have o:=D (by rw[e7]);rw[l];unfold SL at o⊢;rw[x,l];rw[show(dj g d s).β q=g.β i by show(d q).bind g.β=_;rw[F];rfl];exact o
def MD{g:Gh}{m i:List (Ob B.D)}{h:World}{f:List Rf}{t:List Nat}{a:Nat->Option Nat}{d:Nat->Prop}{c:Nat->Nat×Nat}(e:mR B g m i h f t a c){q:Nat}{v:Value}
 (p:nth f q=c5 .new) (l:∃b,v= .slice b 0 0):VR (dj g a d) (av B i) h (.fl (c q).1 (c q).2) v:=by
 obtain⟨s,j,k,n,o⟩:=e.new q p;obtain⟨b,rfl⟩:=l;rw[e.num];refine .fl q _ (aY B j) _ (df k) (by rw[e7,n];exact ef _) rfl λ_=>?_
 unfold SL;rw[show(dj g a d).β q=ea by show(a q).bind g.β=_;rw[s];rfl,o];exact⟨by simp,rfl,rfl,b,rfl⟩
def Sb(B:Tb)(g:Gh)(e i:List (Ob B.D))(a:World)(f:Nat->Option Nat)(d:Nat->Prop)(c:CP)(h b:TV B.D):Prop:=
 (MG c=true->cE 0 (pv B b))/\∀v,VR g (av B e) a (pv B h) v->VR (dj g f d) (av B i) a (pv B b) v
def fu{a b:Bool}(c:(bif a then b else false)=true):a=true/\b=true:=by
 cases a with
 |true=>exact⟨rfl,c⟩
 |false=>cases c
mutual
def RY{g:Gh}{C aj:List (Ob B.D)}{w:World}{ac:List Rf}{T:List Nat}{aa:Nat->Option Nat}{fz:Nat->Prop}{ab:Nat->Nat×Nat}(L:cU P B)(G:mR B g C aj w ac T aa ab):
 ∀(c:CP) (p:TV B.D) (o:List (TV B.D)),(∀i,i∈jn C c p->i∉T->fz i)->eR C ac T c p=c5 o->o.length=c.bX.length/\∀h,eJ B c.bX o h->∃ar,(∀Q,hO ab c (h++Q)=(ar,Q))/\Sb B g C aj w aa fz c p ar
 | .any,p,o,t,a=>by
  simp only[eR,ee] at a;subst a;refine⟨rfl,λh m=>?_⟩
  cases h with
  |nil=>exact⟨.any,λ_=>rfl,λ_=>.any,λv _=>.any v⟩
  |cons y h=>exact m.elim
 | .v U,p,o,t,a=>by
  simp only[eR,ee] at a;subst a;refine⟨rfl,λh m=>?_⟩
  match h,m with
  |[y],⟨⟨n,J,a4⟩,_⟩=>
   subst a4;obtain⟨u1,u2⟩:=L.up U _ n J;refine⟨_,λ_=>rfl,λ_=>by rw[L.tv];exact L.lt U n,λv j=>.aW ?_⟩
   rw[L.tv];exact u2.vi (Jt L G.m p v t j)
 | .p q,p,o,t,a=>by
  have O:∃i x I b,p= .ptr i x 0 0/\nth ac q=c5 (.bG i)/\nth C i=c5 ⟨I,x,b⟩/\o=[]:=by
   simp only[eR] at a
   split at a
   .rename_i i x
    split at a
    .rename_i Z k ax d H;obtain⟨s,l⟩:=a8 a;injection l with l
     obtain⟨I,z⟩:=fx d;exact⟨i,x,I,_,rfl,by rw[H,beq_eq s],z,l.symm⟩
    .cases a
   .cases a
  obtain⟨i,x,I,b,rfl,H,z,rfl⟩:=O;refine⟨rfl,λh m=>?_⟩
  cases h with
  |nil=>exact⟨_,λ_=>rfl,λa=>(by cases a),λv j=>WO G H z j⟩
  |cons y h=>exact m.elim
 | .r q,p,o,t,a=>by
  have O:o=[]/\∀v,VR g (av B C) w (pv B p) v->VR (dj g aa fz) (av B aj) w (.fl (ab q).1 (ab q).2) v:=by
   simp only[eR] at a
   split at a
   .rename_i i x
    split at a
    .rename_i U ag ax d H;obtain⟨s,l⟩:=a8 a;injection l with l
     obtain⟨I,z⟩:=fx d;exact⟨l.symm,λv j=>LX G (by rw[H,beq_eq s]) z j⟩
    .rename_i U ag bb ax d H;obtain⟨s,l⟩:=a8 a;injection l with l
     obtain⟨I,z⟩:=fx d;exact⟨l.symm,λv j=>LX G (by rw[H,beq_eq s]) z j⟩
    .cases a
   .split at a
    .rename_i H;injection a with a
     exact⟨a.symm,λv j=>MD G H ⟨ea,j.pF⟩⟩
    .cases a
   .split at a
    .rename_i H;injection a with a
     exact⟨a.symm,λv j=>MD G H j.rh⟩
    .cases a
   .cases a
  obtain⟨rfl,j⟩:=O;refine⟨rfl,λh m=>?_⟩
  cases h with
  |nil=>exact⟨_,λ_=>rfl,λa=>(by cases a),j⟩
  |cons y h=>exact m.elim
 | .q N,p,o,t,a=>by
  have O:∃k,ow N=true/\fg C ac T N k=c5 o/\(∀i,i∈gJ C N k->i∉T->fz i)/\((∃Z i x I,p= .ptr i x 0 0/\nth C i=c5 ⟨I,x,.box Z k⟩/\i∉T/\fz i)\/p= .vp k 0):=by
   simp only[eR] at a
   split at a
   .rename_i i x
    split at a
    .rename_i Z k d;obtain⟨I,z⟩:=fx d;cases V:has T i with
     |true=>rw[V] at a;cases a
     |false=>
      rw[V] at a;obtain⟨s,l⟩:=a8 a;refine⟨k,s,l,λe M=>t e ?_,.inl ⟨Z,i,x,I,rfl,z,nA V,t i (by simp[jn]) (nA V)⟩⟩
      simp only[jn,z,dd];exact .inr M
    .cases a
   .rename_i k;obtain⟨s,l⟩:=a8 a;exact⟨k,s,l,t,.inr rfl⟩
   .cases a
  obtain⟨k,Y,d,a1,a0⟩:=O;obtain⟨aH,aE⟩:=rm (fz:=fz) L G N k o a1 d;refine⟨aH,λh m=>?_⟩
  obtain⟨D,aI,au,aD,aw⟩:=aE h m;refine⟨.vp D 0,λQ=>by simp only[hO,aI Q],λ_=>.dw _ _,λv j=>.aW ?_⟩
  have ap:∀(i:Nat) (c:PV),(aP B D)[i]?=c5 c->cE 0 c:=λi c d=>aD Y c (ej d)
  rcases a0 with⟨Z,i,x,I,rfl,z,_,aC⟩ |rfl
  .have az:=df z;obtain⟨b,aF,cells,rfl,E,_,aV,_,_,aQ⟩:=Dc G.m j az (e7 _);have ae:∀(i:Nat) (c:PV),(aP B D)[i]?=c5 c->∃u,cells[i]?=c5 u/\u.oneCell'=true/\VI (dj g aa fz).F w c u:=λe c d=>by
    have M:e<(aP B k).length:=by have:=c9 d;rw[au] at this;exact this
    obtain⟨u,u1,u2,u3⟩:=aQ 0 e _ (show abk [PV.agg (aP B k)] 0 e=c5 (aP B k)[e] by simp[abk,PV.cells,M]);have aM:cells[e]?=c5 u:=by simpa using u1
    exact⟨u,aM,u2,(aw e _ c u (c4 M) d u3).dH (ap e c d)⟩
   have:=VI.dw (F:=(dj g aa fz).F) (w:=w) (aP B D) 0 b 0 (λe=>cells.getD e undef) (.inr ⟨i,aF,aC,E⟩)
    (λe c d=>by
     obtain⟨u,u1,u2,u3⟩:=ae e c d;rw[cell_of_row w b _ cells _ (0,0) aV,e6,u1];simp[hD,u1])
    (λe c d=>by
     obtain⟨u,u1,u2,u3⟩:=ae e c d;simpa[hD,u1] using u2)
    (λe c d=>by
     obtain⟨u,u1,u2,u3⟩:=ae e c d;simpa[hD,u1] using u3)
   simpa[pv] using this
  .have aZ:VI g.F w (.dw (aP B k) 0) v:=j.dH (.dw _ _);cases aZ with
   |dw _ _ b aR u aJ aG s a7=>
    have M:∀(e:Nat) (c:PV),(aP B D)[e]?=c5 c->e<(aP B k).length:=λe c d=>by have:=c9 d;rw[au] at this;exact this
    exact .dw (aP B D) 0 b aR u (.inl aJ) (λe c d=>aG e _ (c4 (M e c d))) (λe c d=>s e _ (c4 (M e c d)))
     λe c d=>(aw e _ c (u e) (c4 (M e c d)) d (.aW (a7 e _ (c4 (M e c d))))).dH (ap e c d)
 | .f bc N ay,p,o,t,a=>by
  simp only[eR] at a
  split at a
  .rename_i f k X;obtain⟨aS,S⟩:=a8 a;clear a;obtain rfl:=beq_eq aS;obtain⟨a9,aY,s,l,rfl⟩:=iK S;obtain⟨al,an⟩:=rm (fz:=fz) L G N k a9 (λi A=>t i (by simp only[jn,bK,c6];exact .inl A)) s;obtain⟨bf,ba⟩:=rm (fz:=fz) L G ay X aY (λi A=>t i (by simp only[jn,bK,c6];exact .inr A)) l;refine⟨by simp only[CP.bX,bK,e5];omega,λh m=>?_⟩
   obtain⟨a5,aO,rfl,a2,aL⟩:=eJ.split m al;obtain⟨D,af,aK,am,ao⟩:=an a5 a2;obtain⟨aq,aU,be,aT,aN⟩:=ba aO aL;refine⟨.fn f D aq,λQ=>by simp only[hO];rw[dv,af,aU],λY=>?_,λv j=>?_⟩
   .obtain⟨aA,a6⟩:=fu Y;exact .fn _ _ _ (am aA) (aT a6)
   .have a3:VR g (av B C) w (.fn f (aP B k) (aP B X)) v:=j;have O:∃K vs:List Value,v= .func (.func f) K.toArray vs.toArray/\(aP B k).length=K.length/\(∀(i:Nat) (c:PV) (n:Value),(aP B k)[i]?=c5 c->K[i]?=c5 n->VR g (av B C) w c n)/\(aP B X).length=vs.length/\
     (∀(i:Nat) (c:PV) (n:Value),(aP B X)[i]?=c5 c->vs[i]?=c5 n->VR g (av B C) w c n):=by
     cases a3 with
     |aW a=>cases a with |fn _ _ _ K vs W ak ad ah=>exact⟨K,vs,rfl,W,λi c n s l=>.aW (ak i c n s l),ad,λi c n s l=>.aW (ah i c n s l)⟩
     |fn _ _ _ K vs W ak ad ah=>exact⟨K,vs,rfl,W,ak,ad,ah⟩
    obtain⟨K,vs,rfl,W,aB,ad,aX⟩:=O;refine .fn f _ _ K vs (by show(aP B D).length=_;omega) (λi c n d J=>?_) (by show(aP B aq).length=_;omega) (λi c n d J=>?_)
    .have A:i<(aP B k).length:=by have:=c9 J;omega
     exact ao i _ c n (c4 A) d (aB i _ n (c4 A) J)
    .have A:i<(aP B X).length:=by have:=c9 J;omega
     exact aN i _ c n (c4 A) d (aX i _ n (c4 A) J)
  .cases a
 | .g N,p,o,t,a=>by
  simp only[eR] at a
  split at a
  .rename_i k;obtain⟨al,an⟩:=rm (fz:=fz) L G N k o t a;refine⟨al,λh m=>?_⟩
   obtain⟨D,af,aK,am,ao⟩:=an h m;refine⟨.agg D,λQ=>by simp only[hO,af Q],λY=>.agg _ (am Y),λv j=>?_⟩
   obtain⟨ag,rfl,W,V⟩:=VR.ky j;refine .agg _ ag (by show(aP B D).length=_;omega) λi c n d J=>?_
   have A:i<(aP B k).length:=by have:=c9 J;omega
   exact ao i _ c n (c4 A) d (V i _ n (c4 A) J)
  .cases a
 | .b b,p,o,t,a=>by
  simp only[eR] at a
  split at a
  .rename_i c;have E:b=c/\o=[]:=by
    cases b <;> cases c <;> simp at a <;> exact⟨rfl,a⟩
   obtain⟨rfl,rfl⟩:=E;refine⟨rfl,λh m=>?_⟩
   cases h with
   |nil=>exact⟨.bool b,λ_=>rfl,λ_=>.bool b,λv j=>.aW ((j.dH (.bool b)).mono (λ_ E=>.inl E) λ_ _=>rfl)⟩
   |cons y h=>exact m.elim
  .cases a
 | .i ai U,p,o,t,a=>by
  simp only[eR] at a
  split at a
  .rename_i bd y;obtain⟨s,S⟩:=a8 a;obtain⟨l,S⟩:=a8 S;injection S with S
   subst S;clear a;obtain rfl:=qh s;obtain rfl:y=U:=of_decide_eq_true l;refine⟨rfl,λh m=>?_⟩
   cases h with
   |nil=>exact⟨.int ai y,λ_=>rfl,λ_=>.int ai y,λv j=>.aW ((j.dH (.int ai y)).mono (λ_ E=>.inl E) λ_ _=>rfl)⟩
   |cons y h=>exact m.elim
  .cases a
 | .ns,p,o,t,a=>by
  simp only[eR] at a
  split at a
  .injection a with a
   subst a;refine⟨rfl,λh m=>?_⟩
   cases h with
   |nil=>exact⟨.bg,λ_=>rfl,λ_=>.bg,λv j=>.aW ((j.dH .bg).mono (λ_ E=>.inl E) λ_ _=>rfl)⟩
   |cons y h=>exact m.elim
  .cases a
 | .z,p,o,t,a=>by
  simp only[eR] at a
  split at a
  .injection a with a
   subst a;refine⟨rfl,λh m=>?_⟩
   cases h with
   |nil=>exact⟨.dB,λ_=>rfl,λ_=>.dB,λv j=>.aW ((j.dH .dB).mono (λ_ E=>.inl E) λ_ _=>rfl)⟩
   |cons y h=>exact m.elim
  .cases a
def rm{g:Gh}{m x:List (Ob B.D)}{o:World}{C:List Rf}{t:List Nat}{z:Nat->Option Nat}{fz:Nat->Prop}{y:Nat->Nat×Nat}(v:cU P B)(D:mR B g m x o C t z y):
 ∀(c:List CP) (j:List (TV B.D)) (d:List (TV B.D)),(∀i,i∈gJ m c j->i∉t->fz i)->fg m C t c j=c5 d->d.length=(CP.gA c).length/\∀f,eJ B (CP.gA c) d f->∃k,(∀p,jD y c (f++p)=(k,p))/\(aP B k).length=(aP B j).length/\
  (ow c=true->∀a,a∈aP B k->cE 0 a)/\∀(i:Nat) (a l:PV) (h:Value),(aP B j)[i]?=c5 a->(aP B k)[i]?=c5 l->VR g (av B m) o a h->VR (dj g z fz) (av B x) o l h
 |[],[],d,_,b=>by
  simp only[fg,ee] at b;subst b;refine⟨rfl,λf n=>?_⟩
  cases f with
  |nil=>exact⟨[],λ_=>rfl,rfl,λ_ a e=>(by cases e),λi a l h e=>(by simp[aP] at e)⟩
  |cons af f=>exact n.elim
 |a::c,T::j,d,w,b=>by
  simp only[fg] at b;obtain⟨X,K,M,L,rfl⟩:=iK b;obtain⟨E,U⟩:=RY (fz:=fz) v D a T X (λi u=>w i (by simp only[gJ,bK,c6];exact .inl u)) M;obtain⟨ae,ab⟩:=rm (fz:=fz) v D c j K (λi u=>w i (by simp only[gJ,bK,c6];exact .inr u)) L;refine⟨by simp only[CP.gA,bK,e5];omega,λf n=>?_⟩
  obtain⟨W,aa,rfl,O,ad⟩:=eJ.split n E;obtain⟨J,ac,Z,G⟩:=U W O;obtain⟨k,H,S,F,Y⟩:=ab aa ad;refine⟨J::k,λp=>by simp only[jD];rw[dv,ac,H],by simp[aP,S],λN a e=>?_,λi Q l h q s A=>?_⟩
  .obtain⟨I,V⟩:=fu N;rcases dd.1 e with rfl |e
   .exact Z I
   .exact F V a e
  .cases i with
   |zero=>simp[aP] at q s;subst q;subst s;exact G h A
   |succ i=>exact Y i Q l h (by simpa[aP] using q) (by simpa[aP] using s) A
 |[],_::_,d,_,b=>by simp[fg] at b
 |_::_,[],d,_,b=>by simp[fg] at b
end
end
section
variable {P:Program}{B:Tb}{R:Type}{r:R}
def eJ.len:∀{ns:List Nat} {ls a:List (TV B.D)},eJ B ns ls a->a.length=ns.length/\ls.length=ns.length
 |[],[],[],_=>⟨rfl,rfl⟩
 |n::ns,e::ls,m::a,h=>by
  obtain⟨c,d⟩:=eJ.len h.2;exact⟨by simp[c],by simp[d]⟩
 |[],[],_::_,h=>h.elim
 |[],_::_,_,h=>h.elim
 |_::_,[],_,h=>h.elim
 |_::_,_::_,[],h=>h.elim
def eJ.one{n:Nat}{ls c:List (TV B.D)}(h:eJ B [n] ls c):∃a x,ls=[a]/\B.up n a=c5 x/\c=[B.tv n x]:=by
 match ls,c,h with
 |[a],[m],⟨⟨x,d,e⟩,_⟩=>exact⟨a,x,rfl,d,by rw[e]⟩
 |[],_,h=>exact h.elim
 |_::_,[],h=>exact h.elim
 |_::_::_,_::_,⟨_,h⟩=>exact h.elim
 |[_],_::_::_,⟨_,h⟩=>exact h.elim
mutual
def Wb{j:Nat->Type}(g:Nat->Nat×Nat):∀(i:CP) (a:List (TV j)),a.length=i.bX.length->∃t,∀e,hO g i (a++e)=(t,e)
 | .any,a,c=>by
  obtain rfl:=dT (l:=a) (by simpa[CP.bX] using c);exact⟨_,λ_=>rfl⟩
 | .v s,a,c=>by
  match a,c with
  |[u],_=>exact⟨_,λ_=>rfl⟩
 | .p q,a,c=>by
  obtain rfl:=dT (l:=a) (by simpa[CP.bX] using c);exact⟨_,λ_=>rfl⟩
 | .r q,a,c=>by
  obtain rfl:=dT (l:=a) (by simpa[CP.bX] using c);exact⟨_,λ_=>rfl⟩
 | .b b,a,c=>by
  obtain rfl:=dT (l:=a) (by simpa[CP.bX] using c);exact⟨_,λ_=>rfl⟩
 | .i f s,a,c=>by
  obtain rfl:=dT (l:=a) (by simpa[CP.bX] using c);exact⟨_,λ_=>rfl⟩
 | .ns,a,c=>by
  obtain rfl:=dT (l:=a) (by simpa[CP.bX] using c);exact⟨_,λ_=>rfl⟩
 | .z,a,c=>by
  obtain rfl:=dT (l:=a) (by simpa[CP.bX] using c);exact⟨_,λ_=>rfl⟩
 | .q d,a,c=>by
  obtain⟨h,f,_⟩:=pd g d a c;exact⟨.vp h 0,λe=>by simp only[hO,f e]⟩
 | .g d,a,c=>by
  obtain⟨h,f,_⟩:=pd g d a c;exact⟨.agg h,λe=>by simp only[hO,f e]⟩
 | .f o d m,a,c=>by
  simp only[CP.bX,bK,e5] at c;obtain⟨p,f,_⟩:=pd g d (a.take (CP.gA d).length) (by rw[hq];omega);obtain⟨n,k,_⟩:=pd g m (a.drop (CP.gA d).length) (by rw[ih];omega);refine⟨.fn o p n,λe=>?_⟩
  rw[<-gx (CP.gA d).length a,dv];simp only[hO,f,k]
def pd{h:Nat->Type}(e:Nat->Nat×Nat):∀(b:List CP) (a:List (TV h)),a.length=(CP.gA b).length->∃g,(∀f,jD e b (a++f)=(g,f))/\g.length=b.length
 |[],a,d=>by
  obtain rfl:=dT (l:=a) (by simpa[CP.gA] using d);exact⟨[],λ_=>rfl,rfl⟩
 |c::b,a,d=>by
  simp only[CP.gA,bK,e5] at d;obtain⟨n,m⟩:=Wb e c (a.take c.bX.length) (by rw[hq];omega);obtain⟨i,j,k⟩:=pd e b (a.drop c.bX.length) (by rw[ih];omega);refine⟨n::i,λf=>?_,by simp[k]⟩
  rw[<-gx c.bX.length a,dv];simp only[jD,m,j]
end
def Kg{e:Nat->Type}{g:List (Ob e)}{h:List Rf}{i:List Nat}:∀{d:List CP} {c b:List (TV e)},fg g h i d c=c5 b->c.length=d.length
 |[],[],_,_=>rfl
 |k::d,n::c,b,a=>by
  simp only[fg] at a;obtain⟨m,l,j,f,rfl⟩:=iK a;simp[Kg f]
 |[],_::_,b,a=>by simp[fg] at a
 |_::_,[],b,a=>by simp[fg] at a
def mS(n:cU P B){u:List (Ob B.D)}{G:List Rf}{H:List Nat}{ρ:Nat->Nat×Nat}{k:OP}{i:Rf}{w j:List (TV B.D)}(d v:Nat)(a:dn u G H k i=c5 w)(p:eJ B k.bX w j):
 ∃b,(∀f,dI ρ d v k (j++f)=(b,f))/\b.st=d/\b.aF=v/\
  ((∃q l,i= .bG q/\nth u q=c5 l/\(aY B b).ty=(aY B l).ty/\(aY B b).sz=(aY B l).sz/\(aY B b).es.length=(aY B l).es.length)\/(i= .new/\(aY B b).es=[]/\0<(aY B b).sz)):=by
 cases k with
 |aap c A=>
  obtain⟨I,x,rfl,z,rfl⟩:=p.one;cases i with
  |bG q=>
   simp only[dn] at a
   split at a
   .rename_i E y g;obtain⟨h,e⟩:=a8 a;obtain rfl:=beq_eq h;simp only[ee,o2,and_true] at e;subst e;rw[n.row A c y x z];exact⟨⟨d,v,.aap c y⟩,λ_=>rfl,rfl,rfl,.inl ⟨q,_,rfl,g,rfl,rfl,rfl⟩⟩
   .cases a
  |new=>
   simp only[dn,ee,o2,and_true] at a;subst a;rw[n.row A c [] x z];exact⟨⟨d,v,.aap c []⟩,λ_=>rfl,rfl,rfl,.inr ⟨rfl,rfl,n.pos c⟩⟩
  |gone=>simp[dn] at a
  |bad=>simp[dn] at a
 |box F D=>
  cases i with
  |bG q=>
   simp only[dn] at a
   split at a
   .rename_i K L g;obtain⟨h,e⟩:=a8 a;obtain rfl:=beq_eq h;obtain⟨t,s,m⟩:=pd ρ D j p.len.1;have o:=Kg e;exact⟨⟨d,v,.box F t⟩,λf=>by simp only[dI,s f],rfl,rfl,.inl ⟨q,_,rfl,g,rfl,by simp[aY,m,o],rfl⟩⟩
   .cases a
  |new=>simp[dn] at a
  |gone=>simp[dn] at a
  |bad=>simp[dn] at a
 |dead=>cases i <;> simp[dn] at a
 |refs c C=>
  cases i with
  |bG q=>
   simp only[dn] at a
   split at a
   .rename_i E J g;obtain⟨h,e⟩:=a8 a;obtain rfl:=beq_eq h;obtain⟨t,s,m⟩:=pd ρ (iQ C) j p.len.1;have o:=Kg e;exact⟨⟨d,v,.hole c [] t⟩,λf=>by simp only[dI,s f],rfl,rfl,.inl ⟨q,_,rfl,g,rfl,rfl,by simp[aY,db,m,o]⟩⟩
   .cases a
  |new=>simp[dn] at a
  |gone=>simp[dn] at a
  |bad=>simp[dn] at a
def Fq{c:List (Ob B.D)}:∀(a:List Nat) (b:List (TV B.D)),gJ c (iQ a) b=[]
 |[],[]=>rfl
 |[],_::_=>rfl
 |q::a,[]=>rfl
 |q::a,d::b=>by
  simp only[iQ,gJ,jn,aX];exact Fq a b
def QY:∀(a:List Nat),CP.gA (iQ a)=[]
 |[]=>rfl
 |q::a=>by simp only[iQ,CP.gA,CP.bX,aX];exact QY a
def uA{d:Nat->Type}{c:Nat->Nat×Nat}:∀(b:List Nat) (a:List (TV d)),jD c (iQ b) a=(b.map λq=>.fl (c q).1 (c q).2,a)
 |[],a=>rfl
 |q::b,a=>by simp only[iQ,jD,hO,uA b a,hz]
def Fw{j:List (Ob B.D)}{k:List Rf}{l:List Nat}:∀{d:List Nat} {e h:List (TV B.D)},fg j k l (iQ d) e=c5 h->∀c,c∈e->(pv B c).cells=[pv B c]
 |[],[],_,_,c,a=>by cases a
 |[],_::_,_,a,_,_=>by simp[iQ,fg] at a
 |q::d,[],_,a,_,_=>by simp[iQ,fg] at a
 |q::d,c::e,h,a,b,f=>by
  simp only[iQ,fg] at a;obtain⟨n,m,g,i,_⟩:=iK a;rcases dd.1 f with rfl |f
  .cases b <;> simp only[eR] at g <;> first |rfl |cases g
  .exact Fw i b f
def apB(A:cU P B){g:Gh}{u ab:List (Ob B.D)}{M:World}{af:List Rf}{U:List Nat}{ad:Nat->Option Nat}{fz:Nat->Prop}{J:Nat->Nat×Nat}(V:mR B g u ab M af U ad J){z:OP}{q:Nat}{H G:List (TV B.D)}{L v:Nat}{K:Ob B.D}
 (ao:∀ae I L v ac y,z= .box ae I->nth u q=c5 ⟨L,v,.box ac y⟩->∀i,i∈gJ u I y->i∉U->fz i) (h:dn u af U z (.bG q)=c5 H) (O:eJ B z.bX H G) (l:∀Z,dI J L v z (G++Z)=(K,Z)):
 (∀(i:Nat) (a:PV),(aY B K).es[i]?=c5 a->a.cells.length=(aY B K).sz)/\
 ∃ag,nth u q=c5 ag/\∀i d m,abk (aY B K).es i d=c5 m->∃n,abk (aY B ag).es i d=c5 n/\∀s,VR g (av B u) M n s->VR (dj g ad fz) (av B ab) M m s:=by
 have l:=l [];rw[ft] at l;cases z with
 |aap E n=>
  obtain⟨p,aq,rfl,aw,rfl⟩:=O.one;simp only[dn] at h
  split at h
  .rename_i au aa t;obtain⟨w,o⟩:=a8 h;obtain rfl:=beq_eq w;simp only[ee,o2,and_true] at o;subst o;rw[A.row n E aa aq aw] at l;simp only[dI,h5,and_true] at l;subst l;have ar:∀a,a∈aa.map (B.ty E).enc->cE 0 a:=J2 A;refine⟨λi a k=>?_,_,t,λi d m b=>⟨m,b,λs F=>.aW ((F.dH (nR ar b)).mono (λ_ am=>.inl am) λ_ _=>rfl)⟩⟩
   obtain⟨ax,_,rfl⟩:=ey.1 (ej k);exact A.wid E ax
  .cases h
 |box ae I=>
  simp only[dn] at h
  split at h
  .rename_i ac y t;obtain⟨w,o⟩:=a8 h;obtain⟨_,Q⟩:=rm (fz:=fz) A V I y H (ao _ _ _ _ _ _ rfl t) o;obtain⟨x,S,an,_,N⟩:=Q G O;have a:=S [];rw[ft] at a;simp only[dI,a,h5,and_true] at l;subst l;refine⟨λi a k=>?_,_,t,λi d m b=>?_⟩
   .match i,k with
    |0,k=>
     simp only[aY,kc,ee] at k;subst k;simp[aY,PV.cells,db]
   .match i,b with
    |0,b=>
     have D:(aP B x)[d]?=c5 m:=b;have ah:d<(aP B y).length:=by have:=c9 D;omega
     exact⟨(aP B y)[d],c4 ah,λs F=>N d _ m s (c4 ah) D F⟩
  .cases h
 |dead=>simp[dn] at h
 |refs E W=>
  simp only[dn] at h
  split at h
  .rename_i au f t;obtain⟨w,o⟩:=a8 h;obtain rfl:=beq_eq w;obtain⟨_,Q⟩:=rm (fz:=fz) A V (iQ W) f H (λi c=>by rw[Fq] at c;cases c) o;obtain⟨x,S,an,_,N⟩:=Q G O;have a:=S [];rw[ft] at a;simp only[dI,a,h5,and_true] at l;subst l;have ai:x=W.map λq=>.fl (J q).1 (J q).2:=by
    rw[uA] at a;exact(eE a).1.symm
   have ap:∀(p:List (TV B.D)),(∀e,e∈p->(pv B e).cells=[pv B e])->∀i d n,abk (aP B p) i d=c5 n->d=0/\(aP B p)[i]?=c5 n:=λp al i d n b=>by
    unfold abk at b;cases c:(aP B p)[i]? with
    |none=>rw[c] at b;cases b
    |some a=>
     rw[c] at b;have b:a.cells[d]?=c5 n:=b;rw[db,ec] at c;cases j:p[i]? with
     |none=>rw[j] at c;cases c
     |some e=>
      rw[j] at c;injection c with c
      subst c;rw[al e (ej j)] at b;cases d with
      |zero=>injection b with b;exact⟨rfl,by rw[b]⟩
      |succ d=>simp at b
   have Y:∀e,e∈x->(pv B e).cells=[pv B e]:=λe j=>by
    rw[ai] at j;obtain⟨q,_,rfl⟩:=ey.1 j
    rfl
   refine⟨λi a k=>?_,_,t,λi d m b=>?_⟩
   .have k:(aP B x)[i]?=c5 a:=k;have c:i<(aP B f).length:=by have:=c9 k;omega
    have aj:=(V.m.obj _ _ (df t)).width i _ (show(aY B ⟨_,_,.hole E [] f⟩).es[i]?=c5 (aP B f)[i] from c4 c);have w:(aP B f)[i].cells.length=1:=by
     have T:(aP B f)[i]∈f.map (pv B):=by rw[<-db];exact q6 c
     obtain⟨e,j,C⟩:=ey.1 T;rw[<-C,Fw o e j]
     rfl
    have ak:a.cells.length=1:=by
     rw[db] at k;obtain⟨e,j,C⟩:=ey.1 (ej k);rw[<-C,Y e j]
     rfl
    rw[ak, <-w,aj]
    rfl
   .obtain⟨rfl,D⟩:=ap x Y i d m b;have c:i<(aP B f).length:=by have:=c9 D;omega
    have X:(aP B f)[i]?=c5 (aP B f)[i]:=c4 c;refine⟨(aP B f)[i],?_,λs F=>N i _ m s X D F⟩
    unfold abk;show((aP B f)[i]?.bind λa=>a.cells[0]?)=_
    rw[X];have T:(aP B f)[i]∈f.map (pv B):=by rw[<-db];exact q6 c
    obtain⟨e,j,C⟩:=ey.1 T;rw[<-C];show(pv B e).cells[0]?=_
    rw[Fw o e j]
    rfl
  .cases h
def xN{g:List (Ob B.D)}{n:List Rf}{j:List Nat}{ρ:Nat->Nat×Nat}(T:cU P B):∀{x:List (Nat×List Nat×OP)} {G:List Rf} {d k:List (TV B.D)} {q0:Nat},iP g n j x G=c5 d->eJ B (rS x) d k->
 ∃A,(∀t,lM ρ q0 x (k++t)=(A,t))/\A.length=G.length/\∀h i,G[h]?=c5 i->∃p H J M,A[h]?=c5 M/\dn g n j p i=c5 H/\eJ B p.bX H J/\(∀t,dI ρ 0 (ρ (q0+h)).2 p (J++t)=(M,t))/\
  ∀u e y I v L E,p= .box u e->i= .bG y->nth g y=c5 ⟨I,v,.box L E⟩->∀C,C∈gJ g e E->C∈eW g x G
 |[],[],d,k,q0,a,s=>by
  simp only[iP,ee] at a;subst a;cases k with
  |nil=>exact⟨[],λ_=>rfl,rfl,by simp⟩
  |cons N k=>exact s.elim
 |F::x,i::G,d,k,q0,a,s=>by
  simp only[iP] at a;obtain⟨w,K,c,z,rfl⟩:=iK a;have ae:w.length=F.2.2.bX.length:=by
   have:=s.len.2;cases l:F.2.2 with
   |aap N m=>
    rw[l] at c;cases i <;> simp only[dn] at c
    .split at c
     .obtain⟨_,c⟩:=a8 c;injection c with c;subst c;rfl
     .cases c
    .injection c with c;subst c;rfl
    .cases c
    .cases c
   |box u e=>
    rw[l] at c;cases i <;> simp only[dn] at c
    .split at c
     .obtain⟨_,c⟩:=a8 c;exact Q7 c
     .cases c
    .cases c
    .cases c
    .cases c
   |dead=>rw[l] at c;cases i <;> simp[dn] at c
   |refs N Z=>
    rw[l] at c;cases i <;> simp only[dn] at c
    .split at c
     .obtain⟨_,c⟩:=a8 c;exact Q7 c
     .cases c
    .cases c
    .cases c
    .cases c
  obtain⟨al,aw,rfl,Y,ab⟩:=eJ.split s ae;obtain⟨A,ai,af,aj⟩:=xN (ρ:=ρ) (q0:=q0+1) T z ab;obtain⟨W,U,_⟩:=mS T (ρ:=ρ) 0 (ρ q0).2 c Y;refine⟨W::A,λt=>by simp only[lM];rw[dv,U,ai],by simp[af],λh ap D=>?_⟩
  cases h with
  |zero=>
   simp at D;subst D;refine⟨F.2.2,w,al,W,rfl,c,Y,U,λu e y I v L E l D Q C S=>?_⟩
   obtain⟨ac,am,O⟩:=F;obtain rfl:O= .box u e:=l;subst D;simp only[eW,Q,bK,c6];exact .inl S
  |succ h=>
   obtain⟨p,H,J,M,ad,V,ag,an,ao⟩:=aj h ap (by simpa using D);refine⟨p,H,J,M,by simpa using ad,V,ag,by rw[show q0+(h+1)=q0+1+h by omega];exact an,λu e y I v L E l ak Q C S=>?_⟩
   have:=ao u e y I v L E l ak Q C S;obtain⟨ac,am,O⟩:=F;cases O with
   |aap N m=>simpa[eW] using this
   |dead=>simpa[eW] using this
   |refs N Z=>simpa[eW] using this
   |box aq ar=>
    cases i with
    |bG V=>simp only[eW,bK,c6];exact .inr this
    |new=>simpa[eW] using this
    |gone=>simpa[eW] using this
    |bad=>simpa[eW] using this
 |[],_::_,d,k,q0,a,s=>by simp[iP] at a
 |_::_,[],d,k,q0,a,s=>by simp[iP] at a
where
 Q7 {g:List (Ob B.D)} {n:List Rf} {j:List Nat}:∀{e:List CP} {o d:List (TV B.D)},fg g n j e o=c5 d->d.length=(CP.gA e).length:=λ{e o d} a=>(pp e o d a)
 pp {g:List (Ob B.D)} {n:List Rf} {j:List Nat}:∀(e:List CP) (o d:List (TV B.D)),fg g n j e o=c5 d->d.length=(CP.gA e).length
  |[],[],d,a=>by simp[fg] at a;subst a;rfl
  |m::e,f::o,d,a=>by
   simp only[fg] at a;obtain⟨w,K,c,z,rfl⟩:=iK a;simp only[CP.gA,bK,e5,pp e o K z,aj0 m f w c]
  |[],_::_,d,a=>by simp[fg] at a
  |_::_,[],d,a=>by simp[fg] at a
 aj0 {g:List (Ob B.D)} {n:List Rf} {j:List Nat}:∀(m:CP) (f:TV B.D) (d:List (TV B.D)),eR g n j m f=c5 d->d.length=m.bX.length
  | .any,f,d,a=>by simp[eR] at a;subst a;rfl
  | .v ah,f,d,a=>by simp[eR] at a;subst a;rfl
  | .p q,f,d,a=>by
   simp only[eR] at a
   split at a
   .split at a
    .obtain⟨_,a⟩:=a8 a;injection a with a;subst a;rfl
    .cases a
   .cases a
  | .r q,f,d,a=>by
   simp only[eR] at a
   split at a
   .split at a
    .obtain⟨_,a⟩:=a8 a;injection a with a;subst a;rfl
    .obtain⟨_,a⟩:=a8 a;injection a with a;subst a;rfl
    .cases a
   .split at a
    .injection a with a;subst a;rfl
    .cases a
   .split at a
    .injection a with a;subst a;rfl
    .cases a
   .cases a
  | .q e,f,d,a=>by
   simp only[eR] at a
   split at a
   .rename_i i av
    split at a
    .cases X:has j i with
     |true=>rw[X] at a;cases a
     |false=>
      rw[X] at a;obtain⟨_,a⟩:=a8 a;exact pp e _ d a
    .cases a
   .obtain⟨_,a⟩:=a8 a;exact pp e _ d a
   .cases a
  | .f au e aa,f,d,a=>by
   simp only[eR] at a
   split at a
   .obtain⟨_,a⟩:=a8 a;obtain⟨w,K,c,z,rfl⟩:=iK a;simp only[CP.bX,bK,e5,pp e _ w c,pp aa _ K z]
   .cases a
  | .g e,f,d,a=>by
   simp only[eR] at a
   split at a
   .exact pp e _ d a
   .cases a
  | .b b,f,d,a=>by
   simp only[eR] at a
   split at a
   .rename_i m;cases b <;> cases m <;> simp at a <;> (subst a;rfl)
   .cases a
  | .i h ah,f,d,a=>by
   simp only[eR] at a
   split at a
   .obtain⟨_,a⟩:=a8 a;obtain⟨_,a⟩:=a8 a;injection a with a;subst a;rfl
   .cases a
  | .ns,f,d,a=>by
   simp only[eR] at a
   split at a
   .injection a with a;subst a;rfl
   .cases a
  | .z,f,d,a=>by
   simp only[eR] at a
   split at a
   .injection a with a;subst a;rfl
   .cases a
def Ip(v:cU P B){g:Gh}{z:List (Ob B.D)}{f:St B.D}{w:World}{C:List Rf}{t:List Nat}{A:Nat->Option Nat}{fz:Nat->Prop}{q:Nat->Nat×Nat}(D:mR B g f.H z w C t A q):∀{b:List (Nat×CP)} {j e:List (TV B.D)},(∀i,i∈gK f b->i∉t->fz i)->oz f C t b=c5 j->eJ B (vu b) j e->
 ∀d a,(∃c h,(a,c)∈b/\lk (aX (gR q b e) d) a=h/\Sb B g f.H z w A fz c (lk f.E a) h)\/((∀c,(a,c)∉b)/\lk (aX (gR q b e) d) a=lk d a)
 |[],j,e,_,n,y,d,a=>by
  exact .inr ⟨by simp,rfl⟩
 |p::b,j,e,x,n,y,d,a=>by
  simp only[oz] at n;obtain⟨N,T,I,H,rfl⟩:=iK n;obtain⟨E,K⟩:=RY (fz:=fz) v D p.2 _ N (λi u=>x i (by simp only[gK,bK,c6];exact .inl u)) I;obtain⟨M,U,rfl,J,G⟩:=eJ.split y E;obtain⟨h,Q,O⟩:=K M J;simp only[gR,Q,aX,lk];cases k:fe p.1 a with
  |true=>
   obtain rfl:=beq_eq k;exact .inl ⟨p.2,h,by simp,rfl,O⟩
  |false=>
   have F:p.1≠a:=λs=>by rw[s,hQ] at k;cases k
   rcases Ip (fz:=fz) v D (λi u=>x i (by simp only[gK,bK,c6];exact .inr u)) H G d a with⟨c,S,o,l,L⟩ |⟨o,l⟩
   .exact .inl ⟨c,S,c7 _ o,l,L⟩
   .exact .inr ⟨λc m=>by
     rcases dd.1 m with s |m
     .exact F (by rw[<-s])
     .exact o c m,l⟩
def oQ{d:List (Ob B.D)}{e:List Rf}{f:List Nat}:∀{c:List (Nat×List Nat×OP)} {g:List Rf} {b:List (TV B.D)},iP d e f c g=c5 b->b.length=(rS c).length
 |[],[],b,a=>by simp[iP] at a;subst a;rfl
 |s::c,i::g,b,a=>by
  simp only[iP] at a;obtain⟨q,p,h,k,rfl⟩:=iK a;simp only[rS,bK,e5,oQ k,rD h]
 |[],_::_,b,a=>by simp[iP] at a
 |_::_,[],b,a=>by simp[iP] at a
where
 rD {d:List (Ob B.D)} {e:List Rf} {f:List Nat} {op:OP} {i:Rf} {b:List (TV B.D)} (a:dn d e f op i=c5 b):b.length=op.bX.length:=by
  cases op with
  |aap m o=>
   cases i <;> simp only[dn] at a
   .split at a
    .obtain⟨_,a⟩:=a8 a;injection a with a;subst a;rfl
    .cases a
   .injection a with a;subst a;rfl
   .cases a
   .cases a
  |box n l=>
   cases i <;> simp only[dn] at a
   .split at a
    .obtain⟨_,a⟩:=a8 a;exact xN.pp l _ b a
    .cases a
   .cases a
   .cases a
   .cases a
  |dead=>cases i <;> simp[dn] at a
  |refs m j=>
   cases i <;> simp only[dn] at a
   .split at a
    .obtain⟨_,a⟩:=a8 a;exact xN.pp (iQ j) _ b a
    .cases a
   .cases a
   .cases a
   .cases a
def gV:∀{b:List Rf} {q i:Nat},nth b q=c5 (.bG i)->i∈bL b
 | .bG c::b,0,i,a=>by simp only[nth,ee,Rf.bG.injEq] at a;subst a;simp[bL]
 | .bG c::b,q+1,i,a=>by simp only[nth] at a;simp[bL,gV a]
 | .new::b,q+1,i,a=>by simp only[nth] at a;simpa[bL] using gV a
 | .gone::b,q+1,i,a=>by simp only[nth] at a;simpa[bL] using gV a
 | .bad::b,q+1,i,a=>by simp only[nth] at a;simpa[bL] using gV a
 | .new::_,0,i,a=>by simp[nth] at a
 | .gone::_,0,i,a=>by simp[nth] at a
 | .bad::_,0,i,a=>by simp[nth] at a
 |[],_,_,a=>by simp[nth] at a
def ES:∀{ids:List Rf} {q d i:Nat},(bL ids).Nodup->nth ids q=c5 (.bG i)->nth ids d=c5 (.bG i)->q=d
 |[],_,_,_,_,a,_=>by simp[nth] at a
 |_::_,0,0,_,_,_,_=>rfl
 |e::ids,0,d+1,i,b,a,c=>by
  simp only[nth,ee] at a c;subst a;simp only[bL,k8] at b;exact absurd (gV c) b.1
 |e::ids,q+1,0,i,b,a,c=>by
  simp only[nth,ee] at a c;subst c;simp only[bL,k8] at b;exact absurd (gV a) b.1
 |e::ids,q+1,d+1,i,b,a,c=>by
  have f:(bL ids).Nodup:=by
   cases e <;> simp only[bL,k8] at b <;> first |exact b.2 |exact b
  rw[ES (ids:=ids) f a c]
def eQ(a:List Rf)(q:Nat):Option Nat:=match nth a q with
 |some (.bG i)=>c5 i
 |_=>ea
def qS{b:List Rf}{q i:Nat}(a:eQ b q=c5 i):nth b q=c5 (.bG i):=by
 unfold eQ at a
 split at a
 .rename_i d c;injection a with a
  rw[c,a]
 .cases a
def pn{a:List Rf}{q i:Nat}(b:nth a q=c5 (.bG i)):eQ a q=c5 i:=by unfold eQ;rw[b]
end
section
variable {P:Program}{B:Tb}{R:Type}{r:R}
def Qq{l:Nat->Type}{h:List (Ob l)}:∀{c b:Nat} {f:List Rf},qH h c b f=true->∀i,i<c->nth f i=c5 (.bG (b+i))/\∃d,nth h (b+i)=c5 d/\d.aF=0
 |0,_,_,_,i,m=>by omega
 |c+1,b,[],a,_,_=>by simp[qH] at a
 |c+1,b,.bG g::f,a,i,m=>by
  simp only[qH] at a;obtain⟨j,e⟩:=fu a;obtain rfl:=beq_eq j
  split at e
  .rename_i d o;obtain⟨k,n⟩:=fu e;cases i with
   |zero=>exact⟨rfl,d,o,beq_eq k⟩
   |succ i=>
    have:=Qq n i (by omega);rw[show g+(i+1)=g+1+i by omega];exact this
  .cases e
 |c+1,b,.new::_,a,_,_=>by simp[qH] at a
 |c+1,b,.gone::_,a,_,_=>by simp[qH] at a
 |c+1,b,.bad::_,a,_,_=>by simp[qH] at a
def oU{d:List (Ob B.D)}{i:Nat}{e:aO}(a:(av B d)[i]?=c5 e):∃b,nth d i=c5 b/\e=aY B b:=by
 unfold av at a;rw[ec] at a;cases c:d[i]? with
 |none=>rw[c] at a;cases a
 |some b=>
  rw[c] at a;injection a with a
  exact⟨b,by rw[cJ];exact c,a.symm⟩
def O1(C:cU P B){g:Gh}{h o:List (Ob B.D)}{t:World}{b:List Rf}{y:Nat->Prop}{Q:Nat->Nat×Nat}(z:mR B g h o t b (bL b) (eQ b) Q)(am:(bL b).Nodup)(az:b.length<=o.length)(ap:∀i,y i->∀q,eQ b q≠c5 i)
 (w:∀q c,nth o q=c5 c->(∃k i D A m v,nth b q=c5 (.bG i)/\(∀T E m v al W,k= .box T E->nth h i=c5 ⟨m,v,.box al W⟩->∀i,i∈gJ h E W->i∉bL b->y i)/\dn h b (bL b) k (.bG i)=c5 D/\eJ B k.bX D A/\∀N,dI Q m v k (A++N)=(c,N))\/
  (∃i s,nth b q=c5 (.bG i)/\nth h i=c5 s/\c=s/\∀x M,VR g (av B h) t x M->(∃G p l,aY B s=G/\abk G.es p l=c5 x\/cE 0 x)->VR (dj g (eQ b) y) (av B o) t x M)\/
  (eQ b q=ea/\(aY B c).es=[]/\0<(aY B c).sz)):bF (dj g (eQ b) y) (av B o) t:=by
 refine bF.re z.m ap (λq aA i j Z=>ES am (qS j) (qS Z)) (λq i j=>?_) λq G ab=>?_
 .have j:=qS j;rw[cJ] at j;have:=c9 j;rw[qL];omega
 .obtain⟨c,aw,rfl⟩:=oU ab;rcases w q c aw with⟨k,i,D,A,m,v,n,af,d,L,I⟩ |⟨i,s,n,O,rfl,aa⟩ |⟨a,f,aj⟩
  .obtain⟨ag,ae,_,_,ac⟩:=mS C m v d L;obtain rfl:ag=c:=by
    have ar:=ae [];have H:=I [];rw[ar] at H;exact(eE H).1
   obtain⟨ak,s,F,an⟩:=apB C z af d L I;rcases ac with⟨X,ay,e,u,ah,J,au⟩ |⟨e,_⟩
   .injection e with e
    subst e;rw[F] at u;injection u with u
    subst u;have ao:=(z.m.obj i _ (df F)).pos;refine⟨by rw[J];exact ao,ak,λa=>?_,λX a=>?_⟩
    .rw[pn n] at a;cases a
    .rw[pn n] at a;injection a with a
     subst a;exact⟨_,df F,ah,J,au,an⟩
   .cases e
  .have w:=z.m.obj i _ (df O);refine⟨w.pos,w.width,λa=>?_,λX a=>?_⟩
   .rw[pn n] at a;cases a
   .rw[pn n] at a;injection a with a
    subst a;refine⟨_,df O,rfl,rfl,rfl,λp l K d=>⟨K,d,λad ax=>aa K ad ax ?_⟩⟩
    cases U:c.bd with
    |aap Y ai=>
     refine⟨aY B c,p,l,.inr (nR (es:=(aY B c).es) (λe f=>?_) d)⟩
     simp only[aY,U] at f;obtain⟨aq,_,rfl⟩:=ey.1 f;exact C.lt Y aq
    |box T E=>
     exact⟨aY B c,p,l,.inl ⟨rfl,d⟩⟩
    |hole Y ai es=>
     exact⟨aY B c,p,l,.inl ⟨rfl,d⟩⟩
    |dead=>
     obtain⟨e,f,_⟩:=gw d;simp[aY,U] at f
  .refine⟨aj,λi e V=>?_,λ_=>f,λi S=>?_⟩
   .rw[f] at V;simp at V
   .rw[a] at S;cases S
def PQ(k:cU P B){p:bY}{e:St B.D}{a:List Rf}{T:List (TV B.D)}{l:bi B.D p.bX}(o:leaves p e a=c5 T)(ar:eJ B p.bX T (rQ B p.bX l)){g:Gh}{d:World}(ao:bF g (av B e.H) d)
 {fz:Nat->Prop} (am:∀i,fz i->∀q,eQ a q≠c5 i) (V:∀i,i∈aX (eW e.H p.dF a) (gK e p.dE)->i∉bL a->fz i):
 (bL a).Nodup/\mR B g e.H (cz B p l).H d a (bL a) (eQ a) (λq=>(q,0))/\bF (dj g (eQ a) fz) (av B (cz B p l).H) d/\
  ∀t v,VR g (av B e.H) d (pv B (lk e.E t)) v->VR (dj g (eQ a) fz) (av B (cz B p l).H) d (pv B (lk (cz B p l).E t)) v:=by
 unfold leaves at o;obtain⟨ax,o⟩:=a8 o;obtain⟨S,o⟩:=a8 o;obtain⟨aB,aw,U,ad,rfl⟩:=iK o;obtain⟨A,J,X,ak,aa⟩:=eJ.split ar (oQ U);obtain⟨D,aj,az,L⟩:=xN k (ρ:=λq=>(q,0)) (q0:=0) U ak;have Y:cz B p l=⟨gR (λq=>(q,0)) p.dE J,D⟩:=by
  unfold cz nI;rw[X,aj]
 rw[Y];have Q:mR B g e.H D d a (bL a) (eQ a) (λq=>(q,0)):=by
  refine⟨ao,λ_=>rfl,λq i m=>⟨pn m,?_⟩,λq m=>⟨by unfold eQ;rw[m],?_⟩⟩
  .obtain⟨H,G,A,F,f,h,n,u,O⟩:=L q _ (by rw[<-cJ];exact m);obtain⟨j,y,_,s,x⟩:=mS k (ρ:=λq=>(q,0)) 0 0 h n;obtain rfl:j=F:=by
    have z:=y [];have c:=u [];rw[z] at c;exact(eE c).1
   rcases x with⟨E,I,b,ab,ay,ac,ap⟩ |⟨b,_⟩
   .injection b with b
    subst b;exact⟨I,j,ab,by rw[cJ];exact f,s,ac,ap⟩
   .cases b
  .obtain⟨H,G,A,F,f,h,n,u,O⟩:=L q _ (by rw[<-cJ];exact m);obtain⟨j,y,_,s,x⟩:=mS k (ρ:=λq=>(q,0)) 0 0 h n;obtain rfl:j=F:=by
    have z:=y [];have c:=u [];rw[z] at c;exact(eE c).1
   rcases x with⟨E,I,b,_⟩ |⟨_,N,_⟩
   .cases b
   .exact⟨j,by rw[cJ];exact f,s,N⟩
 refine⟨(tw _).1 S,Q,O1 k Q ((tw _).1 S) (show a.length<=D.length by omega) am λq ai M=>?_,λt v s=>?_⟩
 .rw[cJ] at M;have m:q<D.length:=c9 M;have w:a[q]?=c5 a[q]:=c4 (by omega);obtain⟨H,G,A,F,f,h,n,u,O⟩:=L q _ w;rw[M] at f;injection f with f
  subst f;have C:nth a q=c5 a[q]:=by rw[cJ];exact w
  obtain⟨j,y,_,s,x⟩:=mS k (ρ:=λq=>(q,0)) 0 0 h n;obtain rfl:j=ai:=by
   have z:=y [];have c:=u [];rw[z] at c;exact(eE c).1
  rcases x with⟨E,I,b,_⟩ |⟨b,N,ah⟩
  .rw[b] at C h;exact .inl ⟨H,E,G,A,_,_,C,λan ae Z v al aq W ag i w K=>V i (by rw[bK,c6];exact .inl (O an ae E Z v al aq W b ag i w)) K,h,n,u⟩
  .rw[b] at C;exact .inr (.inr ⟨by unfold eQ;rw[C],N,ah⟩)
 .have:=Ip k Q (λi w K=>V i (by rw[bK,c6];exact .inr w) K) ad aa [] t;rw[bK,ft] at this;rcases this with⟨aA,au,_,b,af⟩ |⟨_,b⟩
  .show VR _ _ d (pv B (lk (gR _ p.dE J) t)) v
   rw[b];exact af.2 v s
  .show VR _ _ d (pv B (lk (gR _ p.dE J) t)) v
   rw[b];exact .any v
def EK(t:cU P B){k:Nat}{p:bY}{c:St B.D}{j:bi B.D p.bX->Option R}(a:take B k p c j=c5 r){g:Gh}{w:World}(H:bF g (av B c.H) w):
 ∃b,j b=c5 r/\∃f,bF f (av B (cz B p b).H) w/\Bml.GStep k g (av B c.H) w f (av B (cz B p b).H) w/\∀n v,VR g (av B c.H) w (pv B (lk c.E n)) v->VR f (av B (cz B p b).H) w (pv B (lk (cz B p b).E n)) v:=by
 unfold take at a;obtain⟨o,a⟩:=a8 a;obtain⟨O,m,a⟩:=fq a;obtain⟨b,G,u⟩:=Ae a;refine⟨b,G,?_⟩
 generalize T:nQ c p.dF=J at o m;obtain⟨_,L,K,D⟩:=PQ t m u H (fz:=λi=>∀q,eQ J q≠c5 i) (λ_ a=>a) (λi _ h q z=>h (gV (qS z)));refine⟨_,K,?_,D⟩
 refine Bml.GStep.re λi C h y=>?_
 obtain⟨Q,l,rfl⟩:=oU y;obtain⟨s,C,d,A⟩:=Qq o i h;rw[e6] at s d;rw[l] at d;injection d with d
 subst d;obtain⟨E,M,S,e,x,N,I,F⟩:=L.bG i i s;rw[l] at e;injection e with e
 subst e;exact⟨_,df x,by rw[e7,e7,A];exact l2 _,λ_=>⟨E,I,F⟩⟩
end
structure Ext {D:Nat->Type} (ws:List Nat) (S0 S:St D):Prop where
 e:∀t,t∉ws->lk S.E t=lk S0.E t
 len:S0.H.length<=S.H.length
 h:∀i o0 o,nth S0.H i=c5 o0->nth S.H i=c5 o->o0.st<=o.st/\(o0.st=o.st->o=o0)
def Ext.refl{D:Nat->Type}(d:List Nat)(c:St D):Ext d c c:=⟨λ_ _=>rfl,ef _,λi e j h a=>by rw[h] at a;injection a with a;subst a;exact⟨ef _,λ_=>rfl⟩⟩
def Ext.trans{D:Nat->Type}{c:List Nat}{m a l:St D}(h:Ext c m a)(k:Ext c a l):Ext c m l:=by
 refine⟨λt ht=>(k.e t ht).trans (h.e t ht),la h.len k.len,λi j n h0 u=>?_⟩
 have hi:i<a.H.length:=by
  rw[cJ] at h0;have:=c9 h0;have:=h.len;omega
 have d:nth a.H i=c5 a.H[i]:=by rw[cJ];exact c4 hi
 obtain⟨a1,y⟩:=h.h i j _ h0 d;obtain⟨s,x⟩:=k.h i _ n d u;refine⟨la a1 s,λe=>?_⟩
 have w:j.st=a.H[i].st:=by omega
 have o:a.H[i].st=n.st:=by omega
 rw[x o,y w]
def Ext.more{D:Nat->Type}{e d:List Nat}{a c:St D}(h:Ext e a c)(k:∀t,t∈e->t∈d):Ext d a c:=
 ⟨λt ht=>h.e t λj=>ht (k t j),h.len,h.h⟩
section
variable {P:Program}{B:Tb}{R:Type}{r:R}
def I5{e:Type}:∀{ch:List (Nat×e)} {H:List e},(ch.map (·.1)).Nodup->(∀i a,(i,a)∈ch->i<H.length->nth (b8 H ch) i=c5 a)/\∀i,i∉ch.map (·.1)->nth (b8 H ch) i=nth H i
 |[],H,_=>⟨λi a h=>by simp at h,λi _=>rfl⟩
 |p::ch,H,d=>by
  simp only[hz,k8] at d;obtain⟨g,f⟩:=I5 (ch:=ch) (H:=me H p.1 p.2) d.2;refine⟨λi a c b=>?_,λi b=>?_⟩
  .rcases dd.1 c with rfl |c
   .show nth (b8 (me H i a) ch) i=c5 a
    rw[f i d.1,cJ,iL,ev b]
   .exact g i a c (by rw[iL,h6];exact b)
  .simp only[hz,dd,not_or] at b;show nth (b8 (me H p.1 p.2) ch) i=_
   rw[f i b.2,cJ,cJ,iL,eH (λj=>b.1 j.symm)]
def aov(a:List (Nat×Bool×OP)):DZ a=a.map (·.1):=by
 induction a with
 |nil=>rfl
 |cons c a b=>simp[DZ,b]
def adx{d:List (Nat×Bool×OP)}{i:Nat}(a:bN d i=false):∀b,b∈d->b.1≠i:=by
 induction d with
 |nil=>intro b c;cases c
 |cons g d h=>
  simp only[bN] at a;cases e:fe g.1 i with
  |true=>rw[e] at a;cases a
  |false=>
   rw[e] at a;intro b c;rcases dd.1 c with rfl |c
   .intro f;rw[f,hQ] at e;cases e
   .exact h a b c
def adS{a:List (Nat×Bool×OP)}{i:Nat}(b:bN a i=true):∃c,c∈a/\c.1=i:=by
 induction a with
 |nil=>cases b
 |cons d a h=>
  simp only[bN] at b;cases e:fe d.1 i with
  |true=>exact⟨d,by simp,beq_eq e⟩
  |false=>
   rw[e] at b;obtain⟨c,g,f⟩:=h b;exact⟨c,c7 _ g,f⟩
def IM{b:List (Nat×Bool×OP)}{i:Nat}(a:bN b i=false):gone b i=false:=by
 induction b with
 |nil=>rfl
 |cons d b e=>
  simp only[bN] at a;cases c:fe d.1 i with
  |true=>rw[c] at a;cases a
  |false=>rw[c] at a;simp only[gone,c,cond_false];exact e a
def rc{b:List (Nat×Bool×OP)}{a:Nat×Bool×OP}(d:(b.map (·.1)).Nodup)(c:a∈b):gone b a.1=a.2.2.qj/\mw.kv b a.1=a.2.1/\bN b a.1=true:=by
 induction b with
 |nil=>cases c
 |cons e b i=>
  simp only[hz,k8] at d;rcases dd.1 c with rfl |c
  .simp[gone,mw.kv,bN,hQ]
  .have g:fe e.1 a.1=false:=by
    cases h:fe e.1 a.1 with
    |false=>rfl
    |true=>exact absurd (by rw[beq_eq h];exact hY (f:=(·.1)) c) d.1
   simp only[gone,mw.kv,bN,g,cond_false];exact i d.2 c
def Jf(d:List (Nat×Bool×OP)):∀(b a:Nat) (c:List Rf) (q:Nat),nth (nL d b a c) q=if q<b then c5 (bif gone d (a+q) then .gone else .bG (a+q)) else nth c (q -b)
 |0,a,c,q=>by simp[nL]
 |b+1,a,c,0=>by simp[nL,nth]
 |b+1,a,c,q+1=>by
  simp only[nL,nth];rw[Jf d b (a+1) c q,show a+1+q=a+(q+1) by omega]
  by_cases e:q<b
  .rw[if_pos e,if_pos (by omega)]
  .rw[if_neg e,if_neg (by omega),show q+1 - (b+1)=q -b by omega]
def Pc(d:List (Nat×Bool×OP)):∀(b c:Nat) (a:List Rf),(nL d b c a).length=b+a.length
 |0,c,a=>by simp[nL]
 |b+1,c,a=>by simp[nL,Pc d b];omega
def Ri{m:Nat->Type}{l:List (Nat×Bool×OP)}:∀{g j:List (Ob m)} {h:Nat},calm l h g j=true->∀i c,nth g i=c5 c->∃d,nth j i=c5 d/\(bN l (h+i)=false->c.st=d.st)
 |[],_,_,_,i,c,a=>by simp[nth] at a
 |q::g,b::j,h,a,i,c,f=>by
  simp only[calm] at a;obtain⟨k,n⟩:=fu a;cases i with
  |zero=>
   simp only[nth,ee] at f;subst f;refine⟨b,rfl,λe=>?_⟩
   rw[hS] at e;rw[e] at k;exact beq_eq k
  |succ i=>
   obtain⟨d,o,p⟩:=Ri n i c f;exact⟨d,o,λe=>p (by rw[<-e];congr 1;omega)⟩
 |_::_,[],_,a,i,c,f=>by simp[calm] at a
def vV{o:Nat->Type}{j n:List (Ob o)}:∀{h:List (Nat×Bool×OP)},wH j n h=true->∀c,c∈h->c.1<j.length/\(c.2.1=true->c.2.2≠ .dead/\∃e b,nth j c.1=c5 e/\nth n c.1=c5 b/\e.aF=b.aF)
 |[],_,c,d=>by cases d
 |e::h,a,c,d=>by
  simp only[wH] at a;cases l:e.2.1 with
  |true=>
   rw[l] at a;simp only[cond_true] at a
   split at a
   .rename_i q p k s;cases f:e.2.2.qj with
    |true=>rw[f] at a;cases a
    |false=>
     rw[f] at a;obtain⟨g,i⟩:=fu a;rcases dd.1 d with rfl |d
     .refine⟨by rw[cJ] at k;exact c9 k,λ_=>⟨λc=>(by rw[c] at f;cases f),q,p,k,s,beq_eq g⟩⟩
     .exact vV i c d
   .cases a
  |false=>
   rw[l] at a;simp only[cond_false] at a;obtain⟨g,i⟩:=fu a;rcases dd.1 d with rfl |d
   .refine⟨by rw[<-eu];exact e4 g,λm=>by rw[l] at m;cases m⟩
   .exact vV i c d
def RZ{e:Nat}:∀{d:List (Nat×Bool×OP)},zE e d=true->∀a,a∈d->a.1<e->a.2.1=true/\a.2.2.qj=false
 |[],_,a,b,_=>by cases b
 |m::d,f,a,b,l=>by
  simp only[zE] at f;obtain⟨c,k⟩:=fu f;rcases dd.1 b with rfl |b
  .cases h:m5 e a.1 with
   |true=>have:=e4 h;omega
   |false=>
    rw[h] at c;simp only[cond_false] at c;obtain⟨i,g⟩:=fu c;refine⟨i,?_⟩
    cases j:a.2.2.qj with
    |false=>rfl
    |true=>rw[j] at g;cases g
  .exact RZ k a b l
def NT(t:cU P B){j H0:List (Ob B.D)}{l:List Rf}{m:List Nat}{ρ:Nat->Nat×Nat}:∀{h:List (Nat×Bool×OP)} {x s:List (TV B.D)},pX j l m h=c5 x->eJ B (ux h) x s->x.length=(ux h).length->
 ∃g,(∀e,pU H0 ρ h (s++e)=(g,e))/\g.map (·.1)=h.map (·.1)/\∀i d,(i,d)∈g->∃a,a∈h/\a.1=i/\d.st=dJ H0 i/\d.aF=(ρ i).2/\
  ((a.2.2= .dead/\d.bd= .dead)\/(a.2.2≠ .dead/\∃n o,dn j l m a.2.2 (.bG i)=c5 n/\eJ B a.2.2.bX n o/\∀e,dI ρ (dJ H0 i) (ρ i).2 a.2.2 (o++e)=(d,e)))
 |[],x,s,y,C,_=>by
  simp only[pX,ee] at y;subst y;cases s with
  |nil=>exact⟨[],λ_=>rfl,rfl,λi d k=>by cases k⟩
  |cons A s=>exact C.elim
 |b::h,x,s,y,C,U=>by
  simp only[pX] at y;obtain⟨q,V,c,L,rfl⟩:=iK y;have K:q.length=b.2.2.bX.length:=by
   cases f:b.2.2 with
   |dead=>rw[f] at c;injection c with c;subst c;rfl
   |aap A S=>rw[f] at c;exact oQ.rD (show dn j l m _ (.bG b.1)=c5 q from c)
   |box Q g=>rw[f] at c;exact oQ.rD (show dn j l m _ (.bG b.1)=c5 q from c)
   |refs A I=>rw[f] at c;exact oQ.rD (show dn j l m _ (.bG b.1)=c5 q from c)
  obtain⟨z,F,rfl,p,G⟩:=eJ.split C K;obtain⟨g,v,u,w⟩:=NT t (H0:=H0) (ρ:=ρ) L G G.len.2;cases f:b.2.2 with
  |dead=>
   rw[f] at c p;injection c with c
   subst c;have O:z=[]:=dT p.len.1;subst O;refine⟨(b.1,⟨dJ H0 b.1,(ρ b.1).2,.dead⟩)::g,λe=>by simp only[pU,f,dI,o3,v],by simp[u],λi d k=>?_⟩
   rcases dd.1 k with a |k
   .injection a with e1 e2
    subst e1;subst e2;exact⟨b,by simp,rfl,rfl,rfl,.inl ⟨f,rfl⟩⟩
   .obtain⟨a,E,D⟩:=w i d k;exact⟨a,c7 _ E,D⟩
  |aap A S=>exact GC t (ρ:=ρ) (H0:=H0) b (by rw[f];simp) (by rw[f] at c;rw[f];exact c) p v u w
  |box Q T=>exact GC t (ρ:=ρ) (H0:=H0) b (by rw[f];simp) (by rw[f] at c;rw[f];exact c) p v u w
  |refs A I=>exact GC t (ρ:=ρ) (H0:=H0) b (by rw[f];simp) (by rw[f] at c;rw[f];exact c) p v u w
where
 GC (t:cU P B) {j H0:List (Ob B.D)} {l:List Rf} {m:List Nat} {ρ:Nat->Nat×Nat} {h:List (Nat×Bool×OP)} {q z F:List (TV B.D)} {g:List (Nat×Ob B.D)} (b:Nat×Bool×OP) (hd:b.2.2≠ .dead)
  (c:dn j l m b.2.2 (.bG b.1)=c5 q) (p:eJ B b.2.2.bX q z) (v:∀e,pU H0 ρ h (F++e)=(g,e)) (u:g.map (·.1)=h.map (·.1))
  (w:∀i d,(i,d)∈g->∃a,a∈h/\a.1=i/\d.st=dJ H0 i/\d.aF=(ρ i).2/\
   ((a.2.2= .dead/\d.bd= .dead)\/(a.2.2≠ .dead/\∃n o,dn j l m a.2.2 (.bG i)=c5 n/\eJ B a.2.2.bX n o/\∀e,dI ρ (dJ H0 i) (ρ i).2 a.2.2 (o++e)=(d,e)))):
  ∃g,(∀e,pU H0 ρ (b::h) (z++F++e)=(g,e))/\g.map (·.1)=(b::h).map (·.1)/\∀i d,(i,d)∈g->∃a,a∈b::h/\a.1=i/\d.st=dJ H0 i/\d.aF=(ρ i).2/\
   ((a.2.2= .dead/\d.bd= .dead)\/(a.2.2≠ .dead/\∃n o,dn j l m a.2.2 (.bG i)=c5 n/\eJ B a.2.2.bX n o/\∀e,dI ρ (dJ H0 i) (ρ i).2 a.2.2 (o++e)=(d,e))):=by
  obtain⟨N,H,M,J,_⟩:=mS t (ρ:=ρ) (dJ H0 b.1) (ρ b.1).2 c p;refine⟨(b.1,N)::g,λe=>?_,by simp[u],λi d k=>?_⟩
  .rw[dv];simp only[pU];rw[H];simp only[v]
  .rcases dd.1 k with a |k
   .injection a with e1 e2
    subst e1;subst e2;exact⟨b,by simp,rfl,M,J,.inr ⟨hd,q,z,c,p,H⟩⟩
   .obtain⟨a,E,D⟩:=w i d k;exact⟨a,c7 _ E,D⟩
def HX{e:List (Ob B.D)}{h:List Rf}{i:List Nat}:∀{j:List (Nat×Bool×OP)} {g:List (TV B.D)},pX e h i j=c5 g->g.length=(ux j).length
 |[],g,b=>by simp[pX] at b;subst b;rfl
 |c::j,g,b=>by
  simp only[pX] at b;obtain⟨f,o,a,l,rfl⟩:=iK b;have k:f.length=c.2.2.bX.length:=by
   cases d:c.2.2 with
   |dead=>rw[d] at a;injection a with a;subst a;rfl
   |aap m n=>rw[d] at a;exact oQ.rD (show dn e h i _ (.bG c.1)=c5 f from a)
   |box s q=>rw[d] at a;exact oQ.rD (show dn e h i _ (.bG c.1)=c5 f from a)
   |refs m p=>rw[d] at a;exact oQ.rD (show dn e h i _ (.bG c.1)=c5 f from a)
  simp only[ux,bK,e5,k,HX l]
def D4{h:Nat->Type}(b:List Nat):∀(g:En h) (a:Nat),lk (mN b g) a=if a∈b then .any else lk g a
 |[],a=>by simp[mN,lk]
 |p::r,a=>by
  simp only[mN];cases f:has b p.1 with
  |true=>
   have e:=(oO _ _).1 f;simp only[cond_true,D4 b r a,lk]
   by_cases c:a∈b
   .rw[if_pos c,if_pos c]
   .rw[if_neg c,if_neg c];cases d:fe p.1 a with
    |true=>rw[beq_eq d] at e;exact absurd e c
    |false=>rfl
  |false=>
   simp only[cond_false,lk];cases d:fe p.1 a with
   |true=>
    have:a∉b:=by rw[<-beq_eq d];exact nA f
    rw[if_neg this]
    rfl
   |false=>exact D4 b r a
def Sg{f:List Nat}:∀{d:List (Nat×CP)},ET f d=true->∀b c,(b,c)∈d->b∈f
 |[],_,b,c,a=>by cases a
 |p::d,e,b,c,a=>by
  simp only[ET] at e;obtain⟨g,h⟩:=fu e;rcases dd.1 a with i |a
  .have:=(oO _ _).1 g;rw[<-i] at this;exact this
  .exact Sg h b c a
def cE.UM{f:Nat->Nat->Prop}{c:PV}(h:cE 0 c):Wf f c:=by
 induction h with
 |any=>exact .any
 |bool b=>exact .bool b
 |int k n=>exact .int k n
 |str s=>exact .str s
 |fS=>exact .fS
 |bg=>exact .bg
 |z0=>exact .z0
 |dB=>exact .dB
 |dw a e=>exact .dw a e
 |vs sz es=>exact .vs sz es
 |ptr r v i e h=>omega
 |sl r v off len h=>omega
 |fl r v h=>omega
 |agg a h d=>exact .agg a d
 |bu a h d=>exact .bu a d
 |fn f a j h m d l=>exact .fn f a j d l
end
def F0{b:Nat->Type}(c:List (Ob b))(i v:Nat):Prop:=∃a,nth c i=c5 a/\v<=a.aF
section
variable {P:Program}{B:Tb}{R:Type}{r:R}
structure Cz (B:Tb) (S:St B.D):Prop where
 e:∀t,Wf (F0 S.H) (pv B (lk S.E t))
 h:∀(q:Nat) (o:Ob B.D) (i j:Nat) (c:PV),nth S.H q=c5 o->abk (aY B o).es i j=c5 c->Wf (F0 S.H) c
def UJ(U:cU P B){a3:Nat}{a J:St B.D}{s:List Nat}{p:lD}{bf:bi B.D p.bX->Option R}(bm:Ext s a J)(cg:a3<=a.H.length)(bc:Cz B a)(h:nW B a3 a s p J bf=c5 r){g:Gh}{L:World}(b7:bF g (av B J.H) L):
 ∃X,bf X=c5 r/\Ext s a (ik B a s p X)/\∃g',bF g' (av B (ik B a s p X).H) L/\Bml.GStep a3 g (av B J.H) L g' (av B (ik B a s p X).H) L/\
  ∀w v,VR g (av B J.H) L (pv B (lk J.E w)) v->VR g' (av B (ik B a s p X).H) L (pv B (lk (ik B a s p X).E w)) v:=by
 unfold nW at h;obtain⟨b2,h⟩:=a8 h;obtain⟨bI,h⟩:=a8 h;obtain⟨bX,h⟩:=a8 h;obtain⟨aR,h⟩:=a8 h;obtain⟨bJ,h⟩:=a8 h;obtain⟨bY,h⟩:=a8 h;obtain⟨a1,h⟩:=a8 h;obtain⟨bk,bZ,h⟩:=fq h;obtain⟨X,bR,ae⟩:=Ae h;refine⟨X,bR,?_⟩
 obtain⟨co,cd,ay,b5,rfl⟩:=iK bZ;obtain⟨cm,cf,an,aT,rfl⟩:=iK b5;obtain⟨D,ci,bo,bP,ca⟩:=eJ.split ae (HX ay);obtain⟨bd,ar,rfl,bC,bQ⟩:=eJ.split ca (oQ an);generalize ce:nQ J p.new=ao at bX aR ay an aT;generalize aJ:nL p.dO (Go.X.len a.H) 0 ao=j at aR ay an aT;have ac:(p.dO.map (·.1)).Nodup:=by rw[<-aov];exact(tw _).1 bJ
 let ρ:Nat->Nat×Nat:=λq=>(q,mw a.H p.dO q)
 obtain⟨n,bW,aS,bD⟩:=NT U (H0:=a.H) (ρ:=ρ) ay bP (HX ay);obtain⟨u,bO,cc,aO⟩:=xN U (ρ:=ρ) (q0:=Go.X.len a.H) an bC;have bp:ik B a s p X=⟨aX (gR ρ p.dE ar) (mN s a.E),aX (b8 a.H n) u⟩:=by
  unfold ik;rw[bo];show(match pU a.H ρ p.dO (D++(bd++ar)) with |(ch,bk)=>_)=_
  rw[bW];show(match lM ρ (Go.X.len a.H) p.new (bd++ar) with |(ck,bk)=>_)=_
  rw[bO]
 rw[bp];have a9:(b8 a.H n).length=a.H.length:=qy _ _;have bw:(n.map (·.1)).Nodup:=by rw[aS];exact ac
 obtain⟨b9,bv⟩:=I5 (ch:=n) (H:=a.H) bw;have cj:(aX (b8 a.H n) u).length=a.H.length+u.length:=by rw[bK,e5,a9]
 have a7:∀q,q<a.H.length->nth (aX (b8 a.H n) u) q=nth (b8 a.H n) q:=λq k=>by
  rw[cJ,cJ,bK,dt (by omega)]
 have a2:∀q,a.H.length<=q->nth (aX (b8 a.H n) u) q=u[q -a.H.length]? :=λq k=>by
  rw[cJ,bK,dk (by omega),a9]
 have ab:∀q,q<a.H.length->nth j q=c5 (bif gone p.dO q then .gone else .bG q):=λq k=>by
  rw[<-aJ,Jf,eu,if_pos k,e6]
 have aI:∀q,a.H.length<=q->nth j q=ao[q -a.H.length]? :=λq k=>by
  rw[<-aJ,Jf,eu,if_neg (by omega),cJ]
 have cl:j.length=a.H.length+ao.length:=by rw[<-aJ,Pc,eu]
 have az:∀q C,nth a.H q=c5 C->bN p.dO q=false->nth J.H q=c5 C/\nth (aX (b8 a.H n) u) q=c5 C:=λq C m e=>by
  obtain⟨aG,bh,bU⟩:=Ri bY q C m;have c:=(bm.h q C aG m bh).2 (bU (by rw[e6];exact e));refine⟨by rw[bh,c],?_⟩
  rw[a7 q (by rw[cJ] at m;exact c9 m),bv q ?_,m];rw[aS];intro b6;obtain⟨c,d,an⟩:=ey.1 b6;exact adx e c d an
 have mo:∀q,bN p.dO q=true->∃c o,c∈p.dO/\c.1=q/\q<a.H.length/\nth (aX (b8 a.H n) u) q=c5 o/\o.st=dJ a.H q/\o.aF=(ρ q).2/\
  ((c.2.2= .dead/\o.bd= .dead)\/(c.2.2≠ .dead/\∃N D,dn J.H j (bL j) c.2.2 (.bG q)=c5 N/\eJ B c.2.2.bX N D/\∀a6,dI ρ (dJ a.H q) (ρ q).2 c.2.2 (D++a6)=(o,a6))):=λq e=>by
  obtain⟨c,d,rfl⟩:=adS e;have bT:c.1∈n.map (·.1):=by rw[aS];exact hY (f:=(·.1)) d
  obtain⟨⟨q,o⟩,bj,k⟩:=ey.1 bT;obtain rfl:q=c.1:=k;obtain⟨x,br,b4,ai,Q,af⟩:=bD c.1 o bj;have aU:=(vV a1 c d).1;exact⟨x,o,br,b4,aU,by rw[a7 _ aU];exact b9 _ _ bj aU,ai,Q,af⟩
 let au:Nat->Prop:=λi=>∀q,eQ j q≠c5 i
 have b0:∀i,au i->∀q,eQ j q≠c5 i:=λ_ h=>h
 have aP:∀i,i∉bL j->au i:=λi F q k=>F (gV (qS k))
 have aL:mR B g J.H (aX (b8 a.H n) u) L j (bL j) (eQ j) ρ:=by
  refine⟨b7,λ_=>rfl,λq i k=>⟨pn k,?_⟩,λq k=>⟨by unfold eQ;rw[k],?_⟩⟩
  .by_cases T:q<a.H.length
   .have O:=ab q T;rw[k] at O;cases aw:gone p.dO q with
    |true=>rw[aw] at O;simp at O
    |false=>
     rw[aw] at O;simp only[cond_false,ee,Rf.bG.injEq] at O;subst O;cases e:bN p.dO i with
     |false=>
      have m:nth a.H i=c5 a.H[i]:=by rw[cJ];exact c4 T
      obtain⟨u1,u2⟩:=az i _ m e;refine⟨_,_,u1,u2,?_,rfl,rfl⟩
      show _=mw a.H p.dO i
      unfold mw;rw[m];simp[e]
     |true=>
      obtain⟨c,o,d,rfl,_,Z,ai,Q,af⟩:=mo i e;rcases af with⟨K,_⟩ |⟨_,N,D,A,E,I⟩
      .have:=(rc ac d).1;rw[aw,K] at this;cases this
      .obtain⟨G,W,_,z,V⟩:=mS U (ρ:=ρ) (dJ a.H c.1) (ρ c.1).2 A E;obtain rfl:G=o:=by
        have Y:=W [];have t:=I [];rw[Y] at t;exact(eE t).1
       rcases V with⟨aA,ap,x,y,aB,aj,ak⟩ |⟨x,_⟩
       .injection x with x
        subst x;exact⟨ap,G,y,Z,Q,aj,ak⟩
       .cases x
   .rw[aI q (by omega)] at k;obtain⟨a0,N,D,aF,ad,A,E,I,bb⟩:=aO _ _ k;obtain⟨G,W,_,z,V⟩:=mS U (ρ:=ρ) 0 (ρ (Go.X.len a.H+(q -a.H.length))).2 A E;obtain rfl:G=aF:=by
     have Y:=W [];have t:=I [];rw[Y] at t;exact(eE t).1
    rcases V with⟨aA,ap,c,y,aB,aj,ak⟩ |⟨c,_⟩
    .injection c with c
     subst c;refine⟨ap,G,y,by rw[a2 q (by omega)];exact ad,?_,aj,ak⟩
     rw[z,eu,show a.H.length+(q -a.H.length)=q by omega]
    .cases c
  .by_cases T:q<a.H.length
   .have O:=ab q T;rw[k] at O;cases aw:gone p.dO q <;> rw[aw] at O <;> simp at O
   .rw[aI q (by omega)] at k;obtain⟨a0,N,D,aF,ad,A,E,I,bb⟩:=aO _ _ k;obtain⟨G,W,_,z,V⟩:=mS U (ρ:=ρ) 0 (ρ (Go.X.len a.H+(q -a.H.length))).2 A E;obtain rfl:G=aF:=by
     have Y:=W [];have t:=I [];rw[Y] at t;exact(eE t).1
    rcases V with⟨aA,ap,c,_⟩ |⟨_,d,_⟩
    .cases c
    .refine⟨G,by rw[a2 q (by omega)];exact ad,?_,d⟩
     rw[z,eu,show a.H.length+(q -a.H.length)=q by omega]
 have ba:∀{aa:PV} {v:Value},VR g (av B J.H) L aa v->Wf (F0 a.H) aa->VR (dj g (eQ j) au) (av B (aX (b8 a.H n) u)) L aa v:=λ{aa v} z bH=>by
  refine VR.re (g:=g) (g':=dj g (eQ j) au) (λ_ h=>Or.inl h) (λi v aQ b3 m bl=>?_) z bH
  obtain⟨C,ax,bs⟩:=b3;have am:i<a.H.length:=by rw[cJ] at ax;exact c9 ax
  obtain⟨bx,ah,rfl⟩:=oU m;rw[e7] at bl;have bA:∀c,c∈p.dO->c.1=i->(ρ i).2=bif c.2.1 then C.aF else C.aF+1:=λc d bS=>by
   subst bS;obtain⟨_,aN,a5⟩:=rc ac d;show mw a.H p.dO c.1=_
   unfold mw;rw[ax];simp[aN,a5]
  cases e:bN p.dO i with
  |false=>
   obtain⟨u1,u2⟩:=az i C ax e;rw[ah] at u1;injection u1 with u1
   subst u1;refine⟨_,df u2,by rw[e7];exact bl,λc=>⟨c,rfl,rfl,?_⟩⟩
   show(eQ j i).bind g.β=_
   rw[pn (i:=i) (by rw[ab i am,IM e];rfl)]
   rfl
  |true=>
   obtain⟨c,o,d,rfl,_,Z,ai,Q,af⟩:=mo i e;have M:=bA c d rfl;cases al:c.2.1 with
   |false=>
    rw[al] at M;simp only[cond_false] at M;exact⟨_,df Z,by rw[e7,Q,M];omega,λaE=>by rw[e7,Q,M] at aE;omega⟩
   |true=>
    rw[al] at M;simp only[cond_true] at M;obtain⟨aV,aH,b,aq,S,a4⟩:=(vV a1 c d).2 al;rw[ax] at aq;injection aq with aq
    subst aq;rw[ah] at S;injection S with S
    subst S;refine⟨_,df Z,by rw[e7,Q,M];exact bs,λaE=>?_⟩
    rw[e7,Q,M] at aE;rcases af with⟨K,aZ⟩ |⟨aK,N,D,A,E,I⟩
    .exact absurd K aV
    .obtain⟨G,W,_,cn,V⟩:=mS U (ρ:=ρ) (dJ a.H c.1) (ρ c.1).2 A E;obtain rfl:G=o:=by
      have Y:=W [];have t:=I [];rw[Y] at t;exact(eE t).1
     rcases V with⟨aA,ap,x,y,aB,aj,ak⟩ |⟨x,_⟩
     .injection x with x
      subst x;rw[ah] at y;injection y with y
      subst y;refine⟨by rw[e7,aE];exact a4,aj,ak,?_⟩
      show(eQ j c.1).bind g.β=_
      rw[pn (i:=c.1) (by
       rw[ab c.1 am,(rc ac d).1];cases K:c.2.2 with
       |dead=>exact absurd K aK
       |aap _ _=>rfl
       |refs _ _=>rfl
       |box _ _=>rfl)]
      rfl
     .cases x
 have be:=λbq w=>Ip U aL (λi _ F=>aP i F) aT bQ bq w
 refine⟨⟨λw ae=>?_,by show a.H.length<=(aX (b8 a.H n) u).length;omega,λi C aQ aD m=>?_⟩,dj g (eQ j) au,O1 U aL ((tw _).1 aR) (show j.length<=(aX (b8 a.H n) u).length by omega) b0 λq aG l=>?_,?_,λw v z=>?_⟩
 .show lk (aX (gR ρ p.dE ar) (mN s a.E)) w=_
  rcases be (mN s a.E) w with⟨aa,bE,ag,_⟩ |⟨_,c⟩
  .exact absurd (Sg bI w aa ag) ae
  .rw[c,D4,if_neg ae]
 .have l:nth (aX (b8 a.H n) u) i=c5 aQ:=m;cases e:bN p.dO i with
  |false=>
   obtain⟨_,u2⟩:=az i C aD e;rw[u2] at l;injection l with l
   subst l;exact⟨ef _,λ_=>rfl⟩
  |true=>
   obtain⟨c,o,d,rfl,_,Z,ai,_⟩:=mo i e;rw[Z] at l;injection l with l
   subst l;have:o.st=C.st+1:=by rw[ai];unfold dJ;rw[aD]
   exact⟨by omega,λc=>by omega⟩
 .by_cases T:q<a.H.length
  .have m:nth a.H q=c5 a.H[q]:=by rw[cJ];exact c4 T
   cases e:bN p.dO q with
   |false=>
    obtain⟨u1,u2⟩:=az q _ m e;rw[u2] at l;injection l with l
    refine .inr (.inl ⟨q,a.H[q],by rw[ab q T,IM e];rfl,u1,l.symm,λaa v z bz=>ba z ?_⟩)
    obtain⟨cp,aH,bB,ag⟩:=bz;rcases ag with⟨rfl,ag⟩ |ag
    .exact bc.h q _ aH bB aa m ag
    .exact cE.UM ag
   |true=>
    obtain⟨c,o,d,rfl,_,Z,ai,Q,af⟩:=mo q e;rw[Z] at l;injection l with l
    subst l;rcases af with⟨K,aZ⟩ |⟨aK,N,D,A,E,I⟩
    .refine .inr (.inr ⟨?_,by simp[aY,aZ],by simp[aY,aZ]⟩)
     unfold eQ;rw[ab _ T,(rc ac d).1,K]
     rfl
    .refine .inl ⟨c.2.2,c.1,N,D,_,_,?_,λ_ _ _ _ _ _ _ _ i _ F=>aP i F,A,E,I⟩
     rw[ab c.1 T,(rc ac d).1];cases K:c.2.2 with
     |dead=>exact absurd K aK
     |aap _ _=>rfl
     |refs _ _=>rfl
     |box _ _=>rfl
  .have aM:=l;rw[a2 q (by omega)] at aM;have k:q -a.H.length<u.length:=c9 aM;have F:ao[q -a.H.length]?=c5 ao[q -a.H.length]:=c4 (by omega);obtain⟨a0,N,D,aF,ad,A,E,I,bb⟩:=aO _ _ F;rw[aM] at ad;injection ad with ad
   subst ad;have aC:nth j q=c5 ao[q -a.H.length]:=by rw[aI q (by omega)];exact F
   obtain⟨G,W,_,z,V⟩:=mS U (ρ:=ρ) 0 (ρ (Go.X.len a.H+(q -a.H.length))).2 A E;obtain rfl:G=aG:=by
    have Y:=W [];have t:=I [];rw[Y] at t;exact(eE t).1
   rcases V with⟨aA,ap,c,_⟩ |⟨c,d,bM⟩
   .rw[c] at aC A;exact .inl ⟨a0,aA,N,D,_,_,aC,λ_ _ _ _ _ _ _ _ i _ F=>aP i F,A,E,I⟩
   .rw[c] at aC;exact .inr (.inr ⟨by unfold eQ;rw[aC],d,bM⟩)
 .refine Bml.GStep.re λi aQ F m=>?_
  obtain⟨bx,ah,rfl⟩:=oU m;have am:i<a.H.length:=by omega
  have aD:nth a.H i=c5 a.H[i]:=by rw[cJ];exact c4 am
  cases e:bN p.dO i with
  |false=>
   obtain⟨u1,u2⟩:=az i _ aD e;rw[ah] at u1;injection u1 with u1
   subst u1;exact⟨_,df u2,ef _,λ_=>⟨pn (by rw[ab i am,IM e];rfl),rfl,rfl⟩⟩
  |true=>
   obtain⟨c,o,d,rfl,_,Z,ai,Q,af⟩:=mo i e;have al:=(RZ b2 c d F).1;obtain⟨aV,aH,b,aq,S,a4⟩:=(vV a1 c d).2 al;rw[ah] at S;injection S with S
   subst S;obtain⟨_,aN,a5⟩:=rc ac d;have M:(ρ c.1).2=aH.aF:=by
    show mw a.H p.dO c.1=_
    unfold mw;rw[aq];simp[aN,a5,al]
   have bn:nth j c.1=c5 (.bG c.1):=by
    rw[ab c.1 am,(rc ac d).1];cases K:c.2.2 with
    |dead=>exact absurd K aV
    |aap _ _=>rfl
    |refs _ _=>rfl
    |box _ _=>rfl
   obtain⟨b1,cb,aG,y,aB,aj,ak,bt⟩:=aL.bG c.1 c.1 bn;rw[ah] at y;injection y with y
   subst y;exact⟨_,df aB,by rw[e7,e7,aj,M,a4];exact ef _,λ_=>⟨b1,ak,bt⟩⟩
 .show VR _ _ L (pv B (lk (aX (gR ρ p.dE ar) (mN s a.E)) w)) v
  rcases be (mN s a.E) w with⟨aa,bE,_,c,bV⟩ |⟨_,c⟩
  .rw[c];exact bV.2 v z
  .rw[c,D4]
   by_cases ae:w∈s
   .rw[if_pos ae];exact .any v
   .rw[if_neg ae];rw[bm.e w ae] at z;exact ba z (bc.e w)
end
end Go.X
namespace Go.Bml
open Go
def xB(g:Gh)(e:List aO)(f:World)(args:List PV)(c:List Value):Prop:=
 args.length=c.length/\∀(i:Nat) (a:PV) (b:Value),args[i]?=c5 a->c[i]?=c5 b->VR g e f a b
section
variable {P:Program}{nt:Nat}{E:Env}{d:Option Nat}{ty:TypeId}{pos:String}{aft:Array Edge}{gd:Option (Nat×Bool)}
def UP{f:Nat}{u s:List PV}{o:Operand}{l:List Operand}{ci:Array TypeId}{k:Act}{h:World}{g:Gh}{t:List aO}(w:fI g t h nt E k)(A:PE E o= .fn f u s)(B:∀args h,(callFunc f args).run P h= .ok (.enter f args) h):
 ∃x:List Value,(execOp k.eval ⟨d,.call {callee:=.value o,args:=l.toArray,argTypes:=ci},ty,pos,aft,gd⟩).run P h= .ok (.enter f x.toArray) h/\xB g t h (u++l.map (PE E)++s) x:=by
 have n:=A▸w.eval o;have C:∃a vs:List Value,k.eval o= .func (.func f) a.toArray vs.toArray/\u.length=a.length/\(∀(i:Nat) (e:PV) (b:Value),u[i]?=c5 e->a[i]?=c5 b->VR g t h e b)/\s.length=vs.length/\
  (∀(i:Nat) (e:PV) (b:Value),s[i]?=c5 e->vs[i]?=c5 b->VR g t h e b):=by
  generalize k.eval o=z at n;cases n with
  |aW F=>cases F with |fn _ _ _ a vs m n p q=>exact⟨a,vs,rfl,m,λi e b v r=>.aW (n i e b v r),p,λi e b v r=>.aW (q i e b v r)⟩
  |fn _ _ _ a vs m n p q=>exact⟨a,vs,rfl,m,n,p,q⟩
 obtain⟨a,vs,G,m,D,p,q⟩:=C;refine⟨a++l.map k.eval++vs,?_,by simp[m,p],λi e b c j=>?_⟩
 .simp only[execOp,resolve,G,Deferred.ofValue,invoke,kh,m0,h7];rw[show(a.toArray++Array.map k.eval l.toArray++vs.toArray)=(a++l.map k.eval++vs).toArray by simp];exact B _ h
 .by_cases v:i<a.length
  .rw[dv,dt (by omega)] at c j;exact D i e b c j
  .rw[dv,dk (by omega)] at c j;rw[m] at c
   by_cases r:i -a.length<l.length
   .rw[dt (by simpa using r)] at c j;rw[ec] at c j;cases y:l[i -a.length]? with
    |none=>simp[y] at c
    |some H=>
     simp[y] at c j;subst c;subst j;exact w.eval H
   .rw[dk (by simp;omega)] at c j;simp only[l3] at c j;exact q _ e b c j
def WB{H:List aO}{f:Nat}{cs ds:List PV}{fo:Operand}{as:List Operand}{ci:Array TypeId}{K:PV->List aO->Prop}(l:PE E fo= .fn f cs ds)(m:∀args a,(callFunc f args).run P a= .ok (.enter f args) a)
 (o:∀g i a,bF g H a->xB g H a (cs++as.map (PE E)++ds) i->Calls P f i.toArray a λk e=>∃h c v b,k= .returned h/\K v b/\bF c b e/\VR c b e v h/\GStep H.length g H a c b e):
 fJ P ⟨d,.call {callee:=.value fo,args:=as.toArray,argTypes:=ci},ty,pos,aft,ea⟩ E H K:=by
 intro g nt x a j y w u;obtain⟨i,r,n⟩:=UP (d:=d) (ty:=ty) (pos:=pos) (aft:=aft) (gd:=ea) (ci:=ci) j.e l m;unfold r5;rw[r,Oper.upon_enter];refine(o g i a j.m n).mono ?_
 rintro k e ⟨h,c,v,b,rfl,p,t,s,q⟩;exact u h e c v b p s t q
end
end Go.Bml
namespace Go.X
open Go Go.Aml Go.Bml
section
variable {P:Program}{B:Tb}
def en(B:Tb):List Nat->List (TV B.D)->Prop
 |[],[]=>True
 |d::ns,a::c=>(∃b,a=B.tv d b)/\en B ns c
 |_,_=>False
def NA:∀(ns:List Nat) (a:bi B.D ns),en B ns (rQ B ns a)
 |[],_=>trivial
 |[c],a=>⟨⟨a,rfl⟩,trivial⟩
 |c::b::ns,a=>⟨⟨a.1,rfl⟩,NA (b::ns) a.2⟩
def en.split:∀{ns d:List Nat} {a:List (TV B.D)},en B (aX ns d) a->∃c e,a=c++e/\en B ns c/\en B d e
 |[],d,a,h=>⟨[],a,rfl,trivial,h⟩
 |n::ns,d,m::a,h=>by
  obtain⟨c,e,rfl,j,k⟩:=en.split (ns:=ns) h.2;exact⟨m::c,e,rfl,⟨h.1,j⟩,k⟩
 |_::_,_,[],h=>h.elim
def en.nil{a:List (TV B.D)}(h:en B [] a):a=[]:=by
 cases a with
 |nil=>rfl
 |cons m a=>exact h.elim
structure Two (B:Tb) (g g':Gh) (H H':List aO) (w:World) (t t':TV B.D):Prop where
 vr:∀v,VR g H w (pv B t) v->VR g' H' w (pv B t') v
 vi:∀v,VI g.F w (pv B t) v->VI g'.F w (pv B t') v
structure E8 (B:Tb) (g g':Gh) (H H':List aO) (w:World) (ts ts':List (TV B.D)):Prop where
 len:(aP B ts').length=(aP B ts).length
 vr:∀(i:Nat) (c c':PV) (v:Value),(aP B ts)[i]?=c5 c->(aP B ts')[i]?=c5 c'->VR g H w c v->VR g' H' w c' v
 vi:∀(i:Nat) (c c':PV) (v:Value),(aP B ts)[i]?=c5 c->(aP B ts')[i]?=c5 c'->VI g.F w c v->VI g'.F w c' v
variable {g g':Gh}{H H':List aO}{w:World}{ρ ρ':Nat->Nat×Nat}
mutual
def Qy(x:cU P B)(L:∀q v,VR g H w (.ptr (ρ q).1 (ρ q).2 0 0) v->VR g' H' w (.ptr (ρ' q).1 (ρ' q).2 0 0) v)(G:∀q v,VR g H w (.fl (ρ q).1 (ρ q).2) v->VR g' H' w (.fl (ρ' q).1 (ρ' q).2) v):
 ∀(c:CP) (j:List (TV B.D)),en B c.bX j->((∀b,g.F b->g'.F b)\/Kk B.flat c=true)->∃Y W,(∀p,hO ρ c (j++p)=(Y,p))/\(∀p,hO ρ' c (j++p)=(W,p))/\Two B g g' H H' w Y W
 | .any,j,e,_=>by
  obtain rfl:=en.nil e;exact⟨_,_,λ_=>rfl,λ_=>rfl,λv _=>.any v,λv _=>.any v⟩
 | .v u,j,e,n=>by
  match j,e with
  |[ak],⟨⟨d,h⟩,_⟩=>
   subst h;have k:∀v,VI g.F w (pv B (B.tv u d)) v->VI g'.F w (pv B (B.tv u d)) v:=λv a=>by
    rcases n with n |n
    .exact a.mono n λ_ _=>rfl
    .rw[x.tv] at a⊢;exact x.aqv u d n _ _ _ _ v a
   exact⟨_,_,λ_=>rfl,λ_=>rfl,λv a=>.aW (k v (a.dH (by rw[x.tv];exact x.lt u d))),k⟩
 | .p q,j,e,_=>by
  obtain rfl:=en.nil e;exact⟨_,_,λ_=>rfl,λ_=>rfl,L q,λv a=>by cases a⟩
 | .r q,j,e,_=>by
  obtain rfl:=en.nil e;exact⟨_,_,λ_=>rfl,λ_=>rfl,G q,λv a=>by cases a⟩
 | .b b,j,e,_=>by
  obtain rfl:=en.nil e;have k:∀v,VI g.F w (pv B (.bool b)) v->VI g'.F w (pv B (.bool b)) v:=λv a=>by cases a;exact .bool b
  exact⟨.bool b,.bool b,λ_=>rfl,λ_=>rfl,λv a=>.aW (k v (a.dH (.bool b))),k⟩
 | .i F u,j,e,_=>by
  obtain rfl:=en.nil e;have k:∀v,VI g.F w (pv B (.int F u)) v->VI g'.F w (pv B (.int F u)) v:=λv a=>by cases a;exact .int F u
  exact⟨.int F u,.int F u,λ_=>rfl,λ_=>rfl,λv a=>.aW (k v (a.dH (.int F u))),k⟩
 | .ns,j,e,_=>by
  obtain rfl:=en.nil e;have k:∀v,VI g.F w (pv B (.bg)) v->VI g'.F w (pv B .bg) v:=λv a=>by cases a;exact .bg
  exact⟨.bg,.bg,λ_=>rfl,λ_=>rfl,λv a=>.aW (k v (a.dH .bg)),k⟩
 | .z,j,e,_=>by
  obtain rfl:=en.nil e;have k:∀v,VI g.F w (pv B (.dB)) v->VI g'.F w (pv B .dB) v:=λv a=>by cases a;exact .dB
  exact⟨.dB,.dB,λ_=>rfl,λ_=>rfl,λv a=>.aW (k v (a.dH .dB)),k⟩
 | .q J,j,e,n=>by
  have n:∀b,g.F b->g'.F b:=n.elim id λe=>by cases e
  obtain⟨m,y,M,K,r⟩:=sR x L G J j e (.inl n);have k:∀v,VI g.F w (pv B (.vp m 0)) v->VI g'.F w (pv B (.vp y 0)) v:=λv a=>by
   have E:VI g.F w (.dw (aP B m) 0) v:=a;cases E with
   |dw _ _ b aj X ae ah C ag=>
    have O:∀(o:Nat) (c:PV),(aP B y)[o]?=c5 c->o<(aP B m).length:=λo c f=>by have:=c9 f;rw[r.len] at this;exact this
    exact .dw (aP B y) 0 b aj X (n b ae) (λo c f=>ah o _ (c4 (O o c f))) (λo c f=>C o _ (c4 (O o c f)))
     λo c f=>r.vi o _ c (X o) (c4 (O o c f)) f (ag o _ (c4 (O o c f)))
  exact⟨.vp m 0,.vp y 0,λp=>by simp only[hO,M p],λp=>by simp only[hO,K p],λv a=>.aW (k v (a.dH (.dw _ _))),k⟩
 | .g J,j,e,n=>by
  obtain⟨m,y,M,K,r⟩:=sR x L G J j e n;refine⟨.agg m,.agg y,λp=>by simp only[hO,M p],λp=>by simp only[hO,K p],λv a=>?_,λv a=>?_⟩
  .obtain⟨S,rfl,s,T⟩:=VR.ky a;refine .agg _ S (by rw[<-s];exact r.len) λi c d f h=>?_
   have l:i<(aP B m).length:=by have:=c9 h;omega
   exact r.vr i _ c d (c4 l) f (T i _ d (c4 l) h)
  .have E:VI g.F w (.agg (aP B m)) v:=a;cases E with
   |agg _ S s T=>
    refine .agg _ S (by rw[<-s];exact r.len) λi c d f h=>?_
    have l:i<(aP B m).length:=by have:=c9 h;omega
    exact r.vi i _ c d (c4 l) f (T i _ d (c4 l) h)
 | .f D J Z,j,e,n=>by
  obtain⟨af,ai,rfl,C,I⟩:=en.split e;obtain⟨m,y,M,K,r⟩:=sR x L G J af C (n.imp id λe=>(fu e).1);obtain⟨A,ad,ab,ac,N⟩:=sR x L G Z ai I (n.imp id λe=>(fu e).2);refine⟨.fn D m A,.fn D y ad,λp=>by simp only[hO];rw[dv,M,ab],λp=>by simp only[hO];rw[dv,K,ac],λv a=>?_,λv a=>?_⟩
  .have E:VR g H w (.fn D (aP B m) (aP B A)) v:=a;have aa:∃t vs:List Value,v= .func (.func D) t.toArray vs.toArray/\(aP B m).length=t.length/\(∀(i:Nat) (c:PV) (d:Value),(aP B m)[i]?=c5 c->t[i]?=c5 d->VR g H w c d)/\(aP B A).length=vs.length/\
    (∀(i:Nat) (c:PV) (d:Value),(aP B A)[i]?=c5 c->vs[i]?=c5 d->VR g H w c d):=by
    cases E with
    |aW e=>cases e with |fn _ _ _ t vs s V z U=>exact⟨t,vs,rfl,s,λi c d C I=>.aW (V i c d C I),z,λi c d C I=>.aW (U i c d C I)⟩
    |fn _ _ _ t vs s V z U=>exact⟨t,vs,rfl,s,V,z,U⟩
   obtain⟨t,vs,rfl,s,R,z,Q⟩:=aa;refine .fn D _ _ t vs (by rw[<-s];exact r.len) (λi c d f h=>?_) (by rw[<-z];exact N.len) (λi c d f h=>?_)
   .have l:i<(aP B m).length:=by have:=c9 h;omega
    exact r.vr i _ c d (c4 l) f (R i _ d (c4 l) h)
   .have l:i<(aP B A).length:=by have:=c9 h;omega
    exact N.vr i _ c d (c4 l) f (Q i _ d (c4 l) h)
  .have E:VI g.F w (.fn D (aP B m) (aP B A)) v:=a;cases E with
   |fn _ _ _ t vs s R z Q=>
    refine .fn D _ _ t vs (by rw[<-s];exact r.len) (λi c d f h=>?_) (by rw[<-z];exact N.len) (λi c d f h=>?_)
    .have l:i<(aP B m).length:=by have:=c9 h;omega
     exact r.vi i _ c d (c4 l) f (R i _ d (c4 l) h)
    .have l:i<(aP B A).length:=by have:=c9 h;omega
     exact N.vi i _ c d (c4 l) f (Q i _ d (c4 l) h)
def sR(s:cU P B)(t:∀q v,VR g H w (.ptr (ρ q).1 (ρ q).2 0 0) v->VR g' H' w (.ptr (ρ' q).1 (ρ' q).2 0 0) v)(r:∀q v,VR g H w (.fl (ρ q).1 (ρ q).2) v->VR g' H' w (.fl (ρ' q).1 (ρ' q).2) v):
 ∀(f:List CP) (h:List (TV B.D)),en B (CP.gA f) h->((∀b,g.F b->g'.F b)\/rr B.flat f=true)->∃k l,(∀a,jD ρ f (h++a)=(k,a))/\(∀a,jD ρ' f (h++a)=(l,a))/\E8 B g g' H H' w k l
 |[],h,d,_=>by
  obtain rfl:=en.nil d;exact⟨[],[],λ_=>rfl,λ_=>rfl,rfl,by simp[aP],by simp[aP]⟩
 |G::f,h,d,p=>by
  obtain⟨I,J,rfl,D,A⟩:=en.split d;obtain⟨F,x,E,C,u⟩:=Qy s t r G I D (p.imp id λd=>(fu d).1);obtain⟨k,l,y,z,n⟩:=sR s t r f J A (p.imp id λd=>(fu d).2);refine⟨F::k,x::l,λa=>by simp only[jD];rw[dv,E,y],λa=>by simp only[jD];rw[dv,C,z],by simp[aP,n.len],λi o m v c e j=>?_,λi o m v c e j=>?_⟩
  .cases i with
   |zero=>simp[aP] at c e;subst c;subst e;exact u.vr v j
   |succ i=>exact n.vr i o m v (by simpa[aP] using c) (by simpa[aP] using e) j
  .cases i with
   |zero=>simp[aP] at c e;subst c;subst e;exact u.vi v j
   |succ i=>exact n.vi i o m v (by simpa[aP] using c) (by simpa[aP] using e) j
end
end
structure Fits (P:Program) (B:Tb) (c:aq B):Prop where
 Q6:∀args w,(callFunc c.cO args).run P w= .ok (.enter c.cO args) w
 calls:∀x y,c.F x=c5 y->∀(g:Gh) (w:World) (as:List Value),as.length=c.na->bF g (av B (cz B c.par x).H) w->
  (∀t,VR g (av B (cz B c.par x).H) w (pv B (lk (cz B c.par x).E t)) (as.getD t undef))->
  Calls P c.cO as.toArray w λe w'=>∃v g',e= .returned v/\bF g' (av B (cz B c.az y).H) w'/\Bml.GStep c.low g (av B (cz B c.par x).H) w g' (av B (cz B c.az y).H) w'/\
   VR g' (av B (cz B c.az y).H) w' (pv B (kR (cz B c.az y).E)) v
section
variable {P:Program}{B:Tb}
def Iz{ρ ρ':Nat->Nat×Nat}{h:OP}{a:List (TV B.D)}(i v g d:Nat)(b:en B h.bX a):
 ∃f e,(∀c,dI ρ i v h (a++c)=(f,c))/\(∀c,dI ρ' g d h (a++c)=(e,c))/\f.aF=v/\e.aF=d/\(aY B e).ty=(aY B f).ty/\(aY B e).sz=(aY B f).sz/\(aY B e).es.length=(aY B f).es.length:=by
 cases h with
 |aap j s=>
  match a,b with
  |[o],_=>
   cases o <;> exact⟨_,_,λ_=>rfl,λ_=>rfl,rfl,rfl,rfl,rfl,rfl⟩
  |_::_::_,⟨_,b⟩=>exact b.elim
 |box n l=>
  have m:a.length=(CP.gA l).length:=by
   have:∀(ns:List Nat) (a:List (TV B.D)),en B ns a->a.length=ns.length:=λns=>by
    induction ns with
    |nil=>intro a b;rw[en.nil b];rfl
    |cons s ns x=>
     intro a b;cases a with
     |nil=>exact b.elim
     |cons j a=>simp[x a b.2]
   exact this _ _ b
  obtain⟨t,r,y⟩:=pd ρ l a m;obtain⟨u,p,w⟩:=pd ρ' l a m;exact⟨⟨i,v,.box n t⟩,⟨g,d,.box n u⟩,λc=>by simp only[dI,r c],λc=>by simp only[dI,p c],rfl,rfl,rfl,by simp[aY,y,w],rfl⟩
 |dead=>
  obtain rfl:=en.nil b;exact⟨⟨i,v,.dead⟩,⟨g,d,.dead⟩,λ_=>rfl,λ_=>rfl,rfl,rfl,rfl,rfl,rfl⟩
 |refs j k=>
  have h0:en B [] a:=by rw[<-QY k];exact b
  obtain rfl:=en.nil h0;refine⟨⟨i,v,.hole j [] (k.map λq=>.fl (ρ q).1 (ρ q).2)⟩,⟨g,d,.hole j [] (k.map λq=>.fl (ρ' q).1 (ρ' q).2)⟩,λ_=>by simp only[dI,uA,o3],λ_=>by simp only[dI,uA,o3],rfl,rfl,rfl,rfl,by simp[aY,db]⟩
def af9(z:cU P B){g g':Gh}{H H':List aO}{w:World}{k j:Nat->Nat×Nat}(ab:∀q v,VR g H w (.ptr (k q).1 (k q).2 0 0) v->VR g' H' w (.ptr (j q).1 (j q).2 0 0) v)(F:∀q v,VR g H w (.fl (k q).1 (k q).2) v->VR g' H' w (.fl (j q).1 (j q).2) v)
 {r:OP} {p:List (TV B.D)} {U v T W:Nat} {R L:Ob B.D} (x:en B r.bX p) (n:(∀b,g.F b->g'.F b)\/uT B.flat B.el r=true) (h:∀u,dI k U v r (p++u)=(R,u)) (e:∀u,dI j T W r (p++u)=(L,u)):
 ∀i a d,abk (aY B L).es i a=c5 d->∃O,abk (aY B R).es i a=c5 O/\∀m,VR g H w O m->VR g' H' w d m:=by
 have h:=h [];have e:=e [];rw[ft] at h e;cases r with
 |aap ag J=>
  match p,x with
  |[V],⟨⟨Z,ae⟩,_⟩=>
   intro i a d f;cases V with
   |row I A=>
    simp only[dI,h5,and_true] at h e;subst h;subst e;refine⟨d,f,λm y=>.aW ?_⟩
    have X:∀l,l∈A.map (B.ty I).enc->cE 0 l:=J2 z;have G:=y.dH (nR X f);rcases n with n |n
    .exact G.mono n λ_ _=>rfl
    .obtain rfl:=z.el J Z I A ae.symm;have c:abk (A.map (B.ty (B.el J)).enc) i a=c5 d:=f;obtain⟨l,o,_⟩:=gw c;unfold abk at c;rw[o] at c;obtain⟨af,_,rfl⟩:=ey.1 (ej o);exact z.flat _ af n a d c _ _ _ _ m G
   |_=>
    simp only[dI,h5,and_true] at e;subst e;obtain⟨l,o,_⟩:=gw f;simp[aY] at o
  |_::_::_,⟨_,x⟩=>exact x.elim
 |box ah Y=>
  obtain⟨K,ad,ac,aa,N⟩:=sR z ab F Y p x n;have Q:=ac [];have D:=aa [];rw[ft] at Q D;simp only[dI,Q,h5,and_true] at h;simp only[dI,D,h5,and_true] at e;subst h;subst e;intro i a d f
  match i,f with
  |0,f=>
   have M:(aP B ad)[a]?=c5 d:=f;have S:a<(aP B K).length:=by have:=c9 M;rw[N.len] at this;exact this
   exact⟨(aP B K)[a],c4 S,λm y=>N.vr a _ d m (c4 S) M y⟩
 |dead=>
  obtain rfl:=en.nil x;simp only[dI,h5,and_true] at e;subst e;intro i a d f;obtain⟨l,o,_⟩:=gw f;simp[aY] at o
 |refs ag s=>
  simp only[dI,uA,h5] at h e;obtain⟨rfl,_⟩:=h;obtain⟨rfl,_⟩:=e;intro i a d f;have E:∀(t:Nat->Nat×Nat) i,(aP B (s.map λq=>.fl (t q).1 (t q).2))[i]?=(s[i]?).map λq=>PV.fl (t q).1 (t q).2:=λt i=>by
   rw[db,n2,ec]
   rfl
  have c:((aP B (s.map λq=>.fl (j q).1 (j q).2))[i]?.bind λl=>l.cells[a]?)=c5 d:=f;rw[E] at c;cases C:s[i]? with
  |none=>rw[C] at c;cases c
  |some q=>
   rw[C] at c;cases a with
   |succ a=>simp[PV.cells] at c
   |zero=>
    have c:c5 (PV.fl (j q).1 (j q).2)=c5 d:=c;injection c with c
    subst c;refine⟨.fl (k q).1 (k q).2,?_,λm y=>F q m y⟩
    show((aP B (s.map λq=>.fl (k q).1 (k q).2))[i]?.bind λl=>l.cells[0]?)=_
    rw[E,C]
    rfl
def Pj{ρ ρ':Nat->Nat×Nat}:∀{os:List (Nat×List Nat×OP)} {e:List (TV B.D)} {q0:Nat},en B (rS os) e->
 ∃f i,(∀b,lM ρ q0 os (e++b)=(f,b))/\(∀b,lM ρ' q0 os (e++b)=(i,b))/\f.length=os.length/\i.length=os.length/\
  ∀a:Nat,a<os.length->∃d g j h,f[a]?=c5 j/\i[a]?=c5 h/\en B d.bX g/\(oN B.flat B.el os=true->uT B.flat B.el d=true)/\
   (∀b,dI ρ 0 (ρ (q0+a)).2 d (g++b)=(j,b))/\(∀b,dI ρ' 0 (ρ' (q0+a)).2 d (g++b)=(h,b))
 |[],e,q0,c=>by
  obtain rfl:=en.nil c;exact⟨[],[],λ_=>rfl,λ_=>rfl,rfl,rfl,λa k=>by simp at k⟩
 |w::os,e,q0,c=>by
  obtain⟨y,F,rfl,m,s⟩:=en.split c;obtain⟨j,h,n,l,_⟩:=Iz (ρ:=ρ) (ρ':=ρ') 0 (ρ q0).2 0 (ρ' q0).2 m;obtain⟨f,i,q,r,v,z,C⟩:=Pj (os:=os) (q0:=q0+1) s;refine⟨j::f,h::i,λb=>by simp only[lM];rw[dv,n,q],λb=>by simp only[lM];rw[dv,l,r],by simp[v],by simp[z],λa k=>?_⟩
  cases a with
  |zero=>exact⟨w.2.2,y,j,h,rfl,rfl,m,λc=>(fu c).1,n,l⟩
  |succ a=>
   obtain⟨d,g,t,A,D,u,x,o,E,p⟩:=C a (by simpa using k);refine⟨d,g,t,A,by simpa using D,by simpa using u,x,λc=>o (fu c).2,?_,?_⟩
   .rw[show q0+(a+1)=q0+1+a by omega];exact E
   .rw[show q0+(a+1)=q0+1+a by omega];exact p
def OR(x:cU P B){g m:Gh}{n s:List aO}{f:World}{k h:Nat->Nat×Nat}(y:∀q v,VR g n f (.ptr (k q).1 (k q).2 0 0) v->VR m s f (.ptr (h q).1 (h q).2 0 0) v)(w:∀q v,VR g n f (.fl (k q).1 (k q).2) v->VR m s f (.fl (h q).1 (h q).2) v):
 ∀{j:List (Nat×CP)} {e:List (TV B.D)},en B (vu j) e->((∀b,g.F b->m.F b)\/tJ B.flat j=true)->E8 B g m n s f ((gR k j e).map (·.2)) ((gR h j e).map (·.2))
 |[],e,d,_=>⟨rfl,by simp[gR,aP],by simp[gR,aP]⟩
 |p::j,e,d,u=>by
  obtain⟨F,I,rfl,D,A⟩:=en.split d;obtain⟨H,G,E,C,z⟩:=Qy x y w p.2 F D (u.imp id λd=>(fu d).1);have r:=OR x y w A (u.imp id λd=>(fu d).2);simp only[gR,E,C,hz];refine⟨by simp[aP,r.len],λi t o v a c l=>?_,λi t o v a c l=>?_⟩
  .cases i with
   |zero=>simp[aP] at a c;subst a;subst c;exact z.vr v l
   |succ i=>exact r.vr i t o v (by simpa[aP] using a) (by simpa[aP] using c) l
  .cases i with
   |zero=>simp[aP] at a c;subst a;subst c;exact z.vi v l
   |succ i=>exact r.vi i t o v (by simpa[aP] using a) (by simpa[aP] using c) l
def al8{g j:Gh}{h k:List aO}{e:World}{a c:List (Nat×TV B.D)}(d:E8 B g j h k e (a.map (·.2)) (c.map (·.2))){v:Value}(f:VR g h e (pv B (kR a)) v):VR j k e (pv B (kR c)) v:=by
 have o:c.length=a.length:=by
  have:=d.len;simpa[db] using this
 have bu:∀(a c:List (Nat×TV B.D)),E8 B g j h k e (a.map (·.2)) (c.map (·.2))->VR g h e (pv B (.bu (a.map (·.2)))) v->VR j k e (pv B (.bu (c.map (·.2)))) v:=λa c d f=>by
  obtain⟨q,rfl,u,s⟩:=VR.Db f;refine .bu _ q (by rw[<-u];exact d.len) λi t l r m=>?_
  have n:i<(aP B (a.map (·.2))).length:=by have:=c9 m;omega
  exact d.vr i _ t l (c4 n) r (s i _ l (c4 n) m)
 match a,c,o with
 |[],[],_=>exact bu [] [] d f
 |[p],[y],_=>exact d.vr 0 _ _ v rfl rfl f
 |w::b::a,x::z::c,_=>exact bu _ _ d f
end
def rH:∀(b a:List Rf),bL (b++a)=bL b++bL a
 |[],a=>rfl
 | .bG i::b,a=>by simp[bL,rH b a]
 | .new::b,a=>by simp[bL,rH b a]
 | .gone::b,a=>by simp[bL,rH b a]
 | .bad::b,a=>by simp[bL,rH b a]
def uM:∀{ids:List Rf} {i:Nat},i∈bL ids->∃q,nth ids q=c5 (.bG i)
 | .bG c::ids,i,a=>by
  rcases dd.1 a with rfl |a
  .exact⟨0,rfl⟩
  .obtain⟨q,b⟩:=uM a;exact⟨q+1,b⟩
 | .new::ids,i,a=>by obtain⟨q,b⟩:=uM (ids:=ids) a;exact⟨q+1,b⟩
 | .gone::ids,i,a=>by obtain⟨q,b⟩:=uM (ids:=ids) a;exact⟨q+1,b⟩
 | .bad::ids,i,a=>by obtain⟨q,b⟩:=uM (ids:=ids) a;exact⟨q+1,b⟩
def Ql:∀{n:Nat} {ids:List Rf},kA n ids=true->∀q,q<n->∃i,nth ids q=c5 (.bG i)
 |0,_,_,q,a=>by omega
 |n+1,.bG i::b,a,0,_=>⟨i,rfl⟩
 |n+1,.bG i::b,a,q+1,c=>Ql (n:=n) (ids:=b) a q (by omega)
 |n+1,[],a,_,_=>by simp[kA] at a
 |n+1,.new::_,a,_,_=>by simp[kA] at a
 |n+1,.gone::_,a,_,_=>by simp[kA] at a
 |n+1,.bad::_,a,_,_=>by simp[kA] at a
section
variable {D:Nat->Type}{H:List (Ob D)}
def JU:∀{n:Nat} {ids:List Rf} {os:List (Ob D)},kA n ids=true->n<=os.length->(iF H (ids.take n) (os.take n)).map (·.1)=bL (ids.take n)/\∀q i b,q<n->nth ids q=c5 (.bG i)->os[q]?=c5 b->(i,(⟨dJ H i,b.aF,b.bd⟩:Ob D))∈iF H (ids.take n) (os.take n)
 |0,_,_,_,_=>⟨by simp[iF,bL],λq i b a=>by omega⟩
 |n+1,.bG i::f,b::os,a,c=>by
  obtain⟨g,k⟩:=JU (n:=n) (ids:=f) (os:=os) a (by simpa using c);refine⟨by simp[iF,bL,g],λq j h l e d=>?_⟩
  cases q with
  |zero=>
   simp only[nth,ee,Rf.bG.injEq,kc] at e d;subst e;subst d;simp[iF]
  |succ q=>
   simp only[List.take_succ_cons,iF,dd];exact .inr (k q j h (by omega) e (by simpa using d))
 |n+1,.bG i::f,[],a,c=>by simp at c
 |n+1,[],_,a,_=>by simp[kA] at a
 |n+1,.new::_,_,a,_=>by simp[kA] at a
 |n+1,.gone::_,_,a,_=>by simp[kA] at a
 |n+1,.bad::_,_,a,_=>by simp[kA] at a
def tm:∀{ids:List Rf},(∀i,i∈bL ids->∃a,nth H i=c5 a)->(jL H ids).map (·.1)=bL ids/\∀q i a,nth ids q=c5 (.bG i)->nth H i=c5 a->(i,(⟨a.st+1,a.aF+1,.dead⟩:Ob D))∈jL H ids
 |[],_=>⟨rfl,λq i a d=>by simp[nth] at d⟩
 | .bG k::g,d=>by
  obtain⟨l,h⟩:=d k (by simp[bL]);obtain⟨e,f⟩:=tm (ids:=g) λi j=>d i (by simp[bL,j])
  refine⟨by simp[jL,h,bL,e],λq i a b c=>?_⟩
  simp only[jL,h];cases q with
  |zero=>
   simp only[nth,ee,Rf.bG.injEq] at b;subst b;rw[h] at c;injection c with c
   subst c;simp
  |succ q=>exact c7 _ (f q i a b c)
 | .new::g,d=>by
  obtain⟨e,f⟩:=tm (ids:=g) d;exact⟨e,λq i a b c=>by cases q with |zero=>simp[nth] at b |succ q=>exact f q i a b c⟩
 | .gone::g,d=>by
  obtain⟨e,f⟩:=tm (ids:=g) d;exact⟨e,λq i a b c=>by cases q with |zero=>simp[nth] at b |succ q=>exact f q i a b c⟩
 | .bad::g,d=>by
  obtain⟨e,f⟩:=tm (ids:=g) d;exact⟨e,λq i a b c=>by cases q with |zero=>simp[nth] at b |succ q=>exact f q i a b c⟩
def Jy:∀{bs:Nat} {os:List (Ob D)},(news bs os).map (·.1)=o9 bs os.length/\∀(a:Nat) (c:Ob D),os[a]?=c5 c->(bs+a,c)∈news bs os
 |bs,[]=>⟨rfl,λa c b=>by simp at b⟩
 |bs,f::os=>by
  obtain⟨d,e⟩:=Jy (bs:=bs+1) (os:=os);refine⟨by simp[news,d,q7],λa c b=>?_⟩
  cases a with
  |zero=>simp at b;subst b;simp[news]
  |succ a=>
   have:=e a c (by simpa using b);rw[show bs+(a+1)=bs+1+a by omega];exact c7 _ this
end
def gE{D:Nat->Type}(H:List (Ob D))(a d:Nat)(c:List Rf)(b:List (Ob D)):List (Nat×Ob D):=
 aX (iF H (tk a c) (tk a b)) (aX (jL H (drop a c)) (news d (drop a b)))
section
variable {D:Nat->Type}{H:List (Ob D)}
def afH{c:Type}(a:List c)(b q:Nat):nth (a.drop b) q=nth a (b+q):=by
 rw[cJ,cJ,hK]
def agp{a bs:Nat}{ids:List Rf}{os:List (Ob D)}(I:kA a ids=true)(C:a<=os.length)(z:(bL ids).Nodup)(m:∀i,i∈bL ids->∃c,nth H i=c5 c)(A:∀i,i∈bL ids->i<bs)
 (K:∀d,a+d<os.length->∃c,nth H (bs+d)=c5 c):
 (∀q i c,q<a->nth ids q=c5 (.bG i)->os[q]?=c5 c->nth (b8 H (gE H a bs ids os)) i=c5 ⟨dJ H i,c.aF,c.bd⟩)/\
 (∀q i c,a<=q->nth ids q=c5 (.bG i)->nth H i=c5 c->nth (b8 H (gE H a bs ids os)) i=c5 ⟨c.st+1,c.aF+1,.dead⟩)/\
 (∀d c,os[a+d]?=c5 c->nth (b8 H (gE H a bs ids os)) (bs+d)=c5 c)/\
 (∀i,i∉bL ids->(i<bs\/bs+(os.length -a)<=i)->nth (b8 H (gE H a bs ids os)) i=nth H i):=by
 have n:bL ids=bL (ids.take a)++bL (ids.drop a):=by rw[<-rH,gx]
 obtain⟨E,J⟩:=JU (H:=H) (os:=os) I C;obtain⟨B,G⟩:=tm (H:=H) (ids:=ids.drop a) λi e=>m i (by rw[n];exact j5 _ e)
 obtain⟨v,t⟩:=Jy (bs:=bs) (os:=os.drop a);have r:(gE H a bs ids os).map (·.1)=bL ids++o9 bs (os.length -a):=by
  unfold gE;rw[bK,bK,kK,kK,drop_eq,drop_eq,o4,o4,E,B,v,n,dv,ih]
 have s:((gE H a bs ids os).map (·.1)).Nodup:=by
  rw[r,List.nodup_append];refine⟨z,List.nodup_range',λx u b l y=>?_⟩
  subst y;have:=A x u;have:=(m6.1 l).1;omega
 obtain⟨j,L⟩:=I5 (ch:=gE H a bs ids os) (H:=H) s;have k:∀p,p∈iF H (ids.take a) (os.take a)\/p∈jL H (ids.drop a)\/p∈news bs (os.drop a)->p∈gE H a bs ids os:=λp w=>by
  unfold gE;rw[bK,bK,kK,kK,drop_eq,drop_eq,c6,c6];exact w
 have lt:∀{i c},nth H i=c5 c->i<H.length:=λ{i c} g=>by rw[cJ] at g;exact c9 g
 refine⟨λq i c o e f=>?_,λq i c o e f=>?_,λd c f=>?_,λi e l=>?_⟩
 .obtain⟨F,h⟩:=m i (gV e);exact j _ _ (k _ (.inl (J q i c o e f))) (lt h)
 .exact j _ _ (k _ (.inr (.inl (G (q -a) i c (by rw[afH,show a+(q -a)=q by omega];exact e) f)))) (lt f)
 .obtain⟨F,h⟩:=K d (c9 f);exact j _ _ (k _ (.inr (.inr (t d c (by rw[hK];exact f))))) (lt h)
 .refine L i ?_
  rw[r,c6,m6];rintro(g |g)
  .exact e g
  .omega
end
section
variable {P:Program}{B:Tb}
open Classical in
def aeK(aa:cU P B){c:aq B}(aE:Fits P B c){Ea:En B.D}{H:List (Ob B.D)}{ids:List Rf}{bz:List (TV B.D)}{a2:bi B.D c.par.bX}{au:bi B.D c.az.bX}{bs:Nat}{rs:En B.D}{os:List (Ob B.D)}
 (cs:leaves c.par ⟨Ea,H⟩ ids=c5 bz) (cx:eJ B c.par.bX bz (rQ B c.par.bX a2)) (aZ:c.F a2=c5 au) (bj:nI B (gu H ids c.low bs) c.az au=⟨rs,os⟩)
 (cD:zc (aX (eW H c.par.dF ids) (gK ⟨Ea,H⟩ c.par.dE))=true\/(oN B.flat B.el c.az.dF=true/\tJ B.flat c.az.dE=true))
 (b0:kA c.low ids=true) (ct:c.low<=os.length) (bN:∀i,i∈bL ids->i<bs) (a8:∀e,c.low+e<os.length->nth H (bs+e)=c5 xt)
 {g:Gh} {w:World} {as:List Value} (ak:bF g (av B H) w) (cy:as.length=c.na) (bn:∀ap,VR g (av B H) w (pv B (lk Ea ap)) (as.getD ap undef)):
 Calls P c.cO as.toArray w λt Q=>∃v g',t= .returned v/\bF g' (av B (b8 H (gE H c.low bs ids os))) Q/\Bml.GStep (av B H).length g (av B H) w g' (av B (b8 H (gE H c.low bs ids os))) Q/\
  VR g' (av B (b8 H (gE H c.low bs ids os))) Q (pv B (kR rs)) v:=by
 let aK:=aX (eW H c.par.dF ids) (gK ⟨Ea,H⟩ c.par.dE)
 let fz:Nat->Prop:=λi=>i∈aK/\∀q,eQ ids q≠c5 i
 obtain⟨be,bP,cB,b1⟩:=PQ aa cs cx ak (fz:=fz) (λi a=>a.2) (λi d b3=>⟨d,λq j=>b3 (gV (qS j))⟩);refine(aE.calls a2 au aZ _ w as cy cB λap=>b1 ap _ (bn ap)).mono ?_
 rintro t Q ⟨v,y,rfl,ae,O,aV⟩;have aQ:∀i,i∈bL ids->∃L,nth H i=c5 L:=λi d=>by
  obtain⟨q,j⟩:=uM d;obtain⟨_,L,_,X,_⟩:=bP.bG q i j;exact⟨L,X⟩
 obtain⟨bY,bA,bV,bh⟩:=agp (os:=os) (bs:=bs) b0 ct be aQ bN λe E=>⟨_,a8 e E⟩
 generalize cc:b8 H (gE H c.low bs ids os)=H2 at bY bA bV bh⊢;have co:H2.length=H.length:=by rw[<-cc,qy]
 have cg:=NA (B:=B) c.az.bX au;obtain⟨cE,bf,bJ,u1,u2⟩:=en.split cg;obtain⟨J,ca,ch,b4,cI,cM,bM⟩:=Pj (ρ:=λq=>(q,0)) (ρ':=gu H ids c.low bs) (q0:=0) u1;have cm:cz B c.az au=⟨gR (λq=>(q,0)) c.az.dE bf,J⟩:=by
  unfold cz nI;rw[bJ,ch]
 have b5:rs=gR (gu H ids c.low bs) c.az.dE bf/\os=ca:=by
  unfold nI at bj;rw[bJ,b4] at bj;injection bj with u p
  exact⟨u.symm,p.symm⟩
 obtain⟨rfl,rfl⟩:=b5;rw[cm] at ae O aV
 replace ae:bF y (av B J) Q:=ae
 replace O:Bml.GStep c.low (dj g (eQ ids) fz) (av B (cz B c.par a2).H) w y (av B J) Q:=O
 replace aV:VR y (av B J) Q (pv B (kR (gR (λq=>(q,0)) c.az.dE bf))) v:=aV
 have cF:J.length=os.length:=by omega
 have aR:∀q b h,(dj g (eQ ids) fz).β q=c5 (b,h)->∃i,nth ids q=c5 (.bG i)/\g.β i=c5 (b,h):=λq b h a=>by
  have l:(eQ ids q).bind g.β=c5 (b,h):=a;cases aM:eQ ids q with
  |none=>rw[aM] at l;cases l
  |some i=>rw[aM] at l;exact⟨i,qS aM,l⟩
 let ad:Nat->Prop:=λi=>∃q,q<c.low/\nth ids q=c5 (.bG i)
 let aN:Nat->Prop:=λi=>bs<=i/\c.low+(i -bs)<os.length
 let bX:Nat->Prop:=λb=>∃i h,fz i/\g.β i=c5 (b,h)
 let V:Gh:={F:=λb=>y.F b/\¬bX b,β:=λi=>if a:ad i then y.β a.choose else if i∈bL ids then ea else if aN i then y.β (c.low+(i -bs)) else g.β i}
 have ah:∀q i,q<c.low->nth ids q=c5 (.bG i)->V.β i=y.β q:=λq i j d=>by
  have a:ad i:=⟨q,j,d⟩;show(if a:ad i then y.β a.choose else _)=_
  rw[dif_pos a,ES be a.choose_spec.2 d]
 have am:∀q i,c.low<=q->nth ids q=c5 (.bG i)->V.β i=ea:=λq i j d=>by
  have a:¬ad i:=λ⟨D,u,p⟩=>by have:=ES be p d;omega
  show(if a:ad i then y.β a.choose else if i∈bL ids then ea else _)=_
  rw[dif_neg a,if_pos (gV d)]
 have bQ:∀e,bs+e∉bL ids:=λe a=>by have:=bN _ a;omega
 have an:∀e,c.low+e<os.length->V.β (bs+e)=y.β (c.low+e):=λe E=>by
  have a:¬ad (bs+e):=λ⟨D,u,p⟩=>bQ e (gV p)
  have p:aN (bs+e):=⟨by omega,by rw[show bs+e -bs=e by omega];exact E⟩;show(if a:ad (bs+e) then y.β a.choose else if bs+e∈bL ids then ea else if aN (bs+e) then y.β (c.low+(bs+e -bs)) else _)=_
  rw[dif_neg a,if_neg (bQ e),if_pos p,show bs+e -bs=e by omega]
 have aj:∀i,i∉bL ids->(i<bs\/bs+(os.length -c.low)<=i)->V.β i=g.β i:=λi d k=>by
  have a:¬ad i:=λ⟨D,u,p⟩=>d (gV p)
  have p:¬aN i:=λ⟨u,p⟩=>by omega
  show(if a:ad i then y.β a.choose else if i∈bL ids then ea else if aN i then y.β (c.low+(i -bs)) else g.β i)=_
  rw[dif_neg a,if_neg d,if_neg p]
 have ai:∀i,(∃q,q<c.low/\nth ids q=c5 (.bG i))\/(∃q,c.low<=q/\nth ids q=c5 (.bG i))\/(∃e,c.low+e<os.length/\i=bs+e)\/(i∉bL ids/\(i<bs\/bs+(os.length -c.low)<=i)):=λi=>by
  by_cases d:i∈bL ids
  .obtain⟨q,j⟩:=uM d;rcases hI q c.low with a |a
   .exact .inl ⟨q,a,j⟩
   .exact .inr (.inl ⟨q,a,j⟩)
  .by_cases a:bs<=i/\i<bs+(os.length -c.low)
   .exact .inr (.inr (.inl ⟨i -bs,by omega,by omega⟩))
   .exact .inr (.inr (.inr ⟨d,by omega⟩))
 have bm:∀q b h,y.β q=c5 (b,h)->w.heap.size<=b\/∃i o,i∈bL ids/\g.β i=c5 (b,o):=λq b h a=>by
  rcases O.oZ q b h a with a |⟨D,o,a⟩
  .exact .inl a
  .obtain⟨i,d,k⟩:=aR D b o a;exact .inr ⟨i,o,gV d,k⟩
 have ba:∀q i,q<c.low->nth ids q=c5 (.bG i)->∃op r m f T,J[q]?=c5 m/\os[q]?=c5 f/\en B op.bX r/\(oN B.flat B.el c.az.dF=true->uT B.flat B.el op=true)/\(∀x,dI (λq=>(q,0)) 0 0 op (r++x)=(m,x))/\(∀x,dI (gu H ids c.low bs) 0 T.aF op (r++x)=(f,x))/\
  nth H i=c5 T/\nth H2 i=c5 ⟨dJ H i,f.aF,f.bd⟩/\m.aF=0/\f.aF=T.aF/\(aY B f).ty=(aY B m).ty/\(aY B f).sz=(aY B m).sz/\(aY B f).es.length=(aY B m).es.length:=λq i j d=>by
  obtain⟨op,r,m,f,z,Z,M,U,G,C⟩:=bM q (by omega);obtain⟨T,a4⟩:=aQ i (gV d);rw[e6] at G C;have bl:(gu H ids c.low bs q).2=T.aF:=by
   unfold gu;rw[show j8 q c.low=true from hM j,d];simp only[cond_true,a4]
  rw[bl] at C;obtain⟨al,az,bD,bp,bw,bx,aF,aw,aA⟩:=Iz (B:=B) (ρ:=λq=>(q,0)) (ρ':=gu H ids c.low bs) 0 0 0 T.aF M;obtain rfl:al=m:=by have N:=bD [];have b:=G [];rw[N] at b;exact(eE b).1
  obtain rfl:az=f:=by have N:=bp [];have b:=C [];rw[N] at b;exact(eE b).1
  exact⟨op,r,al,az,T,z,Z,M,U,G,C,a4,bY q i az j d Z,bw,bx,aF,aw,aA⟩
 have bt:∀e,c.low+e<os.length->∃op r m f,J[c.low+e]?=c5 m/\os[c.low+e]?=c5 f/\en B op.bX r/\(oN B.flat B.el c.az.dF=true->uT B.flat B.el op=true)/\(∀x,dI (λq=>(q,0)) 0 0 op (r++x)=(m,x))/\(∀x,dI (gu H ids c.low bs) 0 1 op (r++x)=(f,x))/\
  nth H2 (bs+e)=c5 f/\m.aF=0/\f.aF=1/\(aY B f).ty=(aY B m).ty/\(aY B f).sz=(aY B m).sz/\(aY B f).es.length=(aY B m).es.length:=λe E=>by
  obtain⟨op,r,m,f,z,Z,M,U,G,C⟩:=bM (c.low+e) (by omega);rw[e6] at G C;have bl:(gu H ids c.low bs (c.low+e)).2=1:=by
   unfold gu;have:j8 (c.low+e) c.low=false:=by
    cases k:j8 (c.low+e) c.low with
    |false=>rfl
    |true=>have:=e4 k;omega
   rw[this];rfl
  rw[bl] at C;obtain⟨al,az,bD,bp,bw,bx,aF,aw,aA⟩:=Iz (B:=B) (ρ:=λq=>(q,0)) (ρ':=gu H ids c.low bs) 0 0 0 1 M;obtain rfl:al=m:=by have N:=bD [];have b:=G [];rw[N] at b;exact(eE b).1
  obtain rfl:az=f:=by have N:=bp [];have b:=C [];rw[N] at b;exact(eE b).1
  exact⟨op,r,al,az,z,Z,M,U,G,C,bV e az Z,bw,bx,aF,aw,aA⟩
 have bk:∀i b h,g.β i=c5 (b,h)->i<H.length/\b<w.heap.size/\¬g.F b:=λi b h a=>by
  have d:=ak.m8 i b h a;have n:i<H.length:=by rwa [qL] at d
  refine⟨n,ak.qD a,?_⟩
  have:=(ak.obj i _ (c4 d)).mem;rw[a] at this;exact this.1
 have b7:∀b,g.F b->¬bX b:=λb k ⟨i,h,_,a⟩=>(bk i b h a).2.2 k
 have bS:Bml.GStep (av B H).length g (av B H) w V (av B H2) Q:=by
  refine⟨O.os,O.tape,O.output,O.size,λb k=>⟨O.F b (.inl k),b7 b k⟩,λb k=>O.jh b (.inl k),λb k a3=>O.rest b k λq h a=>?_,λb k=>?_,λi b h k=>?_,λi L d X=>?_⟩
  .obtain⟨i,_,p⟩:=aR q b h a;exact a3 i h p
  .rcases O.oY b k.1 with a |a |⟨q,h,a⟩
   .rcases a with a |⟨i,h,u,p⟩
    .exact .inl a
    .exact absurd ⟨i,h,u,p⟩ k.2
   .exact .inr (.inl a)
   .obtain⟨i,_,p⟩:=aR q b h a;exact .inr (.inr ⟨i,h,p⟩)
  .rcases ai i with⟨q,j,d⟩ |⟨q,j,d⟩ |⟨e,E,rfl⟩ |⟨d,S⟩
   .rw[ah q i j d] at k;exact(bm q b h k).imp id λ⟨i,o,_,a⟩=>⟨i,o,a⟩
   .rw[am q i j d] at k;cases k
   .rw[an e E] at k;exact(bm _ b h k).imp id λ⟨i,o,_,a⟩=>⟨i,o,a⟩
   .rw[aj i d S] at k;exact .inr ⟨i,h,k⟩
  .obtain⟨bC,R,rfl⟩:=oU X;rcases ai i with⟨q,j,n⟩ |⟨q,j,n⟩ |⟨e,E,rfl⟩ |⟨n,S⟩
   .obtain⟨op,r,m,f,T,z,Z,M,U,G,C,K,W,af,aO,aC,ab,ag⟩:=ba q i j n;rw[R] at K;injection K with K
    subst K;refine⟨_,df W,by rw[e7,e7,aO];exact ef _,λ_=>?_⟩
    obtain⟨aM,L,ay,a1,cn,cf,ci,cr⟩:=bP.bG q i n;rw[R] at a1;injection a1 with a1
    subst a1;obtain⟨cO,aU,cL,b2⟩:=O.dF q _ j (df cn);have ck:(av B J)[q]?=c5 (aY B m):=df (by rw[cJ];exact z);rw[ck] at aU;injection aU with aU
    subst aU;obtain⟨cu,ce,cj⟩:=b2 (by rw[e7,e7,af,cf]);refine⟨?_,?_,?_⟩
    .show(aY B ⟨dJ H i,f.aF,f.bd⟩).sz=_
     rw[show aY B ⟨dJ H i,f.aF,f.bd⟩=aY B f from rfl,ab,cu,ci]
    .show(aY B ⟨dJ H i,f.aF,f.bd⟩).es.length=_
     rw[show aY B ⟨dJ H i,f.aF,f.bd⟩=aY B f from rfl,ag,ce,cr]
    .rw[ah q i j n,cj];show(eQ ids q).bind g.β=_
     rw[aM];rfl
   .have:=bA q i bC j n R;exact⟨_,df this,by rw[e7,e7];exact Nat.le_succ _,λt=>by rw[e7,e7] at t;exact absurd t (Nat.succ_ne_self _)⟩
   .obtain⟨op,r,m,f,z,Z,M,U,G,C,K,W,af,_⟩:=bt e E;rw[a8 e E] at R;injection R with R
    subst R;exact⟨_,df K,by rw[e7];exact l2 _,λt=>by rw[e7,e7,af] at t;cases t⟩
   .exact⟨_,df (by rw[bh i n S];exact R),ef _,λ_=>⟨rfl,rfl,aj i n S⟩⟩
 have bZ:(∀b,y.F b->V.F b)\/(oN B.flat B.el c.az.dF=true/\tJ B.flat c.az.dE=true):=cD.imp (λa3 b k=>⟨k,λ⟨i,h,u,_⟩=>by
  have p:i∈aK:=u.1;have aJ:aK=[]:=by
   cases cl:aK with
   |nil=>rfl
   |cons N J=>rw[show aX (eW H c.par.dF ids) (gK ⟨Ea,H⟩ c.par.dE)=aK from rfl,cl] at a3;cases a3
  rw[aJ] at p;cases p⟩) id
 have b9:∀q,(∃i,q<c.low/\nth ids q=c5 (.bG i))\/c.low<=q:=λq=>by
  rcases hI q c.low with a |a
  .obtain⟨i,d⟩:=Ql b0 q a;exact .inl ⟨i,a,d⟩
  .exact .inr a
 have conv:∀q:Nat,∀m,(av B J)[q]?=c5 m->m.aF=0/\∃i f,gu H ids c.low bs q=(i,f.aF)/\(av B H2)[i]?=c5 f/\f.sz=m.sz/\f.es.length=m.es.length/\V.β i=y.β q:=λq m u=>by
  obtain⟨cH,aS,rfl⟩:=oU u;rw[cJ] at aS;rcases b9 q with⟨i,j,d⟩ |j
  .obtain⟨op,r,al,f,T,z,Z,M,U,G,C,K,W,af,aO,aC,ab,ag⟩:=ba q i j d;rw[aS] at z;injection z with z
   subst z;refine⟨by rw[e7,af],i,_,?_,df W,ab,ag,ah q i j d⟩
   unfold gu;rw[show j8 q c.low=true from hM j,d];simp only[cond_true,K,e7,aO]
  .have cG:q<J.length:=c9 aS;have E:c.low+(q -c.low)<os.length:=by omega
   obtain⟨op,r,al,f,z,Z,M,U,G,C,K,W,af,aC,ab,ag⟩:=bt (q -c.low) E;rw[show c.low+(q -c.low)=q by omega,aS] at z;injection z with z
   subst z;refine⟨by rw[e7,W],bs+(q -c.low),_,?_,df K,ab,ag,by rw[an _ E,show c.low+(q -c.low)=q by omega]⟩
   unfold gu;have:j8 q c.low=false:=by
    cases k:j8 q c.low with
    |false=>rfl
    |true=>have:=e4 k;omega
   rw[this];simp only[cond_false,e7,af]
 have bR:∀q v,VR y (av B J) Q (.ptr q 0 0 0) v->VR V (av B H2) Q (.ptr (gu H ids c.low bs q).1 (gu H ids c.low bs q).2 0 0) v:=λq v a=>by
  cases a with
  |aW a=>cases a
  |ptr _ _ _ _ m N X bn cA=>
   obtain⟨h0,i,f,bc,bo,bB,a7,a9⟩:=conv q m X;obtain⟨u,b,h,k,rfl⟩:=cA h0.symm;rw[bc];exact .ptr i _ 0 0 f _ bo (ef _) λ_=>⟨by rw[a7];exact u,b,h,by rw[a9];exact k,by rw[bB]⟩
 have bU:∀q v,VR y (av B J) Q (.fl q 0) v->VR V (av B H2) Q (.fl (gu H ids c.low bs q).1 (gu H ids c.low bs q).2) v:=λq v a=>by
  cases a with
  |aW a=>cases a
  |fl _ _ m _ X bn u cC=>
   obtain⟨h0,i,f,bc,bo,bB,a7,a9⟩:=conv q m X;rw[bc];refine .fl i _ f _ bo (ef _) u λ_=>?_
   have bO:=cC h0.symm;unfold SL at bO⊢;rw[bB,a7,a9];exact bO
 have bT:∀q op r m (f:Ob B.D) a5 a0,J[q]?=c5 m->en B op.bX r->(oN B.flat B.el c.az.dF=true->uT B.flat B.el op=true)->(∀x,dI (λq=>(q,0)) 0 0 op (r++x)=(m,x))->(∀x,dI (gu H ids c.low bs) a5 a0 op (r++x)=(f,x))->
  (aY B f).ty=(aY B m).ty->(aY B f).sz=(aY B m).sz->(aY B f).es.length=(aY B m).es.length->∀i,V.β i=y.β q->qT V (av B H2) Q i (aY B f):=λq op r m f a5 a0 z M U G C aF aw aA i b6=>by
  obtain⟨bv,bH,ac⟩:=ae.obj q _ (df (by rw[cJ];exact z));have cd:=af9 aa (H:=av B J) (H':=av B H2) (g:=y) (g':=V) (w:=Q) bR bU M (bZ.imp id λa=>U a.1) G C;refine⟨by rw[aw];exact bv,aeL aa (op:=op) (ms:=r) G C bH,?_⟩
  rw[b6];cases k:y.β q with
  |none=>
   rw[k] at ac;exact dT (by rw[aA,ac];rfl)
  |some a6=>
   obtain⟨b,h⟩:=a6;rw[k] at ac;obtain⟨br,cells,aH,bE,bI,bq,bd⟩:=ac;refine⟨λa=>br a.1,cells,by rw[aF];exact aH,by rw[aw];exact bE,bI,by rw[aA];exact bq,λN e cw aE=>?_⟩
   obtain⟨bb,cq,cv⟩:=cd N e cw aE;obtain⟨aT,u,p,aJ⟩:=bd N e bb cq;exact⟨aT,by rw[aw];exact u,p,cv aT aJ⟩
 refine⟨v,V,rfl,⟨λb k=>ae.fb b k.1,λi A b h o a l=>?_,λi b h a=>?_,λi L X=>?_⟩,bS,?_⟩
 .
  have bG:∀i,i∉bL ids->(i<bs\/bs+(os.length -c.low)<=i)->∀b h,g.β i=c5 (b,h)->∀q o,y.β q≠c5 (b,o):=λi d _ b h k q o j=>by
   rcases bm q b o j with a |⟨A,C2,u,p⟩
   .have:=(bk i b h k).2.1;omega
   .obtain rfl:=ak.inj i A b h C2 k p;exact d u
  rcases ai i with⟨q,j,d⟩ |⟨q,j,d⟩ |⟨e,E,rfl⟩ |⟨d,S⟩
  .rw[ah q i j d] at a;rcases ai A with⟨D,Y,n⟩ |⟨D,Y,n⟩ |⟨aL,aG,rfl⟩ |⟨n,ar⟩
   .rw[ah D A Y n] at l;obtain rfl:=ae.inj q D b h o a l;rw[d] at n;injection n with n
    injection n
   .rw[am D A Y n] at l;cases l
   .rw[an aL aG] at l;have:=ae.inj q _ b h o a l;omega
   .rw[aj A n ar] at l;exact absurd a (bG A n ar b o l q h)
  .rw[am q i j d] at a;cases a
  .rw[an e E] at a;rcases ai A with⟨D,Y,n⟩ |⟨D,Y,n⟩ |⟨aL,aG,rfl⟩ |⟨n,ar⟩
   .rw[ah D A Y n] at l;have:=ae.inj _ D b h o a l;omega
   .rw[am D A Y n] at l;cases l
   .rw[an aL aG] at l;have:=ae.inj _ _ b h o a l;omega
   .rw[aj A n ar] at l;exact absurd a (bG A n ar b o l _ h)
  .rw[aj i d S] at a;rcases ai A with⟨D,Y,n⟩ |⟨D,Y,n⟩ |⟨aL,aG,rfl⟩ |⟨n,ar⟩
   .rw[ah D A Y n] at l;exact absurd l (bG i d S b h a D o)
   .rw[am D A Y n] at l;cases l
   .rw[an aL aG] at l;exact absurd l (bG i d S b h a _ o)
   .rw[aj A n ar] at l;exact ak.inj i A b h o a l
 .rw[qL,co];rcases ai i with⟨q,j,d⟩ |⟨q,j,d⟩ |⟨e,E,rfl⟩ |⟨d,S⟩
  .obtain⟨L,X⟩:=aQ i (gV d);rw[cJ] at X;exact c9 X
  .rw[am q i j d] at a;cases a
  .have:=a8 e E;rw[cJ] at this;exact c9 this
  .rw[aj i d S] at a;exact(bk i b h a).1
 .obtain⟨bC,R,rfl⟩:=oU X;rcases ai i with⟨q,j,d⟩ |⟨q,j,d⟩ |⟨e,E,rfl⟩ |⟨d,S⟩
  .obtain⟨op,r,m,f,T,z,Z,M,U,G,C,K,W,af,aO,aC,ab,ag⟩:=ba q i j d;rw[R] at W;injection W with W
   subst W;exact bT q op r m f 0 T.aF z M U G C aC ab ag i (ah q i j d)
  .obtain⟨T,a4⟩:=aQ i (gV d);have:=bA q i T j d a4;rw[R] at this;injection this with this
   subst this;refine⟨qb,λN t I=>by simp[aY] at I,?_⟩
   rw[am q i j d]
   rfl
  .obtain⟨op,r,m,f,z,Z,M,U,G,C,K,W,af,aC,ab,ag⟩:=bt e E;rw[R] at K;injection K with K
   subst K;exact bT (c.low+e) op r m bC 0 1 z M U G C aC ab ag _ (an e E)
  .rw[bh i d S] at R;obtain⟨bv,bH,ac⟩:=ak.obj i _ (df R);refine⟨bv,bH,?_⟩
   rw[aj i d S];cases k:g.β i with
   |none=>rw[k] at ac;exact ac
   |some a6=>
    obtain⟨b,h⟩:=a6;rw[k] at ac;obtain⟨br,cells,aH,bE,bI,bq,bd⟩:=ac;have bW:∀q o,(dj g (eQ ids) fz).β q≠c5 (b,o):=λq o a=>by
     obtain⟨A,u,p⟩:=aR q b o a;obtain rfl:=ak.inj i A b h o k p;exact d (gV u)
    refine⟨λaZ=>?_,cells,(O.rest b (nN aH) bW).trans aH,bE,bI,bq,λN e bb aE=>?_⟩
    .rcases O.oY b aZ.1 with a |a |⟨q,o,a⟩
     .rcases a with a |⟨A,o,u,p⟩
      .exact br a
      .exact aZ.2 ⟨A,o,u,p⟩
     .have:=nN aH;omega
     .exact bW q o a
    .obtain⟨aT,u,p,aJ⟩:=bd N e bb aE;exact⟨aT,u,p,aJ.nZ bS⟩
 .exact al8 (OR aa bR bU u2 (bZ.imp id λa=>a.2)) aV
where
 aeL (aa:cU P B) {ρ ρ':Nat->Nat×Nat} {s v a5 a0:Nat} {op:OP} {ms:List (TV B.D)} {L ay:Ob B.D} (a:∀x,dI ρ s v op (ms++x)=(L,x)) (l:∀x,dI ρ' a5 a0 op (ms++x)=(ay,x))
  (hw:∀(i:Nat) (t:PV),(aY B L).es[i]?=c5 t->t.cells.length=(aY B L).sz):∀(i:Nat) (t:PV),(aY B ay).es[i]?=c5 t->t.cells.length=(aY B ay).sz:=by
  have a:=a [];have l:=l [];rw[ft] at a l;cases op with
  |refs r aI=>
   simp only[dI,uA,h5] at a l;obtain⟨rfl,_⟩:=a;obtain⟨rfl,_⟩:=l;have bK:∀(aD:Nat->Nat×Nat) i,(aP B (aI.map λq=>.fl (aD q).1 (aD q).2))[i]?=(aI[i]?).map λq=>PV.fl (aD q).1 (aD q).2:=λaD i=>by
    rw[db,n2,ec]
    rfl
   intro i t I;have I:(aP B (aI.map λq=>.fl (ρ' q).1 (ρ' q).2))[i]?=c5 t:=I;rw[bK] at I;cases j:aI[i]? with
   |none=>rw[j] at I;cases I
   |some q=>
    rw[j] at I;injection I with I
    subst I;exact hw i (.fl (ρ q).1 (ρ q).2) (by show(aP B (aI.map λq=>.fl (ρ q).1 (ρ q).2))[i]?=_;rw[bK,j];rfl)
  |aap r ax=>
   refine HK aa ay λax ao aB t=>?_
   cases ms with
   |nil=>
    simp only[dI] at l;obtain⟨rfl,_⟩:=eE l;cases t
   |cons J bz=>cases J <;> (simp only[dI] at l;obtain⟨rfl,_⟩:=eE l;cases t)
  |box ap cp=>
   refine HK aa ay λax ao aB t=>?_
   simp only[dI] at l;obtain⟨rfl,_⟩:=eE l;cases t
  |dead=>
   refine HK aa ay λax ao aB t=>?_
   simp only[dI] at l;obtain⟨rfl,_⟩:=eE l;cases t
 HK (aa:cU P B) (L:Ob B.D) (hnh:∀ax ao aB,L.bd≠ .hole ax ao aB):∀(i:Nat) (t:PV),(aY B L).es[i]?=c5 t->t.cells.length=(aY B L).sz:=λi t I=>by
  obtain⟨cN,cK,cb⟩:=L;cases cb with
  |aap r ao=>
   obtain⟨au,_,rfl⟩:=ey.1 (ej I);exact aa.wid r au
  |box ap cp=>
   match i,I with
   |0,I=>
    simp only[aY,kc,ee] at I;subst I;simp[aY,PV.cells,db]
  |dead=>simp[aY] at I
  |hole ax ao aB=>exact absurd rfl (hnh ax ao aB)
end
section
variable {P:Program}{B:Tb}{H H':List (Ob B.D)}
def rT{i v:Nat}(a:nth H' i=nth H i):aK H' i v=aK H i v:=by unfold aK;rw[a]
def R5{c:List Nat}:∀(a:List (TV B.D)),(∀i,i∈iB a->nth H' i=nth H i)->qf H' c a=qf H c a
 |[],_=>rfl
 |e::a,b=>by
  simp only[qf];rw[R5 a λi d=>b i (by simp only[iB,bK,c6];exact .inr d)]
  congr 1
  cases e with
  |fl q v=>simp only[ml];rw[rT (b q (by simp[iB,refs,bK]))]
  |_=>rfl
def Ki:∀(a:List Nat),(∀i,i∈a->nth H' i=nth H i)->kY H' a=kY H a
 |[],_=>rfl
 |r::a,b=>by
  unfold kY;rw[b r (by simp),Ki a λi c=>b i (c7 _ c)]
mutual
def H6{h:List Nat}:∀(e:TV B.D),(∀i,jN H (refs e) i->nth H' i=nth H i)->kJ H' h e=kJ H h e
 | .any,_=>rfl
 | .z0,_=>rfl
 | .fS,_=>rfl
 | .bg,_=>rfl
 | .dB,_=>rfl
 | .int ..,_=>rfl
 | .bool _,_=>rfl
 | .str _,_=>rfl
 | .row ..,_=>rfl
 | .rv ..,_=>rfl
 | .vp ..,_=>rfl
 | .ptr ..,_=>rfl
 | .bu _,_=>rfl
 | .jC _,_=>rfl
 | .fl q v,a=>by
  simp only[kJ];rw[rT (a q (.one (by simp[refs])))]
  split
  .rfl
  .rename_i n g m;obtain⟨k,l⟩:=fx m;rw[R5 g λi b=>a i ?_];unfold jN;rw[bK,c6];exact .inr (yx.2 ⟨q,k,v,n,g,by simp[refs],l,b⟩)
  .rfl
 | .sl q v o len,a=>by simp only[kJ];rw[rT (a q (.one (by simp[refs])))]
 | .agg c,a=>by simp only[kJ];rw[v8 c a]
 | .fn f c j,a=>by
  simp only[kJ];rw[v8 c λi b=>a i (b.mono λr d=>by simp only[refs,bK,c6];exact .inl d),v8 j λi b=>a i (b.mono λr d=>by simp only[refs,bK,c6];exact .inr d)]
def v8{e:List Nat}:∀(a:List (TV B.D)),(∀i,jN H (iB a) i->nth H' i=nth H i)->jS H' e a=jS H e a
 |[],_=>rfl
 |f::a,d=>by
  simp only[jS];rw[H6 f λi b=>d i (b.mono λr c=>by simp only[iB,bK,c6];exact .inl c),v8 a λi b=>d i (b.mono λr c=>by simp only[iB,bK,c6];exact .inr c)]
end
mutual
def Mh{u:List Rf}{v:List Nat}(j:∀i,i∈bL u->nth H' i=nth H i):∀(p:CP) (c:TV B.D) (d:List (TV B.D)),eR H u v p c=c5 d->(∀i,i∈jn H p c->nth H' i=nth H i)->eR H' u v p c=c5 d/\jn H' p c=jn H p c
 | .any,c,d,a,_=>⟨a,rfl⟩
 | .v s,c,d,a,h=>by
  simp only[eR] at a⊢;have y:∀i,jN H (refs c) i->nth H' i=nth H i:=h;rw[H6 c y];refine⟨a,?_⟩
  simp only[jn];rw[Ki (refs c) λi m=>y i (.one m)]
 | .p q,c,d,a,L=>by
  refine⟨?_,rfl⟩
  simp only[eR] at a⊢
  split at a
  .rename_i i z
   split at a
   .rename_i N n A l k;obtain⟨g,e⟩:=a8 a;obtain rfl:=beq_eq g;rw[rT (j i (gV k)),l,k];simp only[hQ,cond_true];exact e
   .cases a
  .cases a
 | .r q,c,d,a,L=>by
  refine⟨?_,rfl⟩
  simp only[eR] at a⊢
  split at a
  .rename_i i z
   split at a
   .rename_i s K A l k;obtain⟨g,e⟩:=a8 a;obtain rfl:=beq_eq g;rw[rT (j i (gV k)),l,k];simp only[hQ,cond_true];exact e
   .rename_i s K V A l k;obtain⟨g,e⟩:=a8 a;obtain rfl:=beq_eq g;rw[rT (j i (gV k)),l,k];simp only[hQ,cond_true];exact e
   .cases a
  .exact a
  .exact a
  .cases a
 | .q o,c,d,a,h=>by
  simp only[eR] at a⊢
  split at a
  .rename_i i z;have m:nth H' i=nth H i:=h i (by simp[jn])
   split at a
   .rename_i N n l;obtain⟨T,w⟩:=fx l;rw[rT m,l];cases x:has v i with
    |true=>rw[x] at a;cases a
    |false=>
     rw[x] at a;obtain⟨g,e⟩:=a8 a;obtain⟨t,r⟩:=pY j o n d e λG S=>h G (by simp only[jn,w,dd];exact .inr S)
     simp only[g,cond_true,cond_false];refine⟨t,?_⟩
     simp only[jn,m,w,r]
   .cases a
  .rename_i n;obtain⟨g,e⟩:=a8 a;obtain⟨t,r⟩:=pY j o n d e h;simp only[g,cond_true];exact⟨t,r⟩
  .cases a
 | .f W o F,c,d,a,h=>by
  simp only[eR] at a⊢
  split at a
  .rename_i f n J;obtain⟨C,E⟩:=a8 a;obtain⟨Q,I,g,e,rfl⟩:=iK E;obtain⟨D,M⟩:=pY j o n Q g λi m=>h i (by simp only[jn,bK,c6];exact .inl m)
   obtain⟨O,R⟩:=pY j F J I e λi m=>h i (by simp only[jn,bK,c6];exact .inr m)
   refine⟨by rw[C];simp[D,O,cat],by simp only[jn,M,R]⟩
  .cases a
 | .g o,c,d,a,h=>by
  simp only[eR] at a⊢
  split at a
  .rename_i n;exact pY j o n d a h
  .cases a
 | .b b,c,d,a,_=>⟨a,rfl⟩
 | .i U s,c,d,a,_=>⟨a,rfl⟩
 | .z,c,d,a,_=>⟨a,rfl⟩
 | .ns,c,d,a,_=>⟨a,rfl⟩
def pY{f:List Rf}{j:List Nat}(g:∀i,i∈bL f->nth H' i=nth H i):∀(b:List CP) (c:List (TV B.D)) (d:List (TV B.D)),fg H f j b c=c5 d->(∀i,i∈gJ H b c->nth H' i=nth H i)->fg H' f j b c=c5 d/\gJ H' b c=gJ H b c
 |[],[],d,a,_=>⟨a,rfl⟩
 |q::b,o::c,d,a,h=>by
  simp only[fg] at a⊢;obtain⟨s,l,n,m,rfl⟩:=iK a;obtain⟨k,p⟩:=Mh g q o s n λi e=>h i (by simp only[gJ,bK,c6];exact .inl e)
  obtain⟨r,t⟩:=pY g b c l m λi e=>h i (by simp only[gJ,bK,c6];exact .inr e)
  exact⟨by simp[k,r,cat],by simp only[gJ,p,t]⟩
 |[],_::_,d,a,_=>by simp[fg] at a
 |_::_,[],d,a,_=>by simp[fg] at a
end
def Bu{w:List Rf}{y:List Nat}(n:∀i,i∈bL w->nth H' i=nth H i):∀{f:List (Nat×List Nat×OP)} {d:List Rf} {h:List (TV B.D)},(∀i,i∈bL d->nth H' i=nth H i)->iP H w y f d=c5 h->(∀i,i∈eW H f d->nth H' i=nth H i)->
 iP H' w y f d=c5 h/\eW H' f d=eW H f d/\∀i,i∈bL d->∃I,nth H i=c5 I
 |[],[],h,_,e,_=>⟨e,rfl,by simp[bL]⟩
 |(J,Q,z)::f,i::d,h,p,e,o=>by
  simp only[iP] at e⊢;obtain⟨x,K,b,t,rfl⟩:=iK e;have s:∀c,c∈bL d->nth H' c=nth H c:=λc a=>p c (by cases i <;> simp[bL,a])
  cases z with
  |aap G L=>
   obtain⟨l,m,g⟩:=Bu n s t λc a=>o c (by simpa[eW] using a)
   cases i with
   |bG q=>
    have k:=p q (by simp[bL]);simp only[dn,k] at b⊢;refine⟨by rw[b,l];rfl,by simpa[eW] using m,λc a=>?_⟩
    rcases dd.1 a with rfl |a
    .split at b
     .exact⟨_,by assumption⟩
     .cases b
    .exact g c a
   |new=>
    refine⟨?_,by simpa[eW] using m,λc a=>g c (by simpa[bL] using a)⟩
    simp only[dn] at b⊢;rw[b,l];rfl
   |gone=>simp[dn] at b
   |bad=>simp[dn] at b
  |box O C=>
   cases i with
   |bG q=>
    have k:=p q (by simp[bL]);simp only[dn,k] at b⊢
    split at b
    .rename_i N F j;obtain⟨v,u⟩:=a8 b;obtain⟨r,E⟩:=pY n C F x u λc a=>o c (by simp only[eW,j,bK,c6];exact .inl a)
     obtain⟨l,m,g⟩:=Bu n s t λc a=>o c (by simp only[eW,j,bK,c6];exact .inr a)
     refine⟨by rw[v,l];simp[r,cat],by simp only[eW,k,j,E,m],λc a=>?_⟩
     rcases dd.1 a with rfl |a
     .exact⟨_,j⟩
     .exact g c a
    .cases b
   |new=>simp[dn] at b
   |gone=>simp[dn] at b
   |bad=>simp[dn] at b
  |dead=>cases i <;> simp[dn] at b
  |refs G A=>
   cases i with
   |bG q=>
    have k:=p q (by simp[bL]);simp only[dn,k] at b⊢
    split at b
    .rename_i M D j;obtain⟨v,u⟩:=a8 b;obtain⟨r,_⟩:=pY n (iQ A) D x u λc a=>by rw[Fq] at a;cases a
     obtain⟨l,m,g⟩:=Bu n s t λc a=>o c (by simpa[eW] using a)
     refine⟨by rw[v,l];simp[r,cat],by simpa[eW] using m,λc a=>?_⟩
     rcases dd.1 a with rfl |a
     .exact⟨_,j⟩
     .exact g c a
    .cases b
   |new=>simp[dn] at b
   |gone=>simp[dn] at b
   |bad=>simp[dn] at b
 |[],_::_,h,_,e,_=>by simp[iP] at e
 |_::_,[],h,_,e,_=>by simp[iP] at e
def N0{f:List Rf}{g:List Nat}{b:En B.D}(h:∀i,i∈bL f->nth H' i=nth H i):∀{a:List (Nat×CP)} {d:List (TV B.D)},oz ⟨b,H⟩ f g a=c5 d->(∀i,i∈gK ⟨b,H⟩ a->nth H' i=nth H i)->
 oz ⟨b,H'⟩ f g a=c5 d/\gK ⟨b,H'⟩ a=gK ⟨b,H⟩ a
 |[],d,c,_=>⟨c,rfl⟩
 |p::a,d,c,j=>by
  simp only[oz] at c⊢;obtain⟨o,s,l,n,rfl⟩:=iK c;obtain⟨k,r⟩:=Mh h p.2 _ o l λi e=>j i (by simp only[gK,bK,c6];exact .inl e)
  obtain⟨m,q⟩:=N0 h n λi e=>j i (by simp only[gK,bK,c6];exact .inr e)
  exact⟨by simp[k,m,cat],by simp only[gK,r,q]⟩
def NS{p:bY}{b:En B.D}{a:List Rf}{g:List (TV B.D)}(c:leaves p ⟨b,H⟩ a=c5 g)(f:∀i,i∈aX (bL a) (aX (eW H p.dF a) (gK ⟨b,H⟩ p.dE))->nth H' i=nth H i):
 leaves p ⟨b,H'⟩ a=c5 g/\aX (eW H' p.dF a) (gK ⟨b,H'⟩ p.dE)=aX (eW H p.dF a) (gK ⟨b,H⟩ p.dE)/\∀i,i∈bL a->∃s,nth H i=c5 s:=by
 unfold leaves at c⊢;obtain⟨m,c⟩:=a8 c;obtain⟨l,c⟩:=a8 c;obtain⟨u,t,k,j,rfl⟩:=iK c;have e:∀i,i∈bL a->nth H' i=nth H i:=λi d=>f i (by simp only[bK,c6];exact .inl d)
 obtain⟨h,n,r⟩:=Bu e e k λi d=>f i (by simp only[bK,c6];exact .inr (.inl d))
 obtain⟨o,q⟩:=N0 e j λi d=>f i (by simp only[bK,c6];exact .inr (.inr d))
 refine⟨?_,by rw[n,q],r⟩
 rw[m,l];show cat (iP H' a (bL a) p.dF a) (oz ⟨b,H'⟩ a (bL a) p.dE)=_
 rw[h,o]
 rfl
def aeG{a:List Rf}{low bs:Nat}(b:∀i,i∈bL a->nth H' i=nth H i):gu H' a low bs=gu H a low bs:=by
 funext q
 unfold gu;cases j8 q low with
 |false=>rfl
 |true=>
  simp only[cond_true];cases c:nth a q with
  |none=>rfl
  |some r=>
   cases r with
   |bG i=>simp only[b i (gV c)]
   |new=>rfl
   |gone=>rfl
   |bad=>rfl
def Xs{d:List Rf}{low bs:Nat}{os:List (Ob B.D)}(l:∀i,i∈bL d->nth H' i=nth H i):gE H' low bs d os=gE H low bs d os:=by
 have k:bL d=bL (d.take low)++bL (d.drop low):=by rw[<-rH,gx]
 have b:∀(a:List Rf) (os:List (Ob B.D)),(∀i,i∈bL a->nth H' i=nth H i)->iF H' a os=iF H a os:=λa=>by
  induction a with
  |nil=>intro os _;rfl
  |cons g a e=>
   intro os c;cases g with
   |bG i=>
    cases os with
    |nil=>rfl
    |cons n os=>
     simp only[iF,dJ,c i (by simp[bL])];rw[e os λh f=>c h (by simp[bL,f])]
   |new=>cases os <;> rfl
   |gone=>cases os <;> rfl
   |bad=>cases os <;> rfl
 have m:∀(a:List Rf),(∀i,i∈bL a->nth H' i=nth H i)->jL H' a=jL H a:=λa=>by
  induction a with
  |nil=>intro _;rfl
  |cons g a e=>
   intro c;cases g with
   |bG i=>
    simp only[jL,c i (by simp[bL])];rw[e λh f=>c h (by simp[bL,f])]
   |new=>exact e c
   |gone=>exact e c
   |bad=>exact e c
 unfold gE;rw[kK,drop_eq,b _ _ λi j=>l i (by rw[k];exact oi _ j),m _ λi j=>l i (by rw[k];exact j5 _ j)]
end
section
variable {P:Program}{B:Tb}{R:Type}{r:R}
def Dz{d:Nat->Type}:∀(c:List (TV d)) (a b:Nat),lk (fi a c) (a+b)=(c[b]?).getD .any
 |[],_,_=>rfl
 |e::c,a,0=>by simp[fi,lk,hQ]
 |e::c,a,b+1=>by
  have:fe a (a+(b+1))=false:=by
   cases f:fe a (a+(b+1)) with
   |false=>rfl
   |true=>have:=beq_eq f;omega
  simp only[fi,lk,this,cond_false];rw[show a+(b+1)=a+1+b by omega,Dz c (a+1) b];simp
def QD{c:Nat->Type}:∀(a:List (TV c)) (b:Nat),(fi b a).length=a.length
 |[],_=>rfl
 |d::a,b=>by simp[fi,QD a]
def ZT{g:Gh}{e:List aO}{j:World}{c:List (TV B.D)}{b:List Value}(d:xB g e j (aP B c) b)(a:Nat):VR g e j (pv B (lk (fi 0 c) a)) (b.getD a undef):=by
 have f:=Dz c 0 a;rw[e6] at f;rw[f];cases h:c[a]? with
 |none=>exact .any _
 |some k=>
  have l:=c9 h;have i:a<b.length:=by rw[<-d.1,db,l3];exact l
  have:=d.2 a (pv B k) b[a] (EL h) (c4 i);rw[h8,c4 i];exact this
def Z3(ae:cU P B){x:List (aq B)}(T:∀b,b∈x->Fits P B b){s:Nat}{c:List (TV B.D)}{H:List (Ob B.D)}{I:cr B.D->Option R}(a:nz B s ⟨fi 0 c,H⟩ I x=c5 r):
 ∃k,I k=c5 r/\iZ H k/\∃b,b∈x/\b.cO=s/\∀(H':List (Ob B.D)),(∀i,i∈aX k.rd (eV k.wr)->nth H' i=nth (aX H (dx k.nw)) i)->∀g t n,bF g (av B H') n->xB g (av B H') n (aP B c) t->
  Calls P s t.toArray n λA q=>∃y o v p,A= .returned y/\(v=pv B k.val/\p=av B (b8 H' k.wr))/\bF o p q/\VR o p q v y/\Bml.GStep (av B H').length g (av B H') n o p q:=by
 induction x with
 |nil=>simp[nz] at a
 |cons b x L=>
  have next:nz B s ⟨fi 0 c,H⟩ I x=c5 r->∃k,I k=c5 r/\iZ H k/\∃z,z∈b::x/\z.cO=s/\∀(H':List (Ob B.D)),(∀i,i∈aX k.rd (eV k.wr)->nth H' i=nth (aX H (dx k.nw)) i)->∀g t n,bF g (av B H') n->xB g (av B H') n (aP B c) t->
   Calls P s t.toArray n λA q=>∃y o v p,A= .returned y/\(v=pv B k.val/\p=av B (b8 H' k.wr))/\bF o p q/\VR o p q v y/\Bml.GStep (av B H').length g (av B H') n o p q:=λa=>by
   obtain⟨k,u,C,z,G,ad⟩:=L (λz aw=>T z (c7 _ aw)) a;exact⟨k,u,C,z,c7 _ G,ad⟩
  simp only[nz] at a;cases J:(bif fe b.cO s then fe (len (fi 0 c)) b.na else false) with
  |false=>rw[J] at a;exact next a
  |true=>
   rw[J] at a;obtain⟨E,aD⟩:=fu J;have E:=beq_eq E;simp only[cond_true] at a
   split at a
   .rename_i aL w;unfold Nv at a;obtain⟨S,a⟩:=a8 a;obtain⟨Q,a⟩:=a8 a;obtain⟨V,a⟩:=a8 a;obtain⟨y,a,aC⟩:=Ae a;obtain⟨ay,aj,a⟩:=ei.1 a;generalize aJ:nQ (D:=B.D) ⟨fi 0 c,H⟩ b.par.dF=ids at w S Q V a;generalize ao:nI B (gu H ids b.low (len H)) b.az ay=ag at a;obtain⟨rs,os⟩:=ag;obtain⟨az,ah⟩:=a8 a;have U:b.low<=os.length:=by rw[<-eu];exact e4 az
    have au:zc (aX (eW H b.par.dF ids) (gK ⟨fi 0 c,H⟩ b.par.dE))=true\/(oN B.flat B.el b.az.dF=true/\tJ B.flat b.az.dE=true):=by
     cases ax:zc (aX (eW H b.par.dF ids) (gK ⟨fi 0 c,H⟩ b.par.dE)) with
     |true=>exact .inl rfl
     |false=>
      rw[ax] at S;exact .inr (fu S)
    obtain⟨_,_,M⟩:=NS (H':=H) w λ_ _=>rfl
    have X:(bL ids).Nodup:=by
     unfold leaves at w;obtain⟨_,w⟩:=a8 w;obtain⟨X,_⟩:=a8 w;exact(tw _).1 X
    have K:∀i,i∈bL ids->i<len H:=λi d=>by
     obtain⟨e,h⟩:=M i d;rw[cJ] at h;rw[eu];exact c9 h
    have Y:(len (drop b.low os))=os.length -b.low:=by rw[eu,drop_eq,ih]
    have O:bL ids=bL (ids.take b.low)++bL (ids.drop b.low):=by rw[<-rH,gx]
    obtain⟨aA,aM⟩:=JU (H:=H) (os:=os) Q U;obtain⟨aF,aK⟩:=tm (H:=H) (ids:=ids.drop b.low) λi d=>M i (by rw[O];exact j5 _ d)
    obtain⟨ar,af⟩:=Jy (bs:=len H) (os:=os.drop b.low);refine⟨_,ah,?_,b,by simp,E,?_⟩
    .intro i j l;have l:(i,j)∈gE H b.low (len H) ids os:=l;unfold gE at l;rw[bK,bK,kK,kK,drop_eq,drop_eq,c6,c6] at l;show i<H.length+len (drop b.low os)/\_
     rw[Y];rcases l with l |l |l
     .have d:i∈bL ids:=by
       rw[O];refine oi _ ?_;rw[<-aA];exact hY (f:=(·.1)) l
      have:=K i d;rw[eu] at this;refine⟨by omega,λe h=>?_⟩
      have:j.st=dJ H i:=Nh _ _ _ _ l;rw[this];unfold dJ;rw[h];exact l1 _
     .have d:i∈bL ids:=by
       rw[O];refine j5 _ ?_;rw[<-aF];exact hY (f:=(·.1)) l
      have:=K i d;rw[eu] at this;refine⟨by omega,λe h=>?_⟩
      obtain⟨aI,F,aG⟩:=s9 _ _ _ l;rw[h] at F;injection F with F
      subst F;rw[aG];exact l1 _
     .have d:i∈o9 (len H) (os.drop b.low).length:=by rw[<-ar];exact hY (f:=(·.1)) l
      have:=m6.1 d;rw[ih,eu] at this;refine⟨by omega,λe h=>?_⟩
      rw[cJ] at h;have:=c9 h;omega
    .intro H' Z g t n l ab;have W:∀i,i∈bL ids\/i∈aX (eW H b.par.dF ids) (gK ⟨fi 0 c,H⟩ b.par.dE)->nth H' i=nth (aX H (dx (len (drop b.low os)))) i:=λi d=>Z i (by
      show i∈aX (aX (bL ids) (aX (eW H b.par.dF ids) (gK ⟨fi 0 c,H⟩ b.par.dE))) _
      rw[bK,bK,c6,c6];exact .inl d)
     have aa:∀i e,nth H i=c5 e->nth (aX H (dx (len (drop b.low os)))) i=c5 e:=λi e h=>Dy h
     have N:∀i,i∈bL ids->nth H' i=nth H i:=λi d=>by
      obtain⟨e,h⟩:=M i d;rw[W i (.inl d),aa i e h,h]
     obtain⟨al,am,_⟩:=NS (H':=H') w λi d=>by
      rw[bK,c6] at d;rcases d with d |d
      .exact N i d
      .obtain⟨e,h⟩:=Ni V i d;rw[W i (.inr d),aa i e h,h]
     have ap:=aeG (low:=b.low) (bs:=len H) N;have aH:=Xs (low:=b.low) (bs:=len H) (os:=os) N;have ac:=aeK ae (T b (by simp)) (Ea:=fi 0 c) (H:=H') (ids:=ids) (bs:=len H) (rs:=rs) (os:=os) al aC aj (by rw[ap];exact ao) (by rw[am];exact au) Q U K (λm an=>by
      have ak:len H+m∈eV (gE H b.low (len H) ids os):=by
       have ai:(os.drop b.low)[m]?=c5 os[b.low+m]:=by rw[hK];exact c4 an
       have:=af m _ ai;have:(len H+m,os[b.low+m])∈gE H b.low (len H) ids os:=by
        unfold gE;rw[bK,bK,kK,kK,drop_eq,drop_eq,c6,c6];exact .inr (.inr this)
       exact Z4 this
      have:=Z (len H+m) (by
       show len H+m∈aX _ (eV (gE H b.low (len H) ids os))
       rw[bK,c6];exact .inr ak)
      rw[this];exact PK (by show m<len (drop b.low os);rw[Y];omega)) l (as:=t) (by
       have u:=beq_eq aD;rw[eu,QD] at u;rw[<-ab.1,db,l3,u]) (ZT ab)
     rw[<-E];refine ac.mono ?_
     rintro A q ⟨v,o,aB,u,C,G⟩;rw[aH] at u C G;exact⟨v,o,_,_,aB,⟨rfl,rfl⟩,u,G,C⟩
   .exact next a
where
 Z4 {D:Nat->Type} {c:List (Nat×Ob D)} {i:Nat} {e:Ob D} (a:(i,e)∈c):i∈eV c:=by
  induction c with
  |nil=>cases a
  |cons aE c L=>
   rcases dd.1 a with A |a
   .simp[eV, <-A]
   .simp[eV,L a]
 Nh {D:Nat->Type} {H:List (Ob D)}:∀(c:List Rf) (os:List (Ob D)) (i:Nat) (j:Ob D),(i,j)∈iF H c os->j.st=dJ H i
  | .bG m::c,e::os,i,j,a=>by
   simp only[iF,dd,h5] at a;rcases a with⟨rfl,rfl⟩ |a
   .rfl
   .exact Nh c os i j a
  |[],_,_,_,a=>by simp[iF] at a
  | .bG m::c,[],_,_,a=>by simp[iF] at a
  | .new::c,_,_,_,a=>by simp[iF] at a
  | .gone::c,_,_,_,a=>by simp[iF] at a
  | .bad::c,_,_,_,a=>by simp[iF] at a
 s9 {D:Nat->Type} {H:List (Ob D)}:∀(c:List Rf) (i:Nat) (j:Ob D),(i,j)∈jL H c->∃e,nth H i=c5 e/\j.st=e.st+1
  | .bG m::c,i,j,a=>by
   simp only[jL] at a
   split at a
   .rename_i e h;simp only[dd,h5] at a;rcases a with⟨rfl,rfl⟩ |a
    .exact⟨e,h,rfl⟩
    .exact s9 c i j a
   .exact s9 c i j a
  |[],_,_,a=>by simp[jL] at a
  | .new::c,i,j,a=>s9 c i j a
  | .gone::c,i,j,a=>s9 c i j a
  | .bad::c,i,j,a=>s9 c i j a
 Ni {D:Nat->Type} {H:List (Ob D)}:∀{c:List Nat},here H c=true->∀i,i∈c->∃e,nth H i=c5 e
  |[],_,i,d=>by cases d
  |aE::c,a,i,d=>by
   simp only[here] at a
   split at a
   .rename_i e h;rcases dd.1 d with rfl |d
    .exact⟨e,h⟩
    .exact Ni a i d
   .cases a
end
end Go.X
namespace Go.Bml
open Go
section
variable {P:Program}{nt:Nat}{E:Env}{H:List aO}{d:Option Nat}{ty:TypeId}{pos:String}{aft:Array Edge}{x y:Operand}{t:TypeId}
def aiA{b c:List PV}{a:Nat}(j:a+c.length<=b.length)(i e:Nat):abk (b.take a++c++b.drop (a+c.length)) i e=if i<a then abk b i e else if i<a+c.length then abk c (i -a) e else abk b i e:=by
 have h:(b.take a).length=a:=by simp;omega
 unfold abk;rw[dv]
 by_cases f:i<a
 .rw[if_pos f,dt (by omega),eo f]
 .rw[if_neg f,dk (by omega),h]
  by_cases g:i<a+c.length
  .rw[if_pos g,dt (by omega)]
  .rw[if_neg g,dk (by omega),hK]
   congr 2
   omega
def bF.put{g:Gh}{l:World}{r b C off:Nat}{o:aO}{a:List PV}{j:List Value}{aK:Array Value}(V:bF g H l)(Q:H[r]?=c5 o)(I:g.β r=c5 (b,C))(N:l.heap[b]?=c5 (.cells aK o.ty (0,0)))
 (T:gI g H l o.sz a j) (ad:∀(i:Nat) (e:PV),a[i]?=c5 e->e.cells.length=o.sz) (ae:off+a.length<=o.es.length):
 GStep H.length g H l (g.push r (c5 (b,C))) (H.set r ⟨o.ty,o.sz,o.es.take off++a++o.es.drop (off+a.length),o.aF⟩) (l.setRow b (aK.toList.take (off*o.sz)++j++aK.toList.drop (off*o.sz+j.length)).toArray)/\
 bF (g.push r (c5 (b,C))) (H.set r ⟨o.ty,o.sz,o.es.take off++a++o.es.drop (off+a.length),o.aF⟩) (l.setRow b (aK.toList.take (off*o.sz)++j++aK.toList.drop (off*o.sz+j.length)).toArray):=by
 have G:=V.obj r o Q;have M:=G.mem;rw[I] at M;obtain⟨_,al,A,S,ag,ai,Y⟩:=M;rw[N] at A;injection A with A
 injection A with A _ _
 subst A;have W:j.length=a.length*o.sz:=T.1;have an:off*o.sz+j.length<=aK.size:=by
  rw[S,W, <-j9];exact gb _ (by omega)
 have X:(o.es.take off++a++o.es.drop (off+a.length)).length=o.es.length:=by simp;omega
 generalize L:(aK.toList.take (off*o.sz)++j++aK.toList.drop (off*o.sz+j.length)).toArray=s;have aa:s.size=aK.size:=by
  rw[<-L];simp only[List.size_toArray,e5,hq,ih,Array.length_toList];omega
 have O:(aK.toList.take (off*o.sz)).length=off*o.sz:=by simp;omega
 have af:∀k,k<j.length->s[off*o.sz+k]?=j[k]? :=λk U=>by
  rw[<-L,gy,dv,dk (by omega),O,dt (by omega)]
  congr 1
  omega
 have R:∀q,q<off*o.sz\/off*o.sz+j.length<=q->s[q]?=aK[q]? :=λq J=>by
  rw[<-L,gy,dv];rcases J with J |J
  .rw[dt (by omega),eo J,j6]
  .rw[dk (by omega),O,dk (by omega),hK,j6]
   congr 1
   omega
 refine V.set (r:=r) (o:=o) (o':=⟨o.ty,o.sz,o.es.take off++a++o.es.drop (off+a.length),o.aF⟩) (p:=c5 (b,C)) Q rfl rfl rfl (by simp)
  (λZ am ab=>setRow_other l b Z s (λe=>ab C (by rw[e];exact I))) (ef _) (λ_=>⟨rfl,X,I.symm⟩)
  (λZ aj h=>by injection h with h;injection h with w u;subst w;exact .inl ⟨C,I⟩) G.pos
  (λi e he=>?_) ?_
 .have ao:(o.es.take off).length=off:=by simp;omega
  simp only at he;rw[dv] at he
  by_cases w:i<off
  .rw[dt (by omega),eo w] at he;exact G.width i e he
  .rw[dk (by omega)] at he
   by_cases u:i - (o.es.take off).length<a.length
   .rw[dt u] at he;exact ad _ e he
   .rw[dk (by omega),hK] at he;exact G.width _ e he
 .refine⟨s,setRow_heap l b aK s o.ty (0,0) N,by rw[aa,S],ag,by rw[X];exact ai,λi D c n=>?_⟩
  show ∃m,s[i*o.sz+D]?=c5 m/\m.oneCell'=true/\VR g H l c m
  simp only at n;rw[aiA ae] at n
  split at n
  .rename_i w;obtain⟨m,B,u,F⟩:=Y i D c n;obtain⟨ah,ac,ap⟩:=gw n;have ak:=G.width i ah ac;have:(i+1)*o.sz<=off*o.sz:=gb _ w;rw[j9,qq] at this;exact⟨m,(R _ (.inl (by omega))).trans B,u,F⟩
  .rename_i w
   split at n
   .rename_i u;obtain⟨m,B,F,K⟩:=T.2 _ _ c n;refine⟨m,?_,F,K⟩
    have U:=(e0.1 B).1;rw[show i*o.sz+D=off*o.sz+((i -off)*o.sz+D) by rw[<-Nat.add_assoc, <-j9];congr 2;omega,af _ U];exact B
   .rename_i u;obtain⟨m,B,F,K⟩:=Y i D c n;have:(off+a.length)*o.sz<=i*o.sz:=gb _ (by omega);rw[j9, <-W] at this;exact⟨m,(R _ (.inr (by omega))).trans B,F,K⟩
def al0{g:Gh}{w:World}{b:Value}{z:PV}{a n:Nat}(s:kP b=z)(A:z.cells.length=a)(F:z.cells.all PV.one=true):gI g H w a (hB n z) (ez b.cells n).toList/\∀e∈(ez b.cells n).toList,e.oneCell'=true:=by
 have K:VR g H w z b:=s▸ .aW (AE _ _ _);obtain⟨J,C⟩:=K.tZ F (λvs=>s▸Hl b vs);have h:b.cells.size=a:=by simp at J;omega
 have u:∀c,c<n*a->(ez b.cells n).toList[c]?=b.cells[c%a]? :=λc j=>by
  have o:0<a:=m3 λp=>by rw[p] at j;omega
  have l:c%a<b.cells.size:=by rw[h];exact Nat.mod_lt _ o
  rw[j6];unfold ez;rw[Array.getElem?_map,Array.getElem?_range,if_pos (by rw[h];exact j)];simp only[l4,h];rw[getElem!_def,h9 l]
 have D:(ez b.cells n).toList.length=n*a:=by simp[ez,h]
 refine⟨⟨by rw[D,j7],λi k I f=>?_⟩,λe r=>?_⟩
 .obtain⟨L,f⟩:=Rq f;obtain⟨e,r,m,v⟩:=C k I f;have q:k<a:=by rw[<-A];exact(e0.1 f).1
  refine⟨e,?_,m,v⟩
  have l:i*a+k<n*a:=by
   have:(i+1)*a<=n*a:=gb _ (by omega);rw[j9,qq] at this;omega
  rw[u _ l,Nat.mul_comm,Nat.mul_add_mod,Nat.mod_eq_of_lt q];exact r
 .obtain⟨c,j,rfl⟩:=oo r;have B:c<n*a:=by omega
  have o:0<a:=m3 λp=>by rw[p] at B;omega
  have q:c%a<z.cells.length:=by rw[A];exact Nat.mod_lt _ o
  obtain⟨e,G,m,v⟩:=C _ _ (c4 q);have:=u c B;rw[G,c4 j] at this;injection this with this
  rw[this];exact m
def aog{b:Act}{a:World}:(execOp b.eval ⟨d,.call {callee:=.builtin .clear,args:=#[x],argTypes:=#[t]},ty,pos,aft,ea⟩).run P a=
 ((j1 #[t] ty #[b.eval x]).run P a).andThen λv c=>.ok (.value v) c:=by
 simp[execOp,resolve,invoke,builtin]
def ou{r:Nat}{b:aO}(a:H[r]?=c5 b):H.set r b=H:=by
 refine p6 λi=>?_
 by_cases c:i=r
 .subst c;rw[ev (e0.1 a).1,a]
 .rw[eH (Ne.symm c)]
def Wy{r v off len:Nat}{o:aO}{c:Value}{z:PV}(V:PE E x= .sl r v off len)(A:ek H r o)(W:o.aF=v)(F:dU P t=c5 o.ty)(R:dV P o.ty=c5 c)(L:kP c=z)(G:z.cells.length=o.sz)(Q:z.cells.all PV.one=true):
 fJ P ⟨d,.call {callee:=.builtin .clear,args:=#[x],argTypes:=#[t]},ty,pos,aft,ea⟩ E H λN H1=>N= .bu []/\H1=H.set r ⟨o.ty,o.sz,o.es.take off++hB len z++o.es.drop (off+len),o.aF⟩:=by
 intro g nt j w l ai af ac;have X:=lh (V▸l.e.eval x) A W;obtain⟨Z,q⟩:=id X;have I:H[r]?=c5 o:=A;have O:∃a e,(j1 #[t] ty #[j.eval x]).run P w= .ok (.tuple #[]) a/\GStep H.length g H w e (H.set r ⟨o.ty,o.sz,o.es.take off++hB len z++o.es.drop (off+len),o.aF⟩) a/\
  bF e (H.set r ⟨o.ty,o.sz,o.es.take off++hB len z++o.es.drop (off+len),o.aF⟩) a:=by
  have zero:len=0->(∃h cap,j.eval x= .slice h 0 cap)->∃a e,(j1 #[t] ty #[j.eval x]).run P w= .ok (.tuple #[]) a/\GStep H.length g H w e (H.set r ⟨o.ty,o.sz,o.es.take off++hB len z++o.es.drop (off+len),o.aF⟩) a/\
   bF e (H.set r ⟨o.ty,o.sz,o.es.take off++hB len z++o.es.drop (off+len),o.aF⟩) a:=by
   rintro rfl ⟨h,cap,f⟩;have k:(j1 #[t] ty #[j.eval x]).run P w= .ok (.tuple #[]) w:=by
    rw[f];cases h <;> simp[j1,run_underlying (gD F)]
   have aa:(⟨o.ty,o.sz,o.es.take off++hB 0 z++o.es.drop (off+0),o.aF⟩:aO)=o:=by simp
   rw[aa,ou I];exact⟨w,g,k,GStep.refl _ _ _ _,l.m⟩
  cases m:g.β r with
  |none=>
   rw[m] at q;obtain⟨_,h0,h,f⟩:=q;subst h0;exact zero rfl ⟨h,0,f⟩
  |some p=>
   obtain⟨b,ag⟩:=p;rw[m] at q;obtain⟨cap,h,f,ae,K,_⟩:=q
   by_cases h0:len=0
   .subst h0;exact zero rfl ⟨h,cap,f⟩
   .rw[K h0] at f;have S:=(l.m.obj r o A);have C:=S.mem;rw[m] at C;obtain⟨_,aK,D,U,aj,al,ak⟩:=C;obtain⟨B,T⟩:=al0 (g:=g) (H:=H) (w:=w) (n:=len) L G Q;have Y:(ez c.cells len).toList.length=len*o.sz:=by rw[B.1,j7]
    have M:off*o.sz+0+(ez c.cells len).toList.length<=aK.size:=by
     rw[U,Y,hS, <-j9];exact gb _ (by omega)
    have J:=run_storeCells_at P b (off*o.sz) o.ty (ez c.cells len).toList 0 aK w D M T;simp only[hS] at J;have k:(j1 #[t] ty #[j.eval x]).run P w= .ok (.tuple #[]) (w.setRow b (aK.toList.take (off*o.sz)++(ez c.cells len).toList++aK.toList.drop (off*o.sz+(ez c.cells len).toList.length)).toArray):=by
     rw[f];obtain⟨ad,rfl⟩:∃n,len=n+1:=⟨len -1,by omega⟩;simp[j1,run_underlying (gD F),Ey R,J]
    obtain⟨s,u⟩:=l.m.put I m D B (λi ah ab=>by have:=ej ab;rw[k0 this];exact G) (off:=off) (by simpa using Z);rw[j7] at s u;exact⟨_,_,k,s,u⟩
 obtain⟨a,e,k,s,u⟩:=O;unfold r5;rw[aog,k];exact ac (.tuple #[]) a e (.bu []) _ ⟨rfl,rfl⟩ (.aW (.bu [] [] rfl (by simp))) u s
def Yo{a:Act}{b:World}:(execOp a.eval ⟨d,.call {callee:=.builtin .copy,args:=#[x,y],argTypes:=#[t,t]},ty,pos,aft,ea⟩).run P b=
 ((k6 #[t,t] ty #[a.eval x,a.eval y]).run P b).andThen λv c=>.ok (.value v) c:=by
 simp[execOp,resolve,invoke,builtin]
def aem{g:Gh}{q:World}{a b:Nat}{e:List PV}{l:List Value}(h:gI g H q a e l)(r:∀(i:Nat) (j:PV),e[i]?=c5 j->j.cells.length=a)(w:b<=e.length):gI g H q a (e.take b) (l.take (b*a))/\∀f∈l.take (b*a),f.oneCell'=true:=by
 have s:b*a<=e.length*a:=gb _ w;refine⟨⟨by rw[hq,hq,h.1,o6 s,o6 w],λi p k c=>?_⟩,λf o=>?_⟩
 .have A:i<b:=by
   obtain⟨j,n,_⟩:=gw c;have:=(e0.1 n).1;simp at this;omega
  have u:abk e i p=c5 k:=by
   unfold abk at c⊢;rw[eo A] at c;exact c
  obtain⟨f,o,m,B⟩:=h.2 i p k u;obtain⟨j,n,L⟩:=gw u;have K:=r i j n;have:(i+1)*a<=b*a:=gb _ A;rw[j9,qq] at this;exact⟨f,by rw[eo (by omega)];exact o,m,B⟩
 .obtain⟨C,G,rfl⟩:=oo o;have v:C<b*a:=by simp at G;omega
  have D:0<a:=m3 λh=>by rw[h] at v;omega
  obtain⟨J,I,F⟩:=Jv D (Nat.lt_of_lt_of_le v s);obtain⟨k,c⟩:=Gg r J I;obtain⟨f,z,m,_⟩:=h.2 _ _ k c;rw[F] at z;rw[List.getElem_take];have:=(e0.1 z).2;rw[this];exact m
def US{r v off len:Nat}{o:aO}{p:PV}{a:List PV}(ao:PE E x= .sl r v off len)(w:ek H r o)(aq:o.aF=v)(aA:PE E y=p)(ar:lE H p o.sz a)(N:dU P t=c5 o.ty)(O:cH P o.ty=c5 o.sz):
 fJ P ⟨d,.call {callee:=.builtin .copy,args:=#[x,y],argTypes:=#[t,t]},ty,pos,aft,ea⟩ E H λac H1=>ac= .int .i64 ((min len a.length:Nat):Int)/\H1=H.set r ⟨o.ty,o.sz,o.es.take off++a.take len++o.es.drop (off+(a.take len).length),o.aF⟩:=by
 intro g nt k e n aH aF aB;have aw:=lh (ao▸n.e.eval x) w aq;obtain⟨aJ,u⟩:=id aw;have Q:=n.m.obj r o w;have au:=Q.pos;have A:H[r]?=c5 o:=w;obtain⟨G,ap,aI,J,af⟩:=ar.real n.m (aA▸n.e.eval y) au;have ab:∃f j,(k6 #[t,t] ty #[k.eval x,k.eval y]).run P e= .ok (goInt ((min len a.length:Nat):Int)) f/\GStep H.length g H e j (H.set r ⟨o.ty,o.sz,o.es.take off++a.take len++o.es.drop (off+(a.take len).length),o.aF⟩) f/\
  bF j (H.set r ⟨o.ty,o.sz,o.es.take off++a.take len++o.es.drop (off+(a.take len).length),o.aF⟩) f:=by
  have Y:Nat.min a.length len=min len a.length:=rb _ _;have zero:min len a.length=0->(∃m cap,k.eval x= .slice m len cap)->∃f j,(k6 #[t,t] ty #[k.eval x,k.eval y]).run P e= .ok (goInt ((min len a.length:Nat):Int)) f/\GStep H.length g H e j (H.set r ⟨o.ty,o.sz,o.es.take off++a.take len++o.es.drop (off+(a.take len).length),o.aF⟩) f/\
   bF j (H.set r ⟨o.ty,o.sz,o.es.take off++a.take len++o.es.drop (off+(a.take len).length),o.aF⟩) f:=by
   rintro h0 ⟨m,cap,l⟩;have ag:a.take len=[]:=dT (by rw[hq];exact h0);have S:(⟨o.ty,o.sz,o.es.take off++a.take len++o.es.drop (off+(a.take len).length),o.aF⟩:aO)=o:=by rw[ag];simp
   refine⟨e,g,?_,by rw[S,ou A];exact GStep.refl _ _ _ _,by rw[S,ou A];exact n.m⟩
   rw[h0];rw[l,J];cases m <;> cases ap <;> simp[k6,run_underlying (gD N),r4,run_sizeOf O,Y,h0,p0,loadCells,loadCellsFrom,storeCells]
  cases s:g.β r with
  |none=>
   rw[s] at u;obtain⟨_,h0,m,l⟩:=u;subst h0;exact zero (by simp) ⟨m,0,l⟩
  |some q=>
   obtain⟨b,aG⟩:=q;rw[s] at u;obtain⟨cap,m,l,aD,W,_⟩:=u
   by_cases h0:min len a.length=0
   .exact zero h0 ⟨m,cap,l⟩
   .have ah:len≠0:=by omega
    have ae:a≠[]:=λal=>by rw[al] at h0;simp at h0
    rw[W ah] at l;obtain⟨T,h,rfl,av,az⟩:=af.resolve_left ae;have K:=Q.mem;rw[s] at K;obtain⟨_,aK,M,ak,aL,aN,aM⟩:=K;have ay:a.take len=a.take (min len a.length):=by
     rw[List.take_eq_take_iff];omega
    rw[ay];generalize an:min len a.length=c at*;have aE:c<=len:=by omega
    have U:c<=a.length:=by omega
    obtain⟨I,aj⟩:=aem av G U;have R:(h.take (c*o.sz)).length=c*o.sz:=by rw[I.1,hq,o6 U]
    have X:off*o.sz+0+(h.take (c*o.sz)).length<=aK.size:=by
     rw[ak,R,hS, <-j9];exact gb _ (by omega)
    have V:=run_storeCells_at P b (off*o.sz) o.ty (h.take (c*o.sz)) 0 aK e M X aj;simp only[hS] at V;have ax:(loadCells T (c*o.sz)).run P e= .ok (h.take (c*o.sz)).toArray e:=by
     have:=run_loadCells_list (P:=P) e T (h.take (c*o.sz)) λL ad F=>az L ad (by
      have aC:L<c*o.sz:=by have:=(e0.1 F).1;omega
      rw[eo aC] at F;exact F)
     rw[R] at this;exact this
    have C:(k6 #[t,t] ty #[k.eval x,k.eval y]).run P e= .ok (goInt c) (e.setRow b (aK.toList.take (off*o.sz)++h.take (c*o.sz)++aK.toList.drop (off*o.sz+(h.take (c*o.sz)).length)).toArray):=by
     rw[l,J];have aa:Nat.min a.length len=c:=by rw[<-an];exact rb _ _
     simp[k6,run_underlying (gD N),r4,run_sizeOf O,aa,p0,ax,V]
    have ai:(a.take c).length=c:=by rw[hq];omega
    obtain⟨z,D⟩:=n.m.put A s M I (λi am B=>by
     have Z:i<c:=by have:=(e0.1 B).1;omega
     rw[eo Z] at B;exact G i am B) (off:=off) (by rw[ai];omega)
    exact⟨_,_,C,z,D⟩
 obtain⟨f,j,C,z,D⟩:=ab;unfold r5;rw[Yo,C];exact aB (goInt ((min len a.length:Nat):Int)) f j (.int .i64 ((min len a.length:Nat):Int)) _ ⟨rfl,rfl⟩ (.aW (VI.int .i64 _)) D z
def apT{w:Op}{r v len:Nat}{o:aO}(f:cM P ⟨d,w,ty,pos,aft,ea⟩ E H (.sl r v 0 len))(m:ek H r o)(L:o.aF=v):
 fJ P ⟨d,w,ty,pos,aft,ea⟩ E H λF H1=>F= .fl r (v+1)/\H1=H.set r ⟨o.ty,o.sz,o.es.take len,v+1⟩:=by
 intro g nt K l k Z Y X;obtain⟨x,U,V⟩:=f g nt K l k;have O:=lh V m L;obtain⟨aa,h⟩:=id O;have n:=k.m.obj r o m;have B:H[r]?=c5 o:=m;have M:(o.es.take len).length=len:=by simp;omega
 obtain⟨N,W⟩:=k.m.set (r:=r) (o:=o) (o':=⟨o.ty,o.sz,o.es.take len,v+1⟩) (w':=l) (p:=g.β r) B rfl rfl rfl (ef _) (λ_ _ _=>rfl) (by simp;omega) (λf=>by simp at f;omega) (λb q f=>.inl ⟨q,f⟩) n.pos
  (λi A a=>by
   have s:i<len:=by have:=(e0.1 a).1;simp at this;omega
   simp only at a;rw[eo s] at a;exact n.width i A a)
  (by
   have j:=n.mem;cases c:g.β r with
   |none=>
    rw[c] at j;show o.es.take len=[]
    rw[show o.es=[] from j];simp
   |some p=>
    obtain⟨b,q⟩:=p;rw[c] at j;obtain⟨_,cells,T,J,R,ab,S⟩:=j;refine⟨cells,T,J,R,by simp;omega,λi C Q e=>S i C Q ?_⟩
    obtain⟨A,a,_⟩:=gw e;have s:i<len:=by have:=(e0.1 a).1;simp at this;omega
    unfold abk at e⊢;simp only at e;rw[eo s] at e;exact e)
 unfold r5;rw[U];have z:x.oneCell'=true/\SL (g.push r (g.β r)) ⟨o.ty,o.sz,o.es.take len,v+1⟩ r 0 (o.es.take len).length x:=by
  unfold SL;rw[Gh.kg,M];cases c:g.β r with
  |none=>
   rw[c] at h;obtain⟨_,h0,u,a⟩:=h;exact⟨by rw[a];rfl,by simp,rfl,h0,u,a⟩
  |some p=>
   obtain⟨b,q⟩:=p;rw[c] at h;obtain⟨cap,u,a,I,G,D⟩:=h;exact⟨by rw[a];rfl,by simp,cap,u,a,I,G,D⟩
 exact X x l _ (.fl r (v+1)) _ ⟨rfl,rfl⟩ (.fl r (v+1) _ x (ev (e0.1 B).1) (ef _) z.1 λ_=>z.2) W N
end
end Go.Bml
namespace Go.X
open Go Go.Aml Go.Bml
section
variable {P:Program}{B:Tb}{R:Type}{r:R}
def D0(a:TV B.D)(q v c b d:Nat):Prop:=(a= .fl q v/\c=0/\b=d)\/a= .sl q v c b
def MJ{i:List (Ob B.D)}{j:TV B.D}{k:Nat->Nat->Nat->Nat->(b:Nat)->List (B.D b)->Option R}(a:B4 B i j k=c5 r):
 ∃q v f e b c d,nth i q=c5 ⟨d,v,.aap b c⟩/\D0 (B:=B) j q v f e c.length/\k q v f e b c=c5 r:=by
 unfold B4 at a
 split at a
 .rename_i q v
  split at a
  .rename_i b c h;obtain⟨d,g⟩:=fx h;exact⟨q,v,0,_,b,c,d,g,.inl ⟨rfl,rfl,rfl⟩,a⟩
  .cases a
 .rename_i q v f e
  split at a
  .rename_i b c h;obtain⟨d,g⟩:=fx h;exact⟨q,v,f,e,b,c,d,g,.inr rfl,a⟩
  .cases a
 .cases a
def Lj{a:Option Nat}{c:Nat}(b:KK a c=true):a=c5 c:=by
 cases a with
 |none=>cases b
 |some d=>rw[beq_eq b]
def MH{o:Oper}{b:Env}{a:List aO}{h:Operand}{q i f:Nat}{ob:aO}{m:PV->List aO->Prop}(s:(PE b h= .fl q ob.aF/\i=0/\f=ob.es.length)\/PE b h= .sl q ob.aF i f)(l:ek a q ob)
 (c:∀j,PE j h= .sl q ob.aF i f->(∀k d e,kV a (PE b k) d e->kV a (PE j k) d e)->fJ P o j a m):fJ P o b a m:=by
 rcases s with⟨g,rfl,rfl⟩ |g
 .obtain⟨t,rfl,n⟩:=ri g;refine yP n l rfl (c _ ?_ λk d e p=>JM p n l)
  exact ni _ _ _
 .exact c b g λ_ _ _ c=>c
def Ln{d:En B.D}{c:Operand}{f:TV B.D}{q v e b h:Nat}{a:aO}(m:D0 (B:=B) f q v e b h)(g:PE (aU B d) c=pv B f)(l:a.aF=v)(j:a.es.length=h):
 (PE (aU B d) c= .fl q a.aF/\e=0/\b=a.es.length)\/PE (aU B d) c= .sl q a.aF e b:=by
 subst l;subst j;rcases m with⟨rfl,i,k⟩ |rfl
 .exact .inl ⟨g,i,k⟩
 .exact .inr g
def aiS(J:cU P B){t a q v off c j:Nat}{x y:Operand}{E:En B.D}{H:List (Ob B.D)}{b f:List (B.D a)}{n:List Nat}(C:D0 (B:=B) (pe E x) q v off c b.length)(g:nth H q=c5 ⟨j,v,.aap a b⟩)(I:yd B H (pe E y) a f n)
 (s:dU P t=c5 a) (w:cH P a=c5 (B.sz a)):
 gY P (.call {callee:=.builtin .copy,args:=#[x,y],argTypes:=#[t,t]}) E H ⟨.int .i64 ((min c f.length:Nat):Int),[(q,⟨dJ H q,v,.aap a (mg f off c b)⟩)],0,q::n⟩:=by
 have l:x∈(s3 {callee:=.builtin .copy,args:=#[x,y],argTypes:=#[t,t]}).operands/\y∈(s3 {callee:=.builtin .copy,args:=#[x,y],argTypes:=#[t,t]}).operands:=by simp[ma,oS]
 intro d ty pos aft D h e;have m:=df (e.lN (.inl (by simp)) g);have k:kV (av B h) (PE (aU B D) y) (B.sz a) (f.map (B.ty a).enc):=by rw[e.pe l.2];exact I h λi o G g=>e.lN (.inl (by simp[G])) g
 refine MH (ob:=aY B ⟨j,v,.aap a b⟩) (Ln C (e.pe l.1) rfl (by simp[aY])) m λL z F=>?_
 refine uL (x:=y) (F _ _ _ k) λp k u=>?_
 have A:=US (P:=P) (E:=p) (H:=av B h) (d:=d) (ty:=ty) (pos:=pos) (aft:=aft) (x:=x) (y:=y) (r:=q) (v:=v) (off:=off) (len:=c) (t:=t) (o:=aY B ⟨j,v,.aap a b⟩) (u x _ z (by simp)) m rfl rfl k s w;refine lI A ?_
 rintro v K ⟨rfl,rfl⟩;refine⟨by simp[pv],?_⟩
 rw[mc];simp[aY,mg,mb,oq]
def Uj(l:cU P B){t a q v off g h:Nat}{x:Operand}{E:En B.D}{H:List (Ob B.D)}{e:List (B.D a)}{z:Value}{j:B.D a}(J:D0 (B:=B) (pe E x) q v off g e.length)(C:nth H q=c5 ⟨h,v,.aap a e⟩)
 (A:dU P t=c5 a) (y:dV P a=c5 z) (G:jj (dN (cv (D:=B.D) z))=true) (Q:B.up a (cv z)=c5 j):
 gY P (.call {callee:=.builtin .clear,args:=#[x],argTypes:=#[t]}) E H ⟨.bu [],[(q,⟨dJ H q,v,.aap a (iG j off g e)⟩)],0,[q]⟩:=by
 have s:x∈(s3 {callee:=.builtin .clear,args:=#[x],argTypes:=#[t]}).operands:=by simp[ma,oS]
 obtain⟨U,p⟩:=l.up a _ j Q;have w:(pv B (cv z)).cells.length=B.sz a:=by rw[p.cells.1,l.wid]
 intro d ty pos aft W F n;have k:=df (n.lN (.inl (by simp)) C);refine MH (ob:=aY B ⟨h,v,.aap a e⟩) (Ln J (n.pe s) rfl (by simp[aY])) k λN L _=>?_
 have I:=Wy (P:=P) (E:=N) (H:=av B F) (d:=d) (ty:=ty) (pos:=pos) (aft:=aft) (x:=x) (r:=q) (v:=v) (off:=off) (len:=g) (t:=t) (o:=aY B ⟨h,v,.aap a e⟩) L k rfl A y (DK B z).symm w (by rw[l5];exact oK G);have O:jB ⟨a,B.sz a,((aY B ⟨h,v,.aap a e⟩).es.take off++hB g (pv B (cv z))++(aY B ⟨h,v,.aap a e⟩).es.drop (off+g)),v⟩ ⟨a,B.sz a,(iG j off g e).map (B.ty a).enc,v⟩:=by
  refine jB.of (by simp[aY,iG]) (λi T b f c=>?_) λi V M=>?_
  .simp only[aY,iG,o4,mb,oq,List.map_replicate, <-dv] at f c
   by_cases m:i<(List.take off (List.map (B.ty a).enc e)++hB g (pv B (cv z))).length
   .rw[dt m] at f;rw[dt (by simpa using m)] at c
    by_cases u:i<(List.take off (List.map (B.ty a).enc e)).length
    .rw[dt u] at f c;rw[f] at c;injection c with c
     subst c;exact .refl _
    .rw[dk (by omega)] at f c;rw[k0 (ej f),k0 (ej c)];exact p
   .rw[dk (by omega)] at f;rw[dk (by simpa using m)] at c;simp only[e5,j7] at f c;rw[f] at c;injection c with c
    subst c;exact .refl _
  .obtain⟨K,_,rfl⟩:=ey.1 (ej M);exact l.wid a K
 refine lI (tu I (c9 k) O (.refl _)) ?_
 rintro S X ⟨rfl,rfl⟩;refine⟨rfl,?_⟩
 rw[mc]
 rfl
def ao6{t:TypeId}{x:Operand}{hi:Option Operand}{E:En B.D}{H:List (Ob B.D)}{c:cr B.D->Option R}(h:shrink B P E H t (pe E x) hi c=c5 r):
 ∃o,c o=c5 r/\iZ H o/\gY P (.slice t x ea hi ea) E H o:=by
 unfold shrink at h
 split at h
 .rename_i q v Q
  split at h
  .rename_i e i M;obtain⟨D,w⟩:=fx M;obtain⟨u,O⟩:=a8 h;obtain⟨b,F,I⟩:=fq O;obtain⟨U,j,S⟩:=ei.1 I;obtain⟨_,V,W,rfl⟩:=Kt j;refine⟨_,S,pz w,λd ty pos aft g N y=>?_⟩
   have p:∀z,z∈(Op.slice t x ea hi ea).operands->PE (aU B g) z=pv B (pe E z):=λz K=>y.pe K
   have k:=df (y.lN (.inl (by simp)) w);have ops:∀a,hi=c5 a->∀c e,pe E a= .int c e->PE (aU B g) a= .int c e:=λa j c e m=>by
    rw[p a (by subst j;simp[ma]),m];rfl
   obtain⟨f,rfl,s⟩:=ri (show PE (aU B g) x= .fl q v by rw[p x (by simp[ma]),Q];rfl);refine yP s k rfl ?_
   have J:PE ((f,PV.sl q v 0 i.length)::aU B g) (.tmp f)= .sl q v 0 i.length:=ni _ _ _;have C:∀a,hi=c5 a->∀c e,pe E a= .int c e->PE ((f,PV.sl q v 0 i.length)::aU B g) a= .int c e:=λa j c e m=>by
    have n:=ops a j c e m
    by_cases A:a= .tmp f
    .subst A;rw[show PE (aU B g) (.tmp f)= .fl q v from s] at n;cases n
    .rw[wD a A];exact n
   have:=SC (P:=P) (E:=(f,PV.sl q v 0 i.length)::aU B g) (H:=av B N) (d:=d) (ty:=ty) (pos:=pos) (aft:=aft) (gd:=ea) (t:=t) (x:=.tmp f) (lo:=ea) (hi:=hi) (l:=0) (h:=b.toNat) J k rfl (mh u).1 (mh u).2 rfl (wk (by simpa[aY] using F) (by omega) C) (by omega) (by simp[aY];omega);rw[e6,s5] at this;have G:=apT this k rfl;have L:(aY B ⟨D,v,.aap e i⟩).es.length=i.length:=by simp[aY]
   rw[L];refine lI G ?_
   rintro T X ⟨rfl,rfl⟩;refine⟨rfl,?_⟩
   rw[mc];simp[aY,mb]
  .cases h
 .cases h
end
section
variable {P:Program}{B:Tb}{R:Type}{r:R}
def iW{c:Op}{f:En B.D}{a:List (Ob B.D)}{d:List Nat}{v:TV B.D}{e:cr B.D->Option R}(h:e ⟨v,[],0,d⟩=c5 r)(g:fW P c f a d v):∃b,e b=c5 r/\iZ a b/\gY P c f a b:=
 ⟨_,h,S6,g.sound⟩
def anM{e:Op}{f:En B.D}{c:List (Ob B.D)}{g:cr B.D->Option R}(a:∃v d,g ⟨v,[],0,d⟩=c5 r/\fW P e f c d v):∃b,g b=c5 r/\iZ c b/\gY P e f c b:=by
 obtain⟨v,d,h,a⟩:=a;exact iW h a
def ML{f:En B.D}{d:List Operand}{e:TV B.D}(a:fB f d=[e]):∃c,d=[c]/\pe f c=e:=by
 match d,a with
 |[c],a=>exact⟨c,rfl,by simpa[fB] using a⟩
 |[],a=>cases a
 |c::b::d,a=>simp[fB] at a
def GZ{e:En B.D}{d:List Operand}{f g:TV B.D}(a:fB e d=[f,g]):∃c b,d=[c,b]/\pe e c=f/\pe e b=g:=by
 match d,a with
 |[c,b],a=>exact⟨c,b,rfl,by simpa[fB] using a⟩
 |[],a=>cases a
 |[c],a=>simp[fB] at a
 |c::b::h::d,a=>simp[fB] at a
def oy{c:Type}{b:Array c}{a:List c}(d:b.toList=a):b=a.toArray:=by
 rw[<-d,hU]
def OQ{f:Type}:∀(e d:List f) {c:f},c∈nf e d->c∈e\/c∈d
 |[],_,_,a=>.inr a
 |b::e,d,c,a=>by
  rcases OQ e (b::d) a with a |a
  .exact .inl (c7 _ a)
  .rcases dd.1 a with rfl |a
   .exact .inl j3
   .exact .inr a
def MI(u:cU P B){G:List (aq B)}(n:∀h,h∈G->Fits P B h){l:Nat}{cs ds:List (TV B.D)}{fo:Operand}{args:Array Operand}{ci:Array TypeId}{E:En B.D}{H:List (Ob B.D)}{p:cr B.D->Option R}
 (t:pv B (pe E fo)= .fn l (aP B cs) (aP B ds)) (F:nz B l ⟨fi 0 (aX cs (aX (fB E args.toList) ds)),H⟩ p G=c5 r):
 ∃b,p b=c5 r/\iZ H b/\gY P (.call {callee:=.value fo,args:=args,argTypes:=ci}) E H b:=by
 obtain⟨b,I,N,h,C,L,x⟩:=Z3 u n F;refine⟨b,I,N,λd ty pos aft s k j=>?_⟩
 have m:∀a,a=fo\/a∈args->a∈(s3 {callee:=.value fo,args:=args,argTypes:=ci}).operands:=λa c=>by
  simp only[ma,oS];rcases c with rfl |c
  .simp
  .simp[c]
 have e:=WB (P:=P) (E:=aU B s) (H:=av B k) (d:=d) (ty:=ty) (pos:=pos) (aft:=aft) (fo:=fo) (as:=args.toList) (ci:=ci) (f:=l) (cs:=aP B cs) (ds:=aP B ds) (K:=λv K=>v=pv B b.val/\K=av B (b8 k b.wr))
  (by rw[j.pe (m fo (.inl rfl)),t]) (by rw[<-L];exact(n h C).Q6) (λg z w J o=>by
   have q:aP B cs++args.toList.map (PE (aU B s))++aP B ds=aP B (aX cs (aX (fB E args.toList) ds)):=by
    rw[<-DE (E:=E) λa c=>j.pe (m a (.inr (hX.1 c)))];simp[bK,db]
   rw[q] at o;refine(x k (λi M=>j.h i M) g z w J o).mono ?_
   rintro q S ⟨a,A,v,K,O,Q,D,e,y⟩;exact⟨a,A,v,K,O,Q,D,e,y⟩)
 rw[hU] at e;exact e
def aaE(m:cU P B){G:List (aq B)}(ad:∀d,d∈G->Fits P B d){aa:Bool}{u:En B.D}{H:List (Ob B.D)}{S:Op}{ab:cr B.D->Option R}(a:step B P G aa u H S ab=c5 r):
 ∃af,ab af=c5 r/\iZ H af/\gY P S u H af:=by
 cases S with
 |move g=>exact iW a anB
 |assign g=>exact iW a aqt
 |pick d j b=>
  simp only[step] at a
  split at a
  .rename_i b h;exact iW a (akp h)
  .cases a
 |binOp S t g D yt=>
  simp only[step] at a;obtain⟨v,e,n⟩:=afA (H:=H) (yt:=yt) a;exact iW e n
 |unOp S t g=>
  simp only[step] at a;obtain⟨v,e,n⟩:=amY (P:=P) (t:=t) (H:=H) a;exact iW e n
 |convert aR aK g=>
  simp only[step] at a
  split at a
  .rename_i b C j c aC;obtain⟨n,e⟩:=a8 a;exact iW e (aip c aC n)
  .cases a
 |extract g i=>
  simp only[step] at a
  split at a
  .rename_i cs c;obtain⟨v,L,e⟩:=fq a;exact iW e (ahW c L)
  .cases a
 |nilCheck g=>
  simp only[step] at a
  split at a
  .rename_i q v i K c;exact iW a (Gw (.inl ⟨q,v,i,K,rfl⟩) c)
  .rename_i cs K c;exact iW a (Gw (.inr (.inl ⟨cs,K,rfl⟩)) c)
  .rename_i f cs ds c;exact iW a (Gw (.inr (.inr ⟨f,cs,ds,rfl⟩)) c)
  .cases a
 |field t g f=>
  simp only[step] at a
  split at a
  .rename_i cs av aj c y;obtain⟨v,L,e⟩:=fq a;exact iW e (aex c y L)
  .cases a
 |fieldAddr t g f=>
  simp only[step] at a
  split at a
  .rename_i av aj y
   split at a
   .rename_i s n
    split at a
    .rename_i q v i K c;exact iW a (R3 y n (.inl ⟨q,v,i,K,c,rfl⟩))
    .rename_i cs K c;exact iW a (R3 y n (.inr ⟨cs,K,c,rfl⟩))
    .cases a
   .cases a
  .cases a
 |indexAddr t g i=>exact anM (amg m a)
 |index t g i=>exact anM (ame a)
 |load t g=>exact anM (PD m a)
 |store t g D=>exact amr m a
 |slice t g X ah an=>
  cases an with
  |none=>
   simp only[step] at a;cases aa with
   |false=>exact anM (aqA a)
   |true=>
    cases X with
    |none=>exact ao6 a
    |some X=>cases a
  |some an=>
   cases X with
   |some X=>cases ah <;> simp[step] at a
   |none=>
    cases ah with
    |none=>simp[step] at a
    |some ah=>exact anM (VT m a)
 |box t g=>
  simp only[step] at a;obtain⟨p,a⟩:=a8 a;obtain⟨k,e⟩:=a8 a;exact⟨_,e,xO,W5 p k⟩
 |alloc t=>
  simp only[step] at a
  split at a
  .rename_i z o;obtain⟨p,a⟩:=a8 a;obtain⟨k,e⟩:=a8 a;exact⟨_,e,xO,ac4 o p k⟩
  .cases a
 |build t aE=>
  simp only[step] at a
  split at a
  .rename_i z aN o aB;obtain⟨p,a⟩:=a8 a;obtain⟨A,E,a⟩:=fq a;obtain⟨cs,y,e⟩:=fq a;exact iW e (agn o aB p E y)
  .cases a
 |buildSlice t A aE=>
  simp only[step] at a
  split at a
  .rename_i s w;obtain⟨k,a⟩:=a8 a;obtain⟨F,a⟩:=a8 a;obtain⟨Y,a⟩:=a8 a
   split at a
   .rename_i Z c;obtain⟨p,a⟩:=a8 a;exact(aaJ m w c p k F Y).sound a
   .exact aco m a w k F Y
  .cases a
 |makeSlice t A d=>
  simp only[step] at a;obtain⟨az,a⟩:=a8 a
  split at a
  .rename_i s aP C w E
   split at a
   .rename_i z aH o O;obtain⟨p,a⟩:=a8 a;obtain⟨k,a⟩:=a8 a;obtain⟨aF,ag,a⟩:=fq a;obtain⟨Z,c,a⟩:=ei.1 a;exact(aoF m az E w o O p k ag c).sound a
   .cases a
  .cases a
 |makeFunc fn j d=>
  cases fn with
  |func f=>exact iW a W8
  |_=>simp[step] at a
 |call d=>
  obtain⟨callee,args,V⟩:=d;cases callee with
  |value f=>
   simp only[step] at a
   split at a
   .rename_i W cs ds y;refine MI m (G:=bif aa then nf G [] else G) (λd h=>ad d ?_) (by rw[y];rfl) a
    cases aa with
    |false=>exact h
    |true=>exact(OQ G [] h).resolve_right q8
   .rename_i aL y;obtain⟨W,rfl,a⟩:=ei.1 a;have ar:∀A,sV B W ⟨fi 0 (fB u args.toList),H⟩ ab A=c5 r->(∀d,d∈A->Fits P B d)->∃d,d∈A/\nz B W ⟨fi 0 (fB u args.toList),H⟩ ab [d]=c5 r:=λA=>by
     induction A with
     |nil=>intro a;simp[sV] at a
     |cons j A am=>
      intro a E;simp only[sV] at a;cases h0:(bif fe (len (fi 0 (fB u args.toList))) j.na then(leaves j.par ⟨fi 0 (fB u args.toList),H⟩ (nQ ⟨fi 0 (fB u args.toList),H⟩ j.par.dF)).isSome else false) with
      |false=>
       rw[h0] at a;obtain⟨d,h,k⟩:=am a λd h=>E d (c7 _ h)
       exact⟨d,c7 _ h,k⟩
      |true=>
      rw[h0] at a;simp only[cond_true] at a;cases ac:fe W j.cO with
      |true=>
       rw[ac] at a;exact⟨j,by simp,by rw[beq_eq ac];exact a⟩
      |false=>
       rw[ac] at a;obtain⟨d,h,k⟩:=am a λd h=>E d (c7 _ h)
       exact⟨d,c7 _ h,k⟩
    obtain⟨d,h,k⟩:=ar G a ad;refine MI m (G:=[d]) (cs:=[]) (ds:=[]) (λaQ aG=>by rw[List.mem_singleton.1 aG];exact ad d h) (by rw[y];rfl) ?_
    rw[aX,bK,ft];exact k
   .cases a
  |invoke _ _=>simp[step] at a
  |builtin b=>
   cases b <;> simp only[step] at a <;> first |(cases a;done) |skip
   case len=>
    split at a
    .rename_i g t c w
     split at a
     .rename_i s N;obtain⟨j,l,al⟩:=ML c;have l:args=#[j]:=oy l;subst l;have h:V=#[t]:=oy w;subst h;subst al;exact anM (Vw m N a)
     .cases a
    .cases a
   case min=>
    obtain⟨v,L,e⟩:=fq a;obtain⟨g,D,j,b,C,s,ak,c,U,T,rfl⟩:=Nx L;exact iW e (adE rfl ak c U T)
   case max=>
    obtain⟨v,L,e⟩:=fq a;obtain⟨g,D,j,b,C,s,ak,c,U,T,rfl⟩:=Nx L;exact iW e (alY rfl ak c U T)
   case append=>
    split at a
    .rename_i aM g t aA c w;obtain⟨ae,x⟩:=a8 a;clear a;obtain rfl:=beq_eq ae
     split at x
     .rename_i s N
      split at x
      .rename_i aH O;obtain⟨M,x⟩:=a8 x;obtain⟨j,b,l,J,Q⟩:=GZ c;have l:args=#[j,b]:=oy l;subst l;have h:V=#[t,t]:=oy w;subst h;subst Q;cases ap:SG B H (pe u b) with
       |true=>
        rw[ap,cond_true, <-J] at x;exact agG m x N O M
       |false=>
       rw[ap,cond_false] at x;obtain⟨ax,au,a,n⟩:=Rz x
       split at a
       .obtain⟨ao,o,a⟩:=ei.1 a;exact(MY m (.inl J) n N O M o).sound a
       .obtain⟨ao,o,a⟩:=ei.1 a;exact(MY m (.inr J) n N O M o).sound a
       .rename_i q v
        split at a
        .rename_i C Z h;obtain⟨aO,I⟩:=fx h;obtain⟨aJ,ay,a⟩:=fq a;obtain⟨rfl,rfl⟩:=AG ay;obtain⟨ao,o,e⟩:=ei.1 a;exact⟨_,e,pz I,YX m J I n N O M o⟩
        .cases a
       .cases a
      .cases x
     .cases x
    .cases a
   case clear=>
    split at a
    .rename_i g t c w;obtain⟨q,v,aj,aD,s,Z,aw,I,n,p⟩:=MJ a;obtain⟨ai,k⟩:=a8 p;obtain⟨_,F⟩:=a8 k
     split at F
     .rename_i z o;obtain⟨E,Y⟩:=a8 F;obtain⟨aF,ag,e⟩:=fq Y;obtain⟨j,l,al⟩:=ML c;have l:args=#[j]:=oy l;subst l;have h:V=#[t]:=oy w;subst h;subst al;exact⟨_,e,pz I,Uj m n I (Lj ai) o E ag⟩
     .cases F
    .cases a
   case copy=>
    split at a
    .rename_i g D t aA c w;obtain⟨ae,h0⟩:=a8 a;obtain rfl:=beq_eq ae;obtain⟨q,v,aj,aD,s,Z,aw,I,n,p⟩:=MJ h0;obtain⟨ai,k⟩:=a8 p;obtain⟨M,F⟩:=a8 k;obtain⟨ax,au,e,U⟩:=Rz F;obtain⟨aI,_⟩:=qY M;obtain⟨j,b,l,J,Q⟩:=GZ c;have l:args=#[j,b]:=oy l;subst l;have h:V=#[t,t]:=oy w;subst h;subst J;subst Q;exact⟨_,e,pz I,aiS m n I U (Lj ai) aI⟩
    .cases a
 |_=>simp[step] at a
where
 Nx {f:Int->Int->Int} {args:Array Operand} {u:En B.D} {v:TV B.D} (a:Dm B f (fB u args.toList)=c5 v):∃g D j b C s,args=#[g,D]/\pe u g= .int j C/\pe u D= .int b s/\fV j b=true/\v= .int j (f C s):=by
  unfold Dm at a
  split at a
  .rename_i j C b s c;obtain⟨T,a⟩:=a8 a;injection a with a
   obtain⟨g,D,l,J,Q⟩:=GZ c;exact⟨g,D,j,b,C,s,oy l,J,Q,T,a.symm⟩
  .cases a
end
section
variable {P:Program}{B:Tb}{R:Type}{r:R}
def H8{c:Type}{b:List c}{i:Nat}{d:c}(a:nth b i=c5 d):i<b.length:=by
 rw[cJ] at a;exact c9 a
def SE{f:Type}:∀{ch:List (Nat×f)} {c d:List f} {i:Nat},nth c i=nth d i->nth (b8 c ch) i=nth (b8 d ch) i
 |[],_,_,_,a=>a
 |p::ch,c,d,i,a=>by
  refine SE (ch:=ch) ?_
  rw[iL,iL,cJ,cJ];rw[cJ,cJ] at a
  by_cases e:p.1=i
  .subst e;cases b:c[p.1]? with
   |none=>
    rw[b] at a;rw[ga (by rw[h6];exact m4.1 b),ga (by rw[h6];exact m4.1 a.symm)]
   |some g=>
    rw[b] at a;rw[ev (c9 b),ev (c9 a.symm)]
  .rw[eH e,eH e];exact a
def Mu{d:Type}:∀{c b:List (Nat×d)} {a:List d},b8 a (aX c b)=b8 (b8 a c) b
 |[],_,_=>rfl
 |p::c,b,a=>by simp only[aX,b8];exact Mu
def Rn{e:Nat->Type}{d c:List (Ob e)}:∀{a:List Nat},(∀i,i∈a->nth d i=nth c i)->gU d a=gU c a
 |[],_=>rfl
 |q::a,b=>by
  simp only[gU];rw[b q (by simp),Rn λi f=>b i (by simp[f])]
def FG{m:Nat->Type}{X:List (Ob m)}:∀{fr:List Nat} {Z:List (Ob m)},Z.length=X.length->(∀i,i∈fr->nth Z i=nth X i\/∃c,nth X i=c5 c/\nth Z i=c5 ⟨c.st+1,c.aF+1,.dead⟩)->
 (∀i,i∈fr->∀c,nth X i=c5 c->nth (b8 Z (gU X fr)) i=c5 ⟨c.st+1,c.aF+1,.dead⟩)/\(∀i,i∉fr->nth (b8 Z (gU X fr)) i=nth Z i)
 |[],Z,_,_=>⟨λi a=>(q8 a).elim,λi _=>rfl⟩
 |q::fr,Z,k,n=>by
  simp only[gU];cases g:nth X q with
  |none=>
   obtain⟨j,f⟩:=FG (X:=X) (fr:=fr) (Z:=Z) k λi a=>n i (by simp[a])
   refine⟨λi a c d=>?_,λi a=>f i λb=>a (by simp[b])⟩
   rcases dd.1 a with rfl |a
   .rw[g] at d;cases d
   .exact j i a c d
  |some e=>
   have p:q<Z.length:=by rw[k];exact H8 g
   have l:∀i,nth (me Z q ⟨e.st+1,e.aF+1,.dead⟩) i=if q=i then c5 ⟨e.st+1,e.aF+1,.dead⟩ else nth Z i:=λi=>by
    rw[iL,cJ,cJ]
    by_cases b:q=i
    .subst b;rw[if_pos rfl,ev p]
    .rw[if_neg b,eH b]
   obtain⟨j,f⟩:=FG (X:=X) (fr:=fr) (Z:=me Z q ⟨e.st+1,e.aF+1,.dead⟩) (by rw[iL,h6,k]) λi a=>by
    rw[l]
    by_cases b:q=i
    .subst b;exact .inr ⟨e,g,by rw[if_pos rfl]⟩
    .rw[if_neg b];exact n i (by simp[a])
   refine⟨λi a c d=>?_,λi a=>?_⟩
   .by_cases h:i∈fr
    .exact j i h c d
    .rcases dd.1 a with rfl |a
     .rw[b8,f i h,l,if_pos rfl];rw[g] at d;injection d with d
      rw[d]
     .exact absurd a h
   .have o:q≠i:=λb=>a (by simp[b])
    rw[b8,f i λb=>a (by simp[b]),l,if_neg o]
def lX(a:List Nat)(b:Nat)(q:Nat):Option Nat:=bif has a q then ea else bif j8 q b then c5 q else ea
def u7{d:List Nat}{e q i:Nat}(a:lX d e q=c5 i):i=q/\q∉d/\q<e:=by
 unfold lX at a;cases b:has d q with
 |true=>rw[b] at a;cases a
 |false=>
  rw[b] at a;simp only[cond_false] at a;cases c:j8 q e with
  |false=>rw[c] at a;cases a
  |true=>
   rw[c] at a;injection a with a
   exact⟨a.symm,nA b,e4 c⟩
def KI{a:List Nat}{b q:Nat}(c:q∉a)(e:q<b):lX a b q=c5 q:=by
 unfold lX;have f:has a q=false:=by
  cases g:has a q with
  |false=>rfl
  |true=>exact absurd ((oO a q).1 g) c
 have d:j8 q b=true:=hM e;rw[f,d]
 rfl
def apa{g:Gh}{X:List (Ob B.D)}{j:World}(C:bF g (av B X) j)(fr:List Nat)(U:∀i,i∈fr->i<X.length)(N:Nat):
 bF (dj g (lX fr X.length) (λi=>i∈fr)) (av B (b8 X (gU X fr))) j/\
 (∀h o,VR g (av B X) j h o->VR (dj g (lX fr X.length) (λi=>i∈fr)) (av B (b8 X (gU X fr))) j h o)/\
 Bml.GStep N g (av B X) j (dj g (lX fr X.length) (λi=>i∈fr)) (av B (b8 X (gU X fr))) j:=by
 obtain⟨Q,L⟩:=FG (X:=X) (fr:=fr) (Z:=X) rfl λi _=>.inl rfl
 have D:(b8 X (gU X fr)).length=X.length:=qy _ _;have y:∀q c,(av B X)[q]?=c5 c->∃d,(av B (b8 X (gU X fr)))[q]?=c5 d/\((q∈fr/\c.aF<d.aF/\d.es=[]/\d.sz=1)\/(q∉fr/\d=c)):=λq c n=>by
  obtain⟨O,s,rfl⟩:=oU n
  by_cases w:q∈fr
  .refine⟨_,df (Q q w O s),.inl ⟨w,?_,rfl,rfl⟩⟩
   rw[e7];exact l1 _
  .exact⟨_,df (by rw[L q w];exact s),.inr ⟨w,rfl⟩⟩
 have A:∀h o,VR g (av B X) j h o->VR (dj g (lX fr X.length) (λi=>i∈fr)) (av B (b8 X (gU X fr))) j h o:=λh o p=>by
  refine VR.re (f:=λr v=>∃c,(av B X)[r]?=c5 c/\v<=c.aF) (g':=dj g (lX fr X.length) (λi=>i∈fr)) (λb H=>Or.inl H) (λr v c _ n K=>?_) p p.wf
  obtain⟨d,m,t⟩:=y r c n;rcases t with⟨a,J,_⟩ |⟨a,rfl⟩
  .exact⟨d,m,by omega,λk=>by omega⟩
  .refine⟨_,m,K,λk=>⟨k,rfl,rfl,?_⟩⟩
   have e:=c9 n;rw[qL] at e;show(lX fr X.length r).bind g.β=g.β r
   rw[KI a e]
   rfl
 refine⟨?_,A,?_⟩
 .refine bF.re C (λi S q l=>?_) (λq W i p F=>?_) (λq i p=>?_) λq d m=>?_
  .obtain⟨k,a,_⟩:=u7 l;subst k;exact a S
  .rw[<-(u7 p).1, <-(u7 F).1]
  .rw[qL,D];exact(u7 p).2.2
  .have e:=c9 m;rw[qL,D] at e;have x:(av B X)[q]?=c5 ((av B X)[q]'(by rw[qL];exact e)):=c4 _;obtain⟨Y,u,t⟩:=y q _ x;rw[m] at u;injection u with u
   subst u;rcases t with⟨a,_,z,G⟩ |⟨a,rfl⟩
   .refine⟨by rw[G];exact qb,λi k E=>by rw[z] at E;simp at E,λ_=>z,λi l=>?_⟩
    exact absurd a (u7 l).2.1
   .have s:=C.obj q _ x;refine⟨s.pos,s.width,λl=>?_,λi l=>?_⟩
    .rw[KI a e] at l;cases l
    .obtain⟨k,_,_⟩:=u7 l;subst k;exact⟨_,x,rfl,rfl,rfl,λi V h M=>⟨h,M,λI T=>A h I T⟩⟩
 .refine GStep.re λq c _ n=>?_
  obtain⟨d,m,t⟩:=y q c n;have e:=c9 n;rw[qL] at e;rcases t with⟨a,J,_⟩ |⟨a,rfl⟩
  .exact⟨d,m,by omega,λk=>by omega⟩
  .exact⟨_,m,ef _,λ_=>⟨KI a e,rfl,rfl⟩⟩
def SN{h:Nat->Type}{e:Nat}{d:List (Nat×Ob h)}:∀{b:List Nat},Jd e d b=true->∀i,i∈b->e<=i/\i∈eV d
 |[],_,i,a=>by cases a
 |q::b,j,i,a=>by
  obtain⟨f,c⟩:=fu j;obtain⟨c,g⟩:=fu c;rcases dd.1 a with rfl |a
  .exact⟨e4 f,(oO _ _).1 c⟩
  .exact SN g i a
def KW{d:Nat->Type}{f:List (Ob d)}:∀{b:List Nat} {i:Nat} {e:Ob d},(i,e)∈gU f b->i∈b
 |[],_,_,a=>by cases a
 |q::b,i,e,a=>by
  simp only[gU] at a
  split at a
  .rcases dd.1 a with c |a
   .injection c with c _
    simp[c]
   .exact c7 _ (KW a)
  .exact c7 _ (KW a)
def QB{c:Type}:∀{a b:List (Nat×c)},eV (aX a b)=aX (eV a) (eV b)
 |[],_=>rfl
 |p::a,b=>by simp only[aX,eV,QB]
def T1{c:Nat->Type}{e:List (Ob c)}:∀{b:List Nat} {i:Nat},i∈eV (gU e b)->i∈b
 |[],_,a=>by cases a
 |q::b,i,a=>by
  simp only[gU] at a
  split at a
  .simp only[eV,dd] at a;rcases a with d |a
   .simp[d]
   .exact c7 _ (T1 a)
  .exact c7 _ (T1 a)
def Zj(L:cU P B){w:Op}{G:En B.D}{H:List (Ob B.D)}{a F:cr B.D}(f:Fs H a=c5 F)(K:iZ H a)(an:gY P w G H a):iZ H F/\gY P w G H F:=by
 unfold Fs at f;obtain⟨am,f⟩:=a8 f;obtain⟨M,f⟩:=a8 f;injection f with f
 subst f;have n:=SN am;refine⟨λi Q d=>?_,?_⟩
 .have d:(i,Q)∈aX a.wr (gU (behind H a) (refs a.val)):=d;rw[bK,c6] at d;rcases d with d |d
  .exact K i Q d
  .have b:=KW d;obtain⟨t,y⟩:=n i b;have x:∃e,(i,e)∈a.wr:=F1 y;obtain⟨e,j⟩:=x;refine⟨(K i e j).1,λax X=>?_⟩
   have:=H8 X;rw[eu] at t;omega
 .intro ad ae ao ar T c E g ah S ab Z al ag aw;have I:Ag w (aX a.rd (eV a.wr)) G T (aX H (dx a.nw)) c:=⟨E.e,λi b=>E.h i (by
   show i∈aX a.rd (eV (aX a.wr _))
   rw[bK,c6] at b⊢;rcases b with b |b
   .exact .inl b
   .exact .inr (by rw[QB,bK,c6];exact .inl b)),E.le⟩
  refine an ad ae ao ar T c I g ah S ab Z al ag λC O af v ay ai m d au=>?_
  obtain⟨rfl,rfl⟩:=ai;have u:∀i,i∈refs a.val->nth (behind H a) i=nth (b8 c a.wr) i:=λi b=>by
   unfold behind;refine SE ?_
   have:=I.h i (by rw[bK,c6];exact .inr (n i b).2);exact this.symm
  have ac:∀i,i∈refs a.val->i<(b8 c a.wr).length:=λi b=>by
   rw[qy];have t:=I.h i (by rw[bK,c6];exact .inr (n i b).2);obtain⟨e,j⟩:=F1 (n i b).2;have y:=(K i e j).1;have x:i<(aX H (dx a.nw)).length:=by rw[bK,e5,qV];exact y
   have Y:nth (aX H (dx a.nw)) i=c5 ((aX H (dx a.nw))[i]):=by rw[cJ];exact c4 x
   rw[Y] at t;exact H8 t
  obtain⟨ap,az,aa⟩:=apa d (refs a.val) ac (av B c).length;refine aw C O _ (pv B (G0 (behind H a) a.val)) (av B (b8 (b8 c a.wr) (gU (b8 c a.wr) (refs a.val)))) ⟨rfl,?_⟩ ?_ ap (au.trans aa)
  .show av B _=av B (b8 c (aX a.wr (gU (behind H a) (refs a.val))))
   rw[Mu,Rn u]
  .have aq:kY (b8 c a.wr) (refs a.val)=[]:=by
    rw[Ki (H:=behind H a) (refs a.val) λi b=>(u i b).symm];cases o:kY (behind H a) (refs a.val) with
    |nil=>rfl
    |cons S s=>rw[o] at M;cases M
   have q:∀i,jN (b8 c a.wr) (refs a.val) i->i∈refs a.val:=λi b=>by
    unfold jN at b
    rwa [aq,bK,ft] at b
   have V:∀l:TV B.D,(∀i,i∈refs l->i∈refs a.val)->kJ (behind H a) [] l=kJ (b8 c a.wr) [] l:=λl z=>H6 l λi b=>u i (q i (b.mono z))
   have W:∀k:List (TV B.D),(∀i,i∈iB k->i∈refs a.val)->jS (behind H a) [] k=jS (b8 c a.wr) [] k:=λk z=>v8 k λi b=>u i (q i (b.mono z))
   unfold G0
   split
   .rename_i A J;rw[W A λi b=>by rw[J];exact b];rw[J] at m;have m:VR af (av B (b8 c a.wr)) O (.bu (aP B A)) C:=m;obtain⟨N,rfl,o,aj⟩:=m.Db;have U:=pH (kept:=[]) (src:=lX (refs a.val) (b8 c a.wr).length) (fz:=λi=>i∈refs a.val) L d A N (λi b _=>q i (by rw[J];exact b)) o aj;exact .aW (.bu _ N (by rw[U.1];exact o) U.2)
   .rw[V a.val λi b=>b];exact .aW (Jt (kept:=[]) (src:=lX (refs a.val) (b8 c a.wr).length) (fz:=λi=>i∈refs a.val) L d a.val C (λi b _=>q i b) m)
where
 F1 {D:Nat->Type}:∀{s:List (Nat×Ob D)} {i:Nat},i∈eV s->∃e,(i,e)∈s
  |[],_,h=>by cases h
  |p::s,i,h=>by
   simp only[eV,dd] at h;rcases h with ak |h
   .exact⟨p.2,by rw[ak];simp⟩
   .obtain⟨e,j⟩:=F1 h;exact⟨e,c7 _ j⟩
def aaq(e:cU P B){f:List (aq B)}(p:∀l,l∈f->Fits P B l){t g:Bool}{j:En B.D}{c:List (Ob B.D)}{d:Op}{h:cr B.D->Option R}(i:zM B P f t g j c d h=c5 r):
 ∃a,h a=c5 r/\iZ c a/\gY P d j c a:=by
 unfold zM at i;obtain⟨a,b,m,k⟩:=aaE e p i;cases g with
 |false=>exact⟨a,b,m,k⟩
 |true=>
  obtain⟨s,n,b⟩:=fq b;obtain⟨q,o⟩:=Zj e n m k;exact⟨s,b,q,o⟩
end
section
variable {P:Program}{B:Tb}{R:Type}{r:R}
def qo{b:Nat->Type}(c:Oper)(a:St b):Option (cr b)->St b
 |some d=>⟨gr a.E c.dst d.val,behind a.H d⟩
 |none=>⟨gr a.E c.dst (.bu []),a.H⟩
def fG{d:Nat->Type}(b:List Oper)(a:Oper):Option (cr d)->Lg
 |some c=>rV b a c
 |none=>xo b a
def tQ{a:Nat->Type}(h:List Oper)(g:Oper)(f:En a)(p:Bool->TV a->Prop):Prop:=∃b c e d,g.guard=c5 (b,c)/\nth h b=c5 e/\e.dst=c5 d/\p c (lk f d)
def Ij(P:Program)(B:Tb)(f:List Oper)(c:Oper)(a:St B.D):Option (cr B.D)->Prop
 |some d=>(c.guard=ea\/tQ f c a.E λe v=>v= .bool e)/\gY P c.op a.E a.H d/\iZ a.H d/\∀i,i∈d.rd->i<a.H.length
 |none=>tQ f c a.E λe v=>v= .bu []\/∃b,v= .bool b/\b≠e
def l6(P:Program)(B:Tb)(e:List Oper):List Oper->St B.D->List (Option (cr B.D))->St B.D->Prop
 |[],a,[],b=>b=a
 |c::g,a,d::f,b=>Ij P B e c a d/\l6 P B e g (qo c a d) f b
 |_,_,_,_=>False
def mF{b:Nat->Type}(a:List Oper):List Oper->List (Option (cr b))->List Lg
 |f::e,d::c=>fG a f d::mF a e c
 |_,_=>[]
def SI{c:Nat}:∀{b:List Nat},Dp c b=true->∀i,i∈b->i<c
 |[],_,i,a=>by cases a
 |g::b,e,i,a=>by
  obtain⟨d,f⟩:=fu e;rcases dd.1 a with rfl |a
  .exact e4 d
  .exact SI f i a
def qg(x:cU P B){p:List (aq B)}(z:∀s,s∈p->Fits P B s){q:List Nat}{c:List Oper}{m:List Lg->St B.D->Option R}:∀{f:List Oper} {i:Nat} {k:List Lg} {a:St B.D},ops B P p q c m i f k a=c5 r->
 ∃g h,l6 P B c f a g h/\m ((mF c f g).reverse++k) h=c5 r
 |[],i,k,a,d=>⟨[],a,rfl,d⟩
 |e::f,i,k,a,d=>by
  simp only[ops] at d;have go:∀(l:e.guard=ea\/tQ c e a.E λn v=>v= .bool n),(zM B P p (has q i) (has q (i+1000)) a.E a.H e.op λj=>bif Dp (len a.H) j.rd then
   bif zL i c then match j.val with
    | .bool s=>cond s (ops B P p q c m (i+1) f (rV c e j::k) ⟨gr a.E e.dst (.bool true),behind a.H j⟩) (ops B P p q c m (i+1) f (rV c e j::k) ⟨gr a.E e.dst (.bool false),behind a.H j⟩)
    |_=>ea
   else ops B P p q c m (i+1) f (rV c e j::k) ⟨gr a.E e.dst j.val,behind a.H j⟩
   else ea)=c5 r->∃g h,l6 P B c (e::f) a g h/\m ((mF c (e::f) g).reverse++k) h=c5 r:=λl d=>by
   obtain⟨j,o,N,L⟩:=aaq x z d;obtain⟨H,o⟩:=a8 o;have I:∀i,i∈j.rd->i<a.H.length:=λi M=>by rw[<-eu];exact SI H i M
   have next:ops B P p q c m (i+1) f (rV c e j::k) ⟨gr a.E e.dst j.val,behind a.H j⟩=c5 r->∃g h,l6 P B c (e::f) a g h/\m ((mF c (e::f) g).reverse++k) h=c5 r:=λd=>by
    obtain⟨g,h,C,y⟩:=qg x z d;refine⟨c5 j::g,h,⟨⟨l,L,N,I⟩,C⟩,?_⟩
    simp only[mF,fG,p7,dv,o8];exact y
   cases G:zL i c with
   |false=>rw[G] at o;exact next o
   |true=>
    rw[G] at o;simp only[cond_true] at o
    split at o
    .rename_i s J;refine next ?_
     rw[J];cases s <;> exact o
    .cases o
  have skip:(tQ c e a.E λn v=>v= .bu []\/∃b,v= .bool b/\b≠n)->ops B P p q c m (i+1) f (xo c e::k) ⟨gr a.E e.dst (.bu []),a.H⟩=c5 r->∃g h,l6 P B c (e::f) a g h/\m ((mF c (e::f) g).reverse++k) h=c5 r:=λl d=>by
   obtain⟨g,h,C,y⟩:=qg x z d;refine⟨ea::g,h,⟨l,C⟩,?_⟩
   simp only[mF,fG,p7,dv,o8];exact y
  split at d
  .rename_i l;exact go (.inl l) d
  .rename_i w n l
   split at d
   .rename_i E F
    split at d
    .rename_i D A
     split at d
     .rename_i b t;cases u:Bool.xor b n with
      |true=>
       rw[u] at d;exact skip ⟨w,n,E,D,l,F,A,.inr ⟨b,t,λK=>by subst K;cases b <;> cases u⟩⟩ d
      |false=>
       rw[u] at d;refine go (.inr ⟨w,n,E,D,l,F,A,?_⟩) d
       rw[t];cases b <;> cases n <;> first |rfl |cases u
     .rename_i t;exact skip ⟨w,n,E,D,l,F,A,.inl t⟩ d
     .cases d
    .cases d
   .cases d
def Mc(a b:List (Ob B.D)):av B (aX a b)=av B a++av B b:=by rw[bK];simp[av]
def ab3{c n:Nat}{g:Gh}{f:Env}{a:List aO}{e:Act}{b:World}(d:Rel g c f a e b):∃h,Rel h c f (a++[⟨0,1,[],0⟩]) e b/\Bml.GStep n g a b h (a++[⟨0,1,[],0⟩]) b:=by
 obtain⟨i,j⟩:=d.m.T6 0 1 qb;exact⟨_,⟨j,d.e.step i⟩,i.every⟩
def G6{e n:Nat}{i:Env}{h:Act}{c:World}:∀(b:Nat) {g:Gh} {a:List aO},Rel g e i a h c->∃j,Rel j e i (a++av B (dx b)) h c/\Bml.GStep n g a c j (a++av B (dx b)) c
 |0,g,a,d=>⟨g,by simpa[dx,av] using d,by simpa[dx,av] using Bml.GStep.refl n g a c⟩
 |b+1,g,a,d=>by
  obtain⟨q,l,p⟩:=ab3 (n:=n) d;obtain⟨o,f,k⟩:=G6 b l;have m:a++[⟨0,1,[],0⟩]++av B (dx b)=a++av B (dx (b+1)):=by simp[dx,av,aY,xt]
  rw[m] at f k;exact⟨o,f,p.trans k⟩
def OT{d n:Nat}{j:Array Oper}{b:List Oper}{h:fE}{e:Env}{a:List (Ob B.D)}(i:Nat)(s:gp P d n j b h e (av B (aX a (dx i)))):gp P d n j b h e (av B a):=by
 intro g t o l q k;obtain⟨w,c,f⟩:=G6 (B:=B) (n:=n) i l;rw[<-Mc] at c f;exact s w t o c q λu v p m=>k u v p (eI.trans f m)
def Sf{d:Op}{c:List Nat}{b:En B.D}{a:List (Ob B.D)}:Ag d c b b a a:=⟨λ_ _=>rfl,λ_ _=>rfl,ef _⟩
def yW{nt n:Nat}{l:List Oper}{Q:fE}:∀{j:List Oper} {S:St B.D} {D:List (Option (cr B.D))} {h:St B.D},l6 P B l j S D h->(∀f,f∈j->fL nt f.dst=true)->Q .normal (aU B h.E) (av B h.H)->
 gp P nt n l.toArray j Q (aU B S.E) (av B S.H)
 |[],S,[],h,a,_,o=>by
  obtain rfl:h=S:=a;exact Of o
 |f::j,S,d::D,h,a,A,o=>by
  obtain⟨z,a⟩:=a;have u:=yW (nt:=nt) (n:=n) a (λf J=>A f (c7 _ J)) o;have s:=A f (by simp);obtain⟨e,x,q,t,w,gd⟩:=f;have y:∀{p:Bool->TV B.D->Prop},tQ l ⟨e,x,q,t,w,gd⟩ S.E p->∃g c d,gd=c5 (g,c)/\(l.toArray[g]?).bind (·.dst)=c5 d/\p c (lk S.E d):=λa=>by
   obtain⟨g,c,T,d,K,C,I,G⟩:=a;refine⟨g,c,d,K,?_,G⟩
   rw[cJ] at C;simp[C,I]
  cases d with
  |none=>
   obtain⟨g,c,d,rfl,m,k⟩:=y (p:=λc v=>v= .bu []\/∃b,v= .bool b/\b≠c) z;rcases k with k |⟨b,H,F⟩
   .refine MO m (by rw[ep,k];rfl) s ?_
    rw[show li (aU B S.E) e (.bu [])=aU B (gr S.E e (.bu [])) by rw[sx];rfl];exact u
   .refine Sk m (by rw[ep,H];rfl) F s ?_
    rw[show li (aU B S.E) e (.bu [])=aU B (gr S.E e (.bu [])) by rw[sx];rfl];exact u
  |some E=>
   obtain⟨i,L,O,M⟩:=z;have run:gp P nt n l.toArray (⟨e,x,q,t,w,ea⟩::j) Q (aU B S.E) (av B S.H):=by
    refine OT E.nw (Sz (L e q t w S.E (aX S.H (dx E.nw)) Sf) s ?_)
    rintro v N ⟨rfl,rfl⟩;rw[<-sx];exact u
   rcases i with i |i
   .obtain rfl:gd=ea:=i;exact run
   .obtain⟨g,c,d,rfl,m,k⟩:=y i;exact S7 m (by rw[ep,k];rfl) run
 |[],_,_::_,_,a,_,_=>a.elim
 |_::_,_,[],_,a,_,_=>a.elim
def alB{a:List (Ob B.D)}{b:cr B.D}:(behind a b).length=a.length+b.nw:=by
 unfold behind;rw[qy,bK,e5,qV]
def Fk{e:Type}:∀{a:List (Nat×e)} {b:List e} {i:Nat},(∀c,(i,c)∉a)->nth (b8 b a) i=nth b i
 |[],_,_,_=>rfl
 |p::a,b,i,d=>by
  rw[b8,Fk λc g=>d c (c7 _ g),cJ,cJ,iL,eH];intro f;exact d p.2 (by subst f;exact j3)
def RD{d:Type}:∀{ch:List (Nat×d)} {b:List d} {i:Nat} {c:d},nth (b8 b ch) i=c5 c->(i,c)∈ch\/nth b i=c5 c
 |[],_,_,_,a=>.inr a
 |p::ch,b,i,c,a=>by
  rcases RD (ch:=ch) a with a |a
  .exact .inl (c7 _ a)
  .rw[cJ,iL] at a
   by_cases f:p.1=i
   .subst f;rcases hI p.1 b.length with e |e
    .rw[ev e] at a;injection a with a
     subst a;exact .inl j3
    .rw[ga (by rw[h6];exact e)] at a;cases a
   .rw[eH f, <-cJ] at a;exact .inr a
def td{d:Nat->Type}(e:En d)(a:Option Nat)(v:TV d)(b:Nat):lk (gr e a v) b=if a=c5 b then v else lk e b:=by
 cases a with
 |none=>simp[gr]
 |some a=>
  simp only[gr,lk]
  by_cases c:a=b
  .subst c;simp[hQ]
  .have:fe a b=false:=by
    cases f:fe a b with
    |false=>rfl
    |true=>exact absurd (beq_eq f) c
   simp[this,c]
def ah1{k:List Nat}{t:List Oper}{c:Oper}{b:St B.D}{a:Option (cr B.D)}(j:Ij P B t c b a)(q:∀m,c.dst=c5 m->m∈k):Ext k b (qo c b a):=by
 have p:∀v a,a∉k->lk (gr b.E c.dst v) a=lk b.E a:=λv a f=>by
  rw[td,if_neg];intro o;exact f (q a o)
 cases a with
 |none=>exact⟨λa f=>p _ a f,ef _,λi l c j e=>by
  have e:nth b.H i=c5 c:=e;rw[j] at e;injection e with e;subst e;exact⟨ef _,λ_=>rfl⟩⟩
 |some g=>
  obtain⟨_,_,s,_⟩:=j;refine⟨λa f=>p _ a f,by show b.H.length<=(behind b.H g).length;rw[alB];omega,λi l c h0 h=>?_⟩
  have h:nth (b8 (aX b.H (dx g.nw)) g.wr) i=c5 c:=h;rcases RD h with d |d
  .have:=(s i c d).2 l h0;exact⟨by omega,λo=>by omega⟩
  .have:=Dy (n:=g.nw) h0;rw[this] at d;injection d with d
   subst d;exact⟨ef _,λ_=>rfl⟩
def Pe{i:List Nat}{k:List Oper}:∀{e:List Oper} {d:St B.D} {f:List (Option (cr B.D))} {c:St B.D},l6 P B k e d f c->(∀b,b∈e->∀h,b.dst=c5 h->h∈i)->Ext i d c
 |[],d,[],c,a,_=>by obtain rfl:c=d:=a;exact .refl _ _
 |b::e,d,l::f,c,a,g=>(ah1 a.1 (g b (by simp))).trans (Pe a.2 λb j=>g b (c7 _ j))
 |[],_,_::_,_,a,_=>a.elim
 |_::_,_,[],_,a,_=>a.elim
end
section
variable {P:Program}{B:Tb}
def gT{a:Nat->Type}:List Oper->List (Option (cr a))->Nat->St a->St a
 |f::e,d::c,i+1,b=>gT e c i (qo f b d)
 |_,_,_,b=>b
def wq{a:Nat->Type}:Option (cr a)->TV a
 |some b=>b.val
 |none=>.bu []
def jM{a:Nat->Type}:Option (cr a)->List (Nat×Ob a)
 |some b=>b.wr
 |none=>[]
def xL{a:Nat->Type}:Option (cr a)->Nat
 |some b=>b.nw
 |none=>0
def jH{c:Nat->Type}:List (Option (cr c))->Nat
 |[]=>0
 |a::b=>xL a+jH b
def gN{b:Nat->Type}(c:Nat->Bool):Nat->List Oper->List (Option (cr b))->En b->En b
 |d,h::g,f::e,a=>gN c (d+1) g e (if c d then gr a h.dst (wq f) else a)
 |_,_,_,a=>a
def eA{b:Nat->Type}(c:Nat->Bool):Nat->List (Option (cr b))->List (Ob b)->List (Ob b)
 |d,f::e,a=>eA c (d+1) e (if c d then b8 a (jM f) else a)
 |_,_,a=>a
def Td{b:Nat->Type}(d:Oper)(c:St b)(a:Option (cr b)):(qo d c a).E=gr c.E d.dst (wq a):=by cases a <;> rfl
def LO{j:List Oper}:∀{b:List Oper} {d:St B.D} {c:List (Option (cr B.D))} {e:St B.D},l6 P B j b d c e->
 c.length=b.length/\gT b c b.length d=e/\∀(i:Nat) (h:Oper),b[i]?=c5 h->∃f,c[i]?=c5 f/\Ij P B j h (gT b c i d) f
 |[],d,[],e,a=>⟨rfl,by have a:e=d:=a;rw[a];rfl,by simp⟩
 |h::b,d,f::c,e,a=>by
  obtain⟨k,o,l⟩:=LO a.2;refine⟨by simp[k],o,λi n g=>?_⟩
  cases i with
  |zero=>
   simp at g;subst g;refine⟨f,rfl,?_⟩
   have:=a.1;simpa[gT] using this
  |succ i=>
   obtain⟨m,p,q⟩:=l i n (by simpa using g);exact⟨m,by simpa using p,q⟩
 |[],_,_::_,_,a=>a.elim
 |_::_,_,[],_,a=>a.elim
def RW{f:Nat->Type}:∀{l:List Oper} {ts:List (Option (cr f))} {i:Nat} {S:St f} {e:Oper} {d:Option (cr f)},l[i]?=c5 e->ts[i]?=c5 d->gT l ts (i+1) S=qo e (gT l ts i S) d
 |g::l,b::ts,0,S,e,d,c,a=>by
  simp at c a;subst c;subst a;cases l <;> cases ts <;> rfl
 |g::l,b::ts,i+1,S,e,d,c,a=>by
  have:=RW (l:=l) (ts:=ts) (i:=i) (S:=qo g S b) (by simpa using c) (by simpa using a);exact this
 |[],_,_,_,_,_,c,_=>by simp at c
 |_::_,[],_,_,_,_,_,a=>by simp at a
def vg{k:Nat->Type}{n m:Nat->Bool}{d:Nat}:∀(i:List Oper) (c:Nat) (j:List (Option (cr k))) (a l:En k),(∀e h,i[e]?=c5 h->h.dst=c5 d->n (c+e)=m (c+e))->lk a d=lk l d->lk (gN n c i j a) d=lk (gN m c i j l) d
 |[],_,_,_,_,_,g=>by simpa[gN] using g
 |_::_,_,[],_,_,_,g=>by simpa[gN] using g
 |h::i,c,v::j,a,l,o,g=>by
  simp only[gN];refine vg i (c+1) j _ _ (λe q r f=>by
   have:=o (e+1) q (by simpa using r) f
   rwa [show c+(e+1)=c+1+e by omega] at this) ?_
  by_cases f:h.dst=c5 d
  .have h0:=o 0 h rfl f;simp only[hS] at h0;rw[h0]
   split
   .rw[td,td,if_pos f,if_pos f]
   .exact g
  .have p:∀(b:Bool) (a:En k),lk (if b=true then gr a h.dst (wq v) else a) d=lk a d:=λb a=>by
    split
    .rw[td,if_neg f]
    .rfl
   rw[p,p,g]
def IR{f:Nat->Type}{h:Nat->Bool}:∀(e:List Oper) (a:Nat) (d:List (Option (cr f))) (c:En f),(∀b,a<=b->h b=false)->gN h a e d c=c
 |[],_,_,_,_=>by simp[gN]
 |_::_,_,[],_,_=>by simp[gN]
 |i::e,a,v::d,c,g=>by
  simp only[gN];rw[g a (ef _)];exact IR e (a+1) d c λb j=>g b (by omega)
def Nt{e:Nat->Type}:∀(i a:Nat) (d:List Oper) (b:List (Option (cr e))) (c:St e),gN (λf=>c3 (f<a+i)) a d b c.E=(gT d b i c).E
 |0,a,d,b,c=>by
  rw[IR d a b c.E λf j=>by simp;omega];cases d <;> cases b <;> rfl
 |i+1,a,[],b,c=>by cases b <;> rfl
 |i+1,a,_::_,[],c=>rfl
 |i+1,a,h::d,g::b,c=>by
  simp only[gN,gT];rw[if_pos (by simp), <-Td];have:=Nt i (a+1) d b (qo h c g);rw[show a+1+i=a+(i+1) by omega] at this;exact this
def xq{d:Nat->Type}{e:Nat->Bool}:∀(a:List (Option (cr d))) (c:Nat) (b:List (Ob d)),(eA e c a b).length=b.length
 |[],_,_=>rfl
 |f::a,c,b=>by
  simp only[eA];rw[xq a (c+1)]
  split
  .exact qy _ _
  .rfl
def O2{c:Type}{b:List (Nat×c)}{i:Nat}{e:c}(a:(i,e)∈b):i∈eV b:=by
 induction b with
 |nil=>cases a
 |cons g b f=>
  rcases dd.1 a with d |a
  .simp[eV, <-d]
  .simp[eV,f a]
def Fu{f:Type}:∀{ch:List (Nat×f)} {a c:List f} {i:Nat},a.length=c.length->nth a i=nth c i->nth (b8 a ch) i=nth (b8 c ch) i
 |[],_,_,_,_,b=>b
 |p::ch,a,c,i,g,b=>by
  refine Fu (ch:=ch) (by rw[iL,iL,h6,h6,g]) ?_
  rw[cJ,cJ] at b;rw[cJ,cJ,iL,iL]
  by_cases e:p.1=i
  .subst e;rcases hI p.1 a.length with d |d
   .rw[ev d,ev (by omega)]
   .rw[ga (by rw[h6];exact d),ga (by rw[h6];omega)]
  .rw[eH e,eH e,b]
def vT{k:Nat->Type}{q m:Nat->Bool}{i:Nat}:∀(f:List (Option (cr k))) (c:Nat) (h j:List (Ob k)),h.length=j.length->(∀d e,f[d]?=c5 e->i∈eV (jM e)->q (c+d)=m (c+d))->nth h i=nth j i->nth (eA q c f h) i=nth (eA m c f j) i
 |[],_,_,_,_,_,g=>g
 |e::f,c,h,j,n,p,g=>by
  simp only[eA];have len:∀(b:Bool) (a:List (Ob k)),(if b=true then b8 a (jM e) else a).length=a.length:=λb a=>by
   split
   .exact qy _ _
   .rfl
  refine vT f (c+1) _ _ (by rw[len,len,n]) (λd r t l=>by
   have:=p (d+1) r (by simpa using t) l
   rwa [show c+(d+1)=c+1+d by omega] at this) ?_
  by_cases l:i∈eV (jM e)
  .have h0:=p 0 e rfl l;simp only[hS] at h0;rw[h0]
   split
   .exact Fu n g
   .exact g
  .have o:∀(b:Bool) (a:List (Ob k)),nth (if b=true then b8 a (jM e) else a) i=nth a i:=λb a=>by
    split
    .exact Fk λu s=>l (O2 s)
    .rfl
   rw[o,o,g]
def vP{e:Nat->Type}{g:Nat->Bool}:∀(d:List (Option (cr e))) (a:Nat) (c:List (Ob e)),(∀b,a<=b->g b=false)->eA g a d c=c
 |[],_,_,_=>rfl
 |h::d,a,c,f=>by
  simp only[eA];rw[f a (ef _)];exact vP d (a+1) c λb i=>f b (by omega)
def PZ{f:Type}:∀{c:List (Nat×f)} {a b:List f},(∀i d,(i,d)∈c->i<a.length)->b8 (aX a b) c=aX (b8 a c) b
 |[],_,_,_=>rfl
 |p::c,a,b,e=>by
  have h:me (aX a b) p.1 p.2=aX (me a p.1 p.2) b:=by
   rw[iL,iL,bK,bK,List.set_append_left _ _ (e p.1 p.2 j3)]
  rw[b8,h,PZ λi d g=>by rw[iL,h6];exact e i d (c7 _ g)]
  rfl
def MM{c:Nat->Type}(a b:Nat):(dx (a+b):List (Ob c))=aX (dx a) (dx b):=by
 induction a with
 |zero=>rw[e6];rfl
 |succ a d=>rw[show a+1+b=(a+b)+1 by omega];simp[dx,aX,d]
def QS{v:List Oper}:∀(i d:Nat) {f:List Oper} {b:St B.D} {a:List (Option (cr B.D))} {j:St B.D} {m:Nat},l6 P B v f b a j->i<=f.length->
 ∃h,eA (λp=>c3 (p<d+i)) d a (aX b.H (dx (m+jH a)))=aX (gT f a i b).H (dx (m+h))/\(∀g,a[i]?=c5 g->xL g<=h)/\(i=f.length->h=0)
 |0,d,[],b,[],j,m,c,_=>⟨0,by simp[eA,jH,gT],by simp,λ_=>rfl⟩
 |0,d,o::f,b,g::a,j,m,c,_=>⟨jH (g::a),by rw[vP _ _ _ λp w=>by simp;omega];rfl,λq k=>by
  simp at k;subst k;simp[jH],λc=>by simp at c⟩
 |i+1,d,o::f,b,g::a,j,m,c,n=>by
  obtain⟨h,t,s,r⟩:=QS i (d+1) (m:=m) c.2 (by simpa using n);refine⟨h,?_,λq k=>s q (by simpa using k),λl=>r (by simpa using l)⟩
  simp only[eA,gT];rw[if_pos (by simp), <-t,show d+1+i=d+(i+1) by omega]
  congr 1
  cases g with
  |none=>simp[jM,b8,qo,jH,xL]
  |some e=>
   have l:(m+jH (c5 e::a))=e.nw+(m+jH a):=by simp[jH,xL];omega
   rw[l,MM];show b8 (aX b.H (aX (dx e.nw) (dx (m+jH a)))) e.wr=aX (behind b.H e) (dx (m+jH a))
   rw[show aX b.H (aX (dx e.nw) (dx (m+jH a)))=aX (aX b.H (dx e.nw)) (dx (m+jH a)) by simp[bK]];rw[PZ λi o u=>by
    have:=(c.1.2.2.1 i o u).1;rw[bK,e5,qV];exact this]
   rfl
 |i+1,d,[],b,a,j,m,c,n=>by simp at n
 |_,_,[],_,_::_,_,_,c,_=>c.elim
 |_,_,_::_,_,[],_,_,c,_=>c.elim
def tD{b c:List Nat}{d:Nat}(a:d∈b)(f:d∈c):meets b c=true:=by
 induction b with
 |nil=>cases a
 |cons g b h=>
  simp only[meets];cases e:has c g with
  |true=>rfl
  |false=>
   rcases dd.1 a with rfl |a
   .exact absurd f (nA e)
   .exact h a
def Ny{g:List Oper}{j:Lg}{k:Nat}:∀{d:List Lg} {c i:Nat} {b:Lg},vK g j k c d=true->d[i]?=c5 b->mm j b=true->before g (len g) (c+i) k=true
 |[],_,_,_,_,a,_=>by simp at a
 |b::d,c,0,m,a,e,f=>by
  simp at e;subst e;simp only[vK] at a;obtain⟨h,_⟩:=fu a;rw[f] at h;exact h
 |b::d,c,i+1,m,a,e,f=>by
  simp only[vK] at a;obtain⟨_,l⟩:=fu a;have:=Ny l (by simpa using e) f;rw[show c+(i+1)=c+1+i by omega];exact this
def Jn{g:List Oper}:∀{f pre:List Lg} {d:Nat},n4 g pre d f=true->pre.length=d->∀i e c b,d<=i->(pre++f)[i]?=c5 e->(pre++f)[c]?=c5 b->c<i->mm e b=true->before g (len g) c i=true
 |[],pre,d,_,l,i,e,c,b,q,a,_,_,_=>by
  have:=c9 a;simp at this;omega
 |r::f,pre,d,j,l,i,e,c,b,q,a,h,n,k=>by
  simp only[n4] at j;obtain⟨m,o⟩:=fu j
  by_cases p:i=d
  .subst p;rw[dk (by omega)] at a;rw[show i -pre.length=0 by omega] at a;simp at a;subst a;rw[dt (by omega)] at h;have:=Ny m h k
   rwa [e6] at this
  .refine Jn (pre:=aX pre [r]) o (by simp[bK,l]) i e c b (by omega) ?_ ?_ n k
   .rw[bK,dv];exact a
   .rw[bK,dv];exact h
def IG{b:Edge}:∀{d:List Edge},b∈d->m1 .any b=true->b.on∈iw d
 |e::d,a,c=>by
  simp only[iw];rcases dd.1 a with rfl |a
  .rw[c];simp
  .cases m1 .any e with
   |true=>simp[IG a c]
   |false=>simpa using IG a c
 |[],a,_=>by cases a
def G3{h:Nat}:∀{f:List Edge},h∈iw f->∃b,b∈f/\m1 .any b=true/\b.on=h
 |g::f,a=>by
  simp only[iw] at a;cases e:m1 .any g with
  |true=>
   rw[e] at a;rcases dd.1 a with rfl |a
   .exact⟨g,by simp,e,rfl⟩
   .obtain⟨b,c,d⟩:=G3 a;exact⟨b,c7 _ c,d⟩
  |false=>
   rw[e] at a;obtain⟨b,c,d⟩:=G3 a;exact⟨b,c7 _ c,d⟩
 |[],a=>by cases a
def JZ{p:Nat->Bool}:∀{c:List Nat},oF p c=true->∃b,b∈c/\p b=true
 |e::c,a=>by
  simp only[oF] at a;cases d:p e with
  |true=>exact⟨e,by simp,d⟩
  |false=>
   rw[d] at a;obtain⟨b,f,g⟩:=JZ a;exact⟨b,c7 _ f,g⟩
 |[],a=>by cases a
def RV{p:Nat->Bool}:∀{e:List Nat},oF p e=false->∀b,b∈e->p b=false
 |f::e,a,b,c=>by
  simp only[oF] at a;cases d:p f with
  |true=>rw[d] at a;cases a
  |false=>
   rw[d] at a;rcases dd.1 c with rfl |c
   .exact d
   .exact RV a b c
def I7{l:List Oper}{e:Nat->Bool}(h:∀i b,l[i]?=c5 b->e i=true->∀d,d∈iw b.after.toList->e d=true):∀{f i c:Nat},before l f i c=true->e c=true->e i=true
 |0,_,_,a,_=>by simp[before] at a
 |f+1,i,c,a,o=>by
  simp only[before] at a
  split at a
  .rename_i b k;rw[cJ] at k;have g:=h c b k o;cases j:has (iw b.after.toList) i with
   |true=>exact g i ((oO _ _).1 j)
   |false=>
    rw[j] at a;obtain⟨d,m,n⟩:=JZ a;exact I7 h n (g d m)
  .cases a
def U6{e:List Oper}{d:Nat->Bool}(l:∀i b,e[i]?=c5 b->d i=true->∀a,a∈iw b.after.toList->d a=true){f i h:Nat}{b:Oper}(n:e[h]?=c5 b)(j:∀a,a∈iw b.after.toList->d a=true)(c:before e f i h=true):d i=true:=by
 cases f with
 |zero=>simp[before] at c
 |succ f=>
  simp only[before,cJ,n] at c;cases g:has (iw b.after.toList) i with
  |true=>exact j i ((oO _ _).1 g)
  |false=>
   rw[g] at c;obtain⟨a,k,m⟩:=JZ c;exact I7 l m (j a k)
def Ns:∀{f:List Oper} {c i:Nat} {g:Oper},m7 c f=true->f[i]?=c5 g->∀b,b∈iw g.after.toList->b<c+i
 |j::f,c,0,g,a,d,b,h=>by
  simp at d;subst d;simp only[m7] at a;cases e:oF (λb=>m5 c b) (iw j.after.toList) with
  |true=>rw[e] at a;cases a
  |false=>
   have:=RV e b h;rw[hS];rcases hI b c with a |a
   .exact a
   .rw[hM a] at this;cases this
 |j::f,c,i+1,g,a,d,b,h=>by
  simp only[m7] at a;cases e:oF (λb=>m5 c b) (iw j.after.toList) with
  |true=>rw[e] at a;cases a
  |false=>
   rw[e] at a;have:=Ns a (by simpa using d) b h;omega
 |[],_,_,_,_,d,_,_=>by simp at d
def vZ{f:Nat->Type}{all:List Oper}:∀{l:List Oper} {ts:List (Option (cr f))} {i:Nat} {e:Oper} {d:Option (cr f)},l[i]?=c5 e->ts[i]?=c5 d->(mF all l ts)[i]?=c5 (fG all e d)
 |g::l,b::ts,0,e,d,c,a=>by simp at c a;subst c;subst a;rfl
 |g::l,b::ts,i+1,e,d,c,a=>by
  have:=vZ (all:=all) (l:=l) (ts:=ts) (i:=i) (by simpa using c) (by simpa using a);simpa[mF] using this
 |[],_,_,_,_,c,_=>by simp at c
 |_::_,[],_,_,_,_,a=>by simp at a
def J8{c:Type}:∀(a b:List c),nf a b=a.reverse++b
 |[],_=>rfl
 |d::a,b=>by simp[nf,J8 a]
end
def countP_set{b i:Nat}{p q:Nat->Bool}(k:i<b)(f:p i=false)(h:q i=true)(c:∀a,a<b->a≠i->p a=q a):(gv b).countP q=(gv b).countP p+1:=by
 induction b with
 |zero=>omega
 |succ b j=>
  rw[List.range_succ,p4,p4]
  by_cases e:i=b
  .subst e;rw[List.countP_congr (l:=gv i) (p:=q) (q:=p) λa d=>by rw[c a (by have:=hL.1 d;omega) (by have:=hL.1 d;omega)]];simp[f,h]
  .rw[j (by omega) λa d g=>c a (by omega) g];have:=c b (by omega) (λc=>e c.symm);simp[List.countP_cons,this];omega
section
variable {P:Program}{B:Tb}
def LB{Y nn:Nat}{d:List Oper}{Q:fE}{u ap:St B.D}{e:List (Option (cr B.D))}(be:l6 P B d d u e ap)(bA:m7 0 d=true)(bo:n4 d [] 0 (mF d d e)=true)
 (bX:∀j,j∈d->fL Y j.dst=true) (bI:Q .normal (aU B ap.E) (av B ap.H)):∀au aI ag,Rel au Y (aU B u.E) (av B u.H) aI ag->∀X:Exit->Act->World->Prop,(∀A ac I,eI Y nn au (av B u.H) ag Q A ac I->X A ac I)->wpAny P .any d.toArray X d.toArray.size (hP d.toArray.size false) aI {ag with drawn:=ag.drawn+1}:=by
 intro au aI ag bs X bS;obtain⟨cb,bp,bk⟩:=LO be
 let n:=d.length
 let H0:=aX u.H (dx (jH e))
 have bl:∀i,i<=n->∃K,eA (λa=>c3 (a<i)) 0 e H0=aX (gT d e i u).H (dx K)/\(∀o,e[i]?=c5 o->xL o<=K)/\(i=n->K=0):=λi J=>by
  obtain⟨K,x,y,aP⟩:=QS i 0 (m:=0) be J;rw[e6,e6,e6] at x;exact⟨K,x,y,aP⟩
 have aC:∀i,gN (λa=>c3 (a<i)) 0 d e u.E=(gT d e i u).E:=λi=>by
  have:=Nt i 0 d e u
  rwa [e6] at this
 let Inv:Array Bool->Act->World->Prop:=λbN h w=>bN.size=n/\(∀i j,d[i]?=c5 j->bN.getD i false=true->∀m,m∈iw j.after.toList->bN.getD m false=true)/\
  ∃g,Rel g Y (aU B (gN (λa=>bN.getD a false) 0 d e u.E)) (av B (eA (λa=>bN.getD a false) 0 e H0)) h w/\Bml.GStep nn au (av B u.H) ag g (av B (eA (λa=>bN.getD a false) 0 e H0)) w
 have bH:∀{g:Gh} {N:List aO} {h:Act} {w:World} {a8 bh:En B.D},fI g N w Y (aU B a8) h->(∀o,lk bh o=lk a8 o)->fI g N w Y (aU B bh) h:=λl A=>⟨l.defers,l.size,λo=>by rw[ep,A o, <-ep];exact l.at_ o⟩
 have bd:∀{bf a9:List (Ob B.D)},(∀i,nth bf i=nth a9 i)->bf=a9:=λl=>p6 λi=>by rw[<-cJ, <-cJ,l i]
 have fin:∀bN h w,Inv bN h w->(∀i,i<n->bN.getD i false=true)->X .normal h w:=by
  rintro bN h w ⟨V,_,g,U,ay⟩ aj;have ad:eA (λa=>bN.getD a false) 0 e H0=ap.H:=by
   obtain⟨K,x,_,aP⟩:=bl n (ef _);rw[aP rfl] at x;have:eA (λa=>bN.getD a false) 0 e H0=eA (λa=>c3 (a<n)) 0 e H0:=bd λi=>vT e 0 _ _ rfl (λa o p _=>by
    rw[e6];have:=c9 p;rw[aj a (by show a<d.length;omega)];simp;show a<d.length
    omega) rfl
   rw[this,x,bp];simp[dx,bK]
  have aG:∀o,lk ap.E o=lk (gN (λa=>bN.getD a false) 0 d e u.E) o:=λo=>by
   rw[<-bp, <-aC];refine vg d 0 e _ _ (λa j p _=>?_) rfl
   rw[e6];have:=c9 p;rw[aj a this];simpa using this
  rw[ad] at U ay;exact bS .normal h w ⟨_,_,g,bI,⟨U.m,bH U.e aG⟩,ay⟩
 have bE:∀bN:Array Bool,bN.size=n->pc .any d.toArray bN=[]->∀i,i<n->bN.getD i false=true:=by
  intro bN V W i
  induction i using o7 with
  |_ i aa=>
   intro J;cases E:bN.getD i false with
   |true=>rfl
   |false=>
    exfalso
    have G:d[i]?=c5 d[i]:=c4 J;have:i∈pc .any d.toArray bN:=by
     refine r0.2 ⟨hL.2 (by simpa using J),?_⟩
     have bP:bN.getD i true=false:=by
      have O:i<bN.size:=by omega
      simp[O] at E⊢;exact E
     simp only[bP,Bool.not_false,Bool.true_and,gy,G,l4,qa];rw[Array.all_eq_true];intro q bT;have aL:d[i].after[q]∈d[i].after:=q2 bT;cases bJ:m1 .any d[i].after[q] with
     |false=>rfl
     |true=>
      have aw:=Ns bA G _ (IG (hX.2 aL) bJ);rw[e6] at aw;simp[aa _ aw (by omega)]
    rw[W] at this;cases this
 have step:∀bN h w i j,Inv bN h w->d[i]?=c5 j->bN.getD i false=false->(∀m,m∈iw j.after.toList->bN.getD m false=true)->∀ae:Act->World->Prop,(∀ac I,Inv (bN.setIfInBounds i true) ac I->ae ac I)->wpOp P d.toArray X i ae h w:=by
  rintro bN h w i j ⟨V,aE,g,U,ay⟩ G ab bc ae bQ;have O:=c9 G;obtain⟨o,af,aF⟩:=bk i j G;have a0:∀a s k,d[a]?=c5 k->e[a]?=c5 s->a<i->mm (fG d j o) (fG d k s)=true->bN.getD a false=true:=λa s k p R aT C=>by
   have E:=Jn bo rfl i _ a _ (l2 _) (vZ G af) (vZ p R) aT C;exact U6 aE G bc E
  have a2:∀a s k,d[a]?=c5 k->e[a]?=c5 s->i<a->mm (fG d k s) (fG d j o)=true->bN.getD a false=false:=λa s k p R aT C=>by
   have E:=Jn bo rfl a _ i _ (l2 _) (vZ p R) (vZ G af) aT C;cases b9:bN.getD a false with
   |false=>rfl
   |true=>
    have:=I7 aE E b9;rw[this] at ab;cases ab
  have az:∀{h b:Lg},(∃c,c∈h.wr/\c∈b.rd)\/(∃c,c∈h.wr/\c∈b.wr)\/(∃c,c∈b.wr/\c∈h.rd)\/(∃c,c∈h.wt/\c∈b.rt)\/(∃c,c∈h.wt/\c∈b.wt)\/(∃c,c∈b.wt/\c∈h.rt)->mm h b=true:=λ{h b} l=>by
   unfold mm;rcases l with⟨c,x,y⟩ |⟨c,x,y⟩ |⟨c,x,y⟩ |⟨c,x,y⟩ |⟨c,x,y⟩ |⟨c,x,y⟩
   .rw[tD x y];rfl
   .rw[tD x y];cases meets h.wr b.rd <;> rfl
   .rw[tD x y];cases meets h.wr b.rd <;> cases meets h.wr b.wr <;> rfl
   .rw[tD x y];cases meets h.wr b.rd <;> cases meets h.wr b.wr <;> cases meets b.wr h.rd <;> rfl
   .rw[tD x y];cases meets h.wr b.rd <;> cases meets h.wr b.wr <;> cases meets b.wr h.rd <;> cases meets h.wt b.rt <;> rfl
   .rw[tD x y];cases meets h.wr b.rd <;> cases meets h.wr b.wr <;> cases meets b.wr h.rd <;> cases meets h.wt b.rt <;> cases meets h.wt b.wt <;> rfl
  have ai:∀(k:Oper) (s:Option (cr B.D)) (c:Nat),k.dst=c5 c->c∈(fG d k s).wt:=λk s c r=>by
   cases s <;> simp[fG,rV,xo,yI,r]
  have ah:∀(k:Oper) (s:Option (cr B.D)) (c:Nat),c∈eV (jM s)->c∈(fG d k s).wr:=λk s c r=>by
   cases s with
   |none=>cases r
   |some D=>exact r
  have ba:∀c,c∈(fG d j o).rt\/c∈(fG d j o).wt->∀a k,d[a]?=c5 k->k.dst=c5 c->bN.getD a false=c3 (a<i):=λc r a k p L=>by
   have a6:=c9 p;obtain⟨s,R,_⟩:=bk a k p;rcases q3 a i with l |l |l
   .have C:mm (fG d j o) (fG d k s)=true:=az (by
     rcases r with r |r
     .exact .inr (.inr (.inr (.inr (.inr ⟨c,ai k s c L,r⟩))))
     .exact .inr (.inr (.inr (.inr (.inl ⟨c,r,ai k s c L⟩)))))
    rw[a0 a s k p R l C];simp[l]
   .subst l;rw[ab];simp
   .have C:mm (fG d k s) (fG d j o)=true:=az (by
     rcases r with r |r
     .exact .inr (.inr (.inr (.inl ⟨c,ai k s c L,r⟩)))
     .exact .inr (.inr (.inr (.inr (.inl ⟨c,ai k s c L,r⟩)))))
    rw[a2 a s k p R l C];simp;omega
  have a7:∀c,c∈(fG d j o).rd\/c∈(fG d j o).wr->∀a s,e[a]?=c5 s->c∈eV (jM s)->bN.getD a false=c3 (a<i):=λc r a s R T=>by
   have a6:a<d.length:=by have:=c9 R;omega
   have p:d[a]?=c5 d[a]:=c4 a6;rcases q3 a i with l |l |l
   .have C:mm (fG d j o) (fG d d[a] s)=true:=az (by
     rcases r with r |r
     .exact .inr (.inr (.inl ⟨c,ah _ s c T,r⟩))
     .exact .inr (.inl ⟨c,r,ah _ s c T⟩))
    rw[a0 a s _ p R l C];simp[l]
   .subst l;rw[ab];simp
   .have C:mm (fG d d[a] s) (fG d j o)=true:=az (by
     rcases r with r |r
     .exact .inl ⟨c,ah _ s c T,r⟩
     .exact .inr (.inl ⟨c,ah _ s c T,r⟩))
    rw[a2 a s _ p R l C];simp;omega
  have aM:∀c,c∈(fG d j o).rt\/c∈(fG d j o).wt->lk (gN (λa=>bN.getD a false) 0 d e u.E) c=lk (gT d e i u).E c:=λc r=>by
   rw[<-aC];exact vg d 0 e _ _ (λa k p L=>by rw[e6];exact ba c r a k p L) rfl
  obtain⟨K,aQ,bx,_⟩:=bl i (Nat.le_of_lt O);have a3:∀c,c∈(fG d j o).rd\/c∈(fG d j o).wr->nth (eA (λa=>bN.getD a false) 0 e H0) c=nth (aX (gT d e i u).H (dx K)) c:=λc r=>by
   rw[<-aQ];exact vT e 0 _ _ rfl (λa s p T=>by rw[e6];exact a7 c r a s p T) rfl
  have ar:∀a,(bN.setIfInBounds i true).getD a false=if a=i then true else bN.getD a false:=λa=>by
   by_cases A:a=i
   .subst A;have:a<bN.size:=by omega
    simp[this]
   .simp[A,km (Ne.symm A)]
  have b1:∀z ok,d[z]?=c5 ok->(bN.setIfInBounds i true).getD z false=true->∀m,m∈iw ok.after.toList->(bN.setIfInBounds i true).getD m false=true:=λz ok am x m bn=>by
   rw[ar] at x⊢
   split
   .rfl
   .by_cases A:z=i
    .subst A;rw[G] at am;injection am with am
     subst am;exact bc m bn
    .rw[if_neg A] at x;exact aE z ok am x m bn
  have bw:=RW (S:=u) G af;have bz:∀c,lk (gN (λa=>(bN.setIfInBounds i true).getD a false) 0 d e u.E) c=if j.dst=c5 c then wq o else lk (gN (λa=>bN.getD a false) 0 d e u.E) c:=λc=>by
   by_cases L:j.dst=c5 c
   .rw[if_pos L];have:lk (gN (λa=>(bN.setIfInBounds i true).getD a false) 0 d e u.E) c=lk (gN (λa=>c3 (a<i+1)) 0 d e u.E) c:=vg d 0 e _ _ (λa k p aJ=>by
     rw[e6,ar]
     by_cases A:a=i
     .rw[if_pos A];simp;omega
     .rw[if_neg A,ba c (.inr (ai j o c L)) a k p aJ]
      by_cases l:a<i
      .simp[l];omega
      .have y:¬a<i+1:=by omega
       simp[l,y]) rfl
    rw[this,aC,bw,Td,td,if_pos L]
   .rw[if_neg L];refine vg d 0 e _ _ (λa k p aJ=>?_) rfl
    rw[e6,ar,if_neg];rintro rfl;rw[G] at p;injection p with p
    subst p;exact L aJ
  have aL:eA (λa=>(bN.setIfInBounds i true).getD a false) 0 e H0=b8 (eA (λa=>bN.getD a false) 0 e H0) (jM o):=bd λc=>by
   by_cases r:c∈eV (jM o)
   .have bb:c∈(fG d j o).wr:=ah j o c r;have ad:nth (eA (λa=>(bN.setIfInBounds i true).getD a false) 0 e H0) c=nth (eA (λa=>c3 (a<i+1)) 0 e H0) c:=vT e 0 _ _ rfl (λa s p T=>by
     rw[e6,ar]
     by_cases A:a=i
     .rw[if_pos A];simp;omega
     .rw[if_neg A,a7 c (.inr bb) a s p T]
      by_cases l:a<i
      .simp[l];omega
      .have y:¬a<i+1:=by omega
       simp[l,y]) rfl
    have aG:nth (eA (λa=>c3 (a<i+1)) 0 e H0) c=nth (b8 (eA (λa=>c3 (a<i)) 0 e H0) (jM o)) c:=by
     have bt:∀(e:List (Option (cr B.D))) (z i:Nat) (N:List (Ob B.D)) (o:Option (cr B.D)),e[i]?=c5 o->eA (λa=>c3 (a<z+i+1)) z e N=b8 (eA (λa=>c3 (a<z+i)) z e N) (jM o):=λe=>by
      induction e with
      |nil=>intro z i N o l;simp at l
      |cons t e aa=>
       intro z i N o l;cases i with
       |zero=>
        simp at l;subst l;simp only[eA];rw[if_pos (by simp),if_neg (by simp),vP e (z+1) _ λa p=>by simp;omega,vP e (z+1) _ λa p=>by simp;omega]
       |succ i=>
        simp only[eA];rw[if_pos (by simp;omega),if_pos (by simp)];have:=aa (z+1) i (b8 N (jM t)) o (by simpa using l);rw[show z+1+i+1=z+(i+1)+1 by omega,show z+1+i=z+(i+1) by omega] at this;exact this
     have:=bt e 0 i H0 o af;rw[e6] at this;rw[this]
    rw[ad,aG];exact Fu (by rw[xq,xq]) (by rw[a3 c (.inr bb),aQ])
   .rw[Fk λj aR=>r (O2 aR)];refine vT e 0 _ _ rfl (λa s p T=>?_) rfl
    rw[e6,ar,if_neg];rintro rfl;rw[af] at p;injection p with p
    subst p;exact r T
  have br:fL Y j.dst=true:=bX j (ej G);have done:∀(Z:Gh) (c:Value) (I:World),bF Z (av B (b8 (eA (λa=>bN.getD a false) 0 e H0) (jM o))) I->VR Z (av B (b8 (eA (λa=>bN.getD a false) 0 e H0) (jM o))) I (pv B (wq o)) c->
   Bml.GStep (av B (eA (λa=>bN.getD a false) 0 e H0)).length g (av B (eA (λa=>bN.getD a false) 0 e H0)) w Z (av B (b8 (eA (λa=>bN.getD a false) 0 e H0) (jM o))) I->ae (h.put j.dst c) I:=λZ c I aA aV al=>by
   have W:=(U.e.step al).tn br aV;rw[<-aL] at aA al W;refine bQ _ _ ⟨by simpa using V,b1,Z,⟨aA,⟨W.defers,W.size,λc=>?_⟩⟩,ay.trans al.every⟩
   rw[ep,bz c];have:=W.at_ c;rw[<-sx,ep,td] at this;exact this
  have b2:∀D,o=c5 D->j.wp P h w ae X:=λD b4=>by
   subst b4;obtain⟨_,bW,bM,b5⟩:=aF;have bV:Ag j.op (aX D.rd (eV D.wr)) (gT d e i u).E (gN (λa=>bN.getD a false) 0 d e u.E) (aX (gT d e i u).H (dx D.nw)) (eA (λa=>bN.getD a false) 0 e H0):=by
    have cd:D.nw<=K:=bx _ af;refine⟨λc r=>?_,λc r=>?_,?_⟩
    .cases c with
     |tmp t=>
      refine aM t (.inl ?_)
      show t∈aX (sZ d j) (tmpsOf j.op.operands.toList)
      rw[bK,c6];exact .inr (LD (hX.2 r))
     |const v=>rfl
     |global b=>rfl
     |func f=>rfl
    .rw[bK,c6] at r;have aw:c<(gT d e i u).H.length+D.nw:=by
      rcases r with r |r
      .have:=b5 c r;omega
      .obtain⟨b7,bO⟩:=Vc r;exact(bM c b7 bO).1
     rw[a3 c r,show K=D.nw+(K -D.nw) by omega,MM,show aX (gT d e i u).H (aX (dx D.nw) (dx (K -D.nw)))=aX (aX (gT d e i u).H (dx D.nw)) (dx (K -D.nw)) by simp[bK]];rw[cJ,cJ,bK,dt];rw[bK,e5,qV];exact aw
    .have ad:=congrArg List.length aQ;rw[xq,bK,e5,qV] at ad;rw[xq,bK,e5,qV,ad];omega
   have b3:=bW j.dst j.type j.pos j.after _ _ bV;refine b3 g Y h w U ae X ?_
   rintro c I Z cc ce ⟨rfl,rfl⟩ aV aA al;exact done Z c I aA aV al
  have bi:∀a F k t,j.guard=c5 (a,F)->nth d a=c5 k->k.dst=c5 t->t∈(fG d j o).rt:=λa F k t H p M=>by
   have:t∈sZ d j:=by simp[sZ,H,p,yI,M]
   cases o with
   |none=>exact this
   |some D=>
    show t∈aX (sZ d j) _
    rw[bK,c6];exact .inl this
  have bq:∀(g:Gh) (N:List aO) (w:World),VR g N w (.bu []) undef:=λg N w=>.aW (.bu [] [] rfl (by simp))
  have aY:∀a F k t b,j.guard=c5 (a,F)->nth d a=c5 k->k.dst=c5 t->lk (gT d e i u).E t= .bool b->yielded d.toArray h.tmps a=c5 b:=λa F k t b H p M E=>by
   have an:=U.e.at_ t;rw[ep,aM t (.inl (bi a F k t H p M)),E] at an;have aN:=an.n5;unfold yielded;rw[gy, <-cJ,p];simp only[my,M];rcases hI t h.tmps.size with ao |aD
   .simp[ao] at aN;simp[ao,aN]
   .simp[j4 aD,undef] at aN
  have ca:∀a F k t,j.guard=c5 (a,F)->nth d a=c5 k->k.dst=c5 t->lk (gT d e i u).E t= .bu []->yielded d.toArray h.tmps a=ea:=λa F k t H p M E=>by
   have an:=U.e.at_ t;rw[ep,aM t (.inl (bi a F k t H p M)),E] at an;obtain⟨ak,a5,b6,_⟩:=VR.Db an;have bD:ak=[]:=dT (by rw[<-b6];rfl);subst bD;unfold yielded;rw[gy, <-cJ,p];simp only[my,M];rcases hI t h.tmps.size with ao |aD
   .simp[ao] at a5;simp[ao,a5]
   .simp[j4 aD]
  have bL:Bml.GStep (av B (eA (λa=>bN.getD a false) 0 e H0)).length g (av B (eA (λa=>bN.getD a false) 0 e H0)) w g (av B (eA (λa=>bN.getD a false) 0 e H0)) w:=Bml.GStep.refl _ _ _ _;unfold wpOp;rw[gy,G];simp only;cases o with
  |some D=>
   have aH:k7 j (yielded d.toArray h.tmps)=true:=by
    rcases aF.1 with H |⟨a,F,k,t,H,p,M,E⟩
    .simp[k7,H]
    .simp[k7,H,aY a F k t F H p M E]
   rw[aH];exact .inl (b2 D rfl)
  |none=>
   obtain⟨a,F,k,t,H,p,M,C⟩:=aF;have aH:k7 j (yielded d.toArray h.tmps)=false:=by
    rcases C with C |⟨b,E,aB⟩
    .simp[k7,H,ca a F k t H p M C]
    .simp[k7,H,aY a F k t b H p M E,aB]
   rw[aH];simp only[Bool.false_eq_true,if_false];exact done g undef w U.m (bq _ _ _) bL
 have bR:∀(aq:Nat) (bN:Array Bool) (h:Act) (w:World),Inv bN h w->(gv n).countP (λa=>bN.getD a false)+aq=n->wpAny P .any d.toArray X aq bN h w:=by
  intro aq
  induction aq with
  |zero=>
   intro bN h w J C;have aj:∀i,i<n->bN.getD i false=true:=λi O=>by
    have bZ:(gv n).countP (λa=>bN.getD a false)=(gv n).length:=by rw[List.length_range];omega
    exact List.countP_eq_length.1 bZ i (hL.2 O)
   refine⟨?_,fin bN h w J aj⟩
   unfold pc;refine List.filter_eq_nil_iff.2 λi aK=>?_
   have O:i<n:=by simpa using aK
   have a1:=aj i O;have:bN.getD i true=true:=by
    have V:i<bN.size:=by have:=J.1;omega
    simp[V] at a1⊢;exact a1
   simp[this]
  |succ aq aa=>
   intro bN h w J C;refine⟨λW=>fin bN h w J (bE bN J.1 W),λi bU=>?_⟩
   have bj:=r0.1 bU;have O:i<n:=by simpa using bj.1
   have G:d[i]?=c5 d[i]:=c4 O;have aS:=bj.2;simp only[gy,G,l4,qa,j2,Bool.not_eq_true'] at aS;have ab:bN.getD i false=false:=by
    have x:=aS.1;have V:i<bN.size:=by have:=J.1;omega
    simp[V] at x⊢;exact x
   refine step bN h w i d[i] J G ab (λm bC=>?_) _ (λac I aK=>aa _ ac I aK ?_)
   .obtain⟨A,b0,E,rfl⟩:=G3 bC;have y:=Array.all_eq_true'.1 aS.2 A (hX.1 b0);simpa[E] using y
   .have:(gv n).countP (λa=>(bN.setIfInBounds i true).getD a false)=(gv n).countP (λa=>bN.getD a false)+1:=by
     refine countP_set O ab ?_ λa p aB=>?_
     .have V:i<bN.size:=by have:=J.1;omega
      simp[V]
     .simp[km (Ne.symm aB)]
    omega
 obtain⟨bB,x,bm⟩:=G6 (B:=B) (n:=nn) (jH e) bs;rw[<-Mc] at x bm;obtain⟨aZ,bv⟩:=Ez (m:=(av B (aX u.H (dx (jH e)))).length) x.m;have ax:∀a,(hP d.toArray.size false).getD a false=false:=λa=>by
  rcases hI a d.length with l |l
  .simp[l]
  .simp[j4,l]
 have bY:gN (λa=>(hP d.toArray.size false).getD a false) 0 d e u.E=u.E:=IR _ _ _ _ λa _=>ax a
 have a4:eA (λa=>(hP d.toArray.size false).getD a false) 0 e H0=H0:=vP _ _ _ λa _=>ax a
 refine bR _ _ _ _ ⟨by simp[n],λi j J l=>?_,bB,?_,?_⟩ ?_
 .rw[ax] at l;cases l
 .rw[bY,a4];exact⟨bv,x.e.step aZ⟩
 .rw[a4];exact bm.trans aZ.every
 .have:(gv n).countP (λa=>(hP d.toArray.size false).getD a false)=0:=by
   rw[List.countP_eq_zero];intro a _;rw[ax];simp
  rw[this];simp[n]
where
 LD {t:Nat}:∀{ak:List Operand},Operand.tmp t∈ak->t∈tmpsOf ak
  |c::ak,l=>by
   rcases dd.1 l with rfl |l
   .simp[tmpsOf]
   .have:=LD l;cases c <;> simp[tmpsOf,this]
  |[],l=>by cases l
 Vc {α:Type} {d:List (Nat×α)} {i:Nat} (l:i∈eV d):∃j,(i,j)∈d:=by
  induction d with
  |nil=>cases l
  |cons h d aa=>
   rcases dd.1 l with rfl |l
   .exact⟨h.2,by simp⟩
   .obtain⟨j,aR⟩:=aa l;exact⟨j,c7 _ aR⟩
def abH{e nn id:Nat}{a:List Oper}{Q:fE}{b c:St B.D}{d:List (Option (cr B.D))}(i:P.follows .mixedOrders=true)(h:l6 P B a a b d c)(k:m7 0 a=true)(j:n4 a [] 0 (mF a a d)=true)
 (q:∀f,f∈a->fL e f.dst=true) (o:Q .normal (aU B c.E) (av B c.H)):eT P e nn (.region id a.toArray true) Q (aU B b.E) (av B b.H):=λg p m r n l=>wp_region_any i (LB h k j q o g p m r n l)
end
end Go.X
namespace Go.Bml
open Go
def LW(P:Program)(c:Code)(Q:Exit->Act->World->Prop)(a:Act)(w:World):Prop:=
 ∀b g f,∃e d h,Q e d h/\Arrives P (lone (b.at a (.code c:: .inLoop c::g)) f w) b g f e d h
section
variable {P:Program}{Q:Exit->Act->World->Prop}{a:Act}{w:World}{c:Code}
def UU(e:LW P c Q a w):(Code.loop c).wp P Q a w:=by
 intro b h g;obtain⟨f,d,i,j,k⟩:=e b h g;exact⟨f,d,i,j,.of_steps (.one step_loop) k⟩
def NU(q:c.wp P (Exit.then (LW P c Q) Q) a w):LW P c Q a w:=by
 intro b i h;obtain⟨p,g,f,d,e⟩:=q b (.inLoop c::i) h;cases p with
 |normal=>
  obtain⟨j,m,k,l,o⟩:=d b i h;exact⟨j,m,k,l,.of_steps (Steps.trans e (.one step_inLoop)) o⟩
 |exit s=>exact⟨_,g,f,d,.pass (x:=.inLoop c) rfl (λ_ _=>.inl (by simp)) e⟩
 |goto t=>exact⟨_,g,f,d,.pass (x:=.inLoop c) rfl (λ_ _=>.inl (by simp)) e⟩
 |ret=>exact⟨_,g,f,d,.pass (x:=.inLoop c) rfl (λ_ _=>.inl (by simp)) e⟩
 |panic r=>exact⟨_,g,f,d,.pass (x:=.inLoop c) rfl (λ_ _=>.inl (by simp)) e⟩
 |outgrown=>exact⟨_,g,f,d,.pass (x:=.inLoop c) rfl (λ_ _=>.inl (by simp)) e⟩
def ad3(g:Nat->Act->World->Prop)(round:∀n a w,g n a w->c.wp P (Exit.then (λe f=>∃d,d<n/\g d e f) Q) a w):∀n a w,g n a w->LW P c Q a w:=by
 intro n
 induction n using o7 with
 |_ n l=>
  intro a w j;refine NU (Code.wp_mono (λk e f b=>?_) (round n a w j))
  cases k with
  |normal=>
   obtain⟨d,h,i⟩:=b;exact l d h e f i
  |exit o=>exact b
  |goto p=>exact b
  |ret=>exact b
  |panic m=>exact b
  |outgrown=>exact b
end
section
variable {P:Program}{nt n:Nat}{Q:fE}{E:Env}{H:List aO}
def oE(P:Program)(nt n:Nat)(c:Code)(Q:fE)(E:Env)(H:List aO):Prop:=
 ∀g a w,Rel g nt E H a w->∀e:Exit->Act->World->Prop,(∀f d b,eI nt n g H w Q f d b->e f d b)->LW P c e a w
def Pz{c:Code}(b:oE P nt n c Q E H):eT P nt n (.loop c) Q E H:=λg a w e d f=>UU (b g a w e d f)
def oE.mono{c:Code}{d:fE}(h:oE P nt n c Q E H)(s:∀e E H,Q e E H->d e E H):oE P nt n c d E H:=λg a w m t l=>h g a w m t λe k o j=>l e k o (by cases e <;> first |exact iX.mono (s _) j |exact j)
def aiK{c:Code}(o:eT P nt n c (Ce (oE P nt n c Q) Q) E H):oE P nt n c Q E H:=by
 intro g a w i l d;refine NU (o g a w i _ ?_)
 intro e k f b;cases e with
 |normal=>
  obtain⟨u,v,m,q,h,s⟩:=b;exact q m k f h l λe r p j=>d e r p (eI.trans s j)
 |exit x=>exact d _ _ _ b
 |goto t=>exact d _ _ _ b
 |ret=>exact d _ _ _ b
 |panic c=>exact b.elim
 |outgrown=>exact b.elim
def QG{α:Type}{c:Code}(i:α->qk)(h:α->Nat)(o:α)(h0:i o E H)
 (round:∀b E H,i b E H->eT P nt n c (Ce (λp m=>∃f,h f<h b/\i f p m) Q) E H):oE P nt n c Q E H:=by
 intro g a w t K k;refine ad3 (λr q l=>∃b,h b=r/\iX nt n g H w (i b) q l) ?_ (h o) a w ⟨o,rfl,E,H,g,h0,t,GStep.refl _ _ _ _⟩
 rintro r q l ⟨b,rfl,p,m,x,A,C,j⟩;refine round b p m A x q l C _ ?_
 intro e J I d;cases e with
 |normal=>
  obtain⟨z,B,y,⟨f,F,v⟩,s,G⟩:=d;exact⟨h f,F,f,rfl,z,B,y,v,s,j.trans G⟩
 |exit D=>exact k _ _ _ (eI.trans (Q:=Q) (e:=.exit D) j d)
 |goto u=>exact k _ _ _ (eI.trans (Q:=Q) (e:=.goto u) j d)
 |ret=>exact k _ _ _ (eI.trans (Q:=Q) (e:=.ret) j d)
 |panic c=>exact d.elim
 |outgrown=>exact d.elim
end
end Go.Bml
namespace Go.X
open Go Go.Aml Go.Bml
def Tl{P:Program}{c d:Nat}{s:Code}{o l:fE}{q:Env}{f:List aO}(n:eT P c d s o q f)
 (z:∀a r m g i b,o a r m->Rel g c r m i b->∃e H2 j,l a e H2/\Rel j c e H2 i b/\Bml.GStep d g m b j H2 b):eT P c d s l q f:=by
 intro g i b u A t;refine n g i b u A λa k h p=>t a k h ?_
 have v:∀a,iX c d g f b (o a) k h->iX c d g f b (l a) k h:=λa n=>by
  obtain⟨G,H1,F,C,x,w⟩:=n;obtain⟨e,H2,j,D,y,E⟩:=z a G H1 F k h C x;exact⟨e,H2,j,D,y,w.trans E⟩
 cases a <;> first |exact v _ p |exact p
def Tc{f j:Nat->Nat->Prop}(e:∀r v,f r v->j r v){k:PV}(o:Wf f k):Wf j k:=by
 induction o with
 |any=>exact .any
 |bool b=>exact .bool b
 |int s t=>exact .int s t
 |str p=>exact .str p
 |fS=>exact .fS
 |bg=>exact .bg
 |z0=>exact .z0
 |dB=>exact .dB
 |dw a h=>exact .dw a h
 |vs m l=>exact .vs m l
 |ptr r v i h c=>exact .ptr r v i h (e _ _ c)
 |sl r v u len c=>exact .sl r v u len (e _ _ c)
 |fl r v c=>exact .fl r v (e _ _ c)
 |agg a _ d=>exact .agg a d
 |bu a _ d=>exact .bu a d
 |fn g a n _ _ d q=>exact .fn g a n d q
section
variable {P:Program}{B:Tb}
def Q8{p:Nat}{g:Gh}{c:St B.D}{s:Act}{m:World}(k:Rel g p (aU B c.E) (av B c.H) s m):Cz B c:=by
 have conv:∀r v,(∃d,(av B c.H)[r]?=c5 d/\v<=d.aF)->F0 c.H r v:=λr v ⟨d,e,h⟩=>by
  obtain⟨o,a,rfl⟩:=oU e;exact⟨o,a,by rwa [e7] at h⟩
 refine⟨λt=>?_,λq d i l u e f=>?_⟩
 .have:=(k.e.at_ t).wf;rw[ep] at this;exact Tc conv this
 .have a:=(k.m.obj q _ (df e)).mem;cases j:g.β q with
  |none=>
   rw[j] at a;rw[a] at f;obtain⟨A,x,_⟩:=gw f;simp at x
  |some n=>
   obtain⟨b,z⟩:=n;rw[j] at a;obtain⟨_,cells,_,_,_,_,w⟩:=a;obtain⟨y,_,_,h⟩:=w i l u f;exact Tc conv h.wf
def DH(q:cU P B){n:Type}{r:n}{k i:Nat}{a d:St B.D}{b:List Nat}{p:lD}{j:bi B.D p.bX->Option n}(x:Ext b a d)(y:i<=a.H.length)(z:Cz B a)(w:nW B i a b p d j=c5 r){g:Gh}{l:Act}{f:World}(e:Rel g k (aU B d.E) (av B d.H) l f):
 ∃c,j c=c5 r/\Ext b a (ik B a b p c)/\∃h,Rel h k (aU B (ik B a b p c).E) (av B (ik B a b p c).H) l f/\Bml.GStep i g (av B d.H) f h (av B (ik B a b p c).H) f:=by
 obtain⟨c,v,t,h,s,o,u⟩:=UJ q x y z w e.m;exact⟨c,v,t,h,⟨s,e.e.defers,e.e.size,λm=>by
  rw[ep];refine u m _ ?_
  have:=e.e.at_ m
  rwa [ep] at this⟩,o⟩
def Ends{g:Type}(B:Tb)(e:Nat->St B.D->Option g)(r:g)(d:St B.D)(f:List Nat):fE
 | .normal=>λc b=>∃a,Ext f d a/\e 0 a=c5 r/\c=aU B a.E/\b=av B a.H
 | .ret=>λc b=>∃a,Ext f d a/\e 1 a=c5 r/\c=aU B a.E/\b=av B a.H
 | .exit h=>λc b=>∃a,Ext f d a/\e (h+2) a=c5 r/\c=aU B a.E/\b=av B a.H
 |_=>λ_ _=>False
def Aa(t:cU P B){D:Type}{r:D}{A v:Nat}{d f:St B.D}{m:List Nat}(w:Ext m d f)(x:v<=d.H.length)(y:Cz B d){g:Gh}{C:Act}{n:World}(s:Rel g A (aU B f.E) (av B f.H) C n):
 ∀{os:List (Nat×lD)} {c:Nat} {k:qM B os->Option D},inj B v d m os c f k=c5 r->
  ∃o b,k o=c5 r/\Ext m d b/\(∀{H:Type} (e:Nat->St B.D->Option H),out B d m os o e=e c b)/\∃z,Rel z A (aU B b.E) (av B b.H) C n/\Bml.GStep v g (av B f.H) n z (av B b.H) n
 |[],c,k,a=>by simp[inj] at a
 |[p],c,k,a=>by
  simp only[inj] at a;obtain⟨l,E⟩:=a8 a;clear a;obtain rfl:=beq_eq l;obtain⟨u,j,i,h⟩:=DH t w x y E s;exact⟨u,_,j,i,λe=>rfl,h⟩
 |p::q::G,c,k,a=>by
  simp only[inj] at a;cases l:fe p.1 c with
  |true=>
   rw[l] at a;obtain rfl:=beq_eq l;obtain⟨u,j,i,h⟩:=DH t w x y a s;exact⟨.inl u,_,j,i,λe=>rfl,h⟩
  |false=>
   rw[l] at a;obtain⟨o,b,j,i,h,F⟩:=Aa t w x y s (os:=q::G) (k:=λI=>k (.inr I)) a;exact⟨.inr o,b,j,i,λe=>h e,F⟩
def Bv(H:cU P B){E:Type}{r:E}{x q:Nat}{f:Code}{Q:Hn}{b:St B.D}{t:Nat->St B.D->Option E}{F:{s:Type}->(Nat->St B.D->Option s)->Option s}(U:q<=b.H.length)(u:join B q b f Q t F=c5 r)
 (D:∀{s:Type} (C:Nat->St B.D->Option s) (y:s),F C=c5 y->eT P x q f (Ends B C y b (cQ f [])) (aU B b.E) (av B b.H)):eT P x q f (Ends B t r b (cQ f [])) (aU B b.E) (av B b.H):=by
 unfold join at u
 split at u
 .exact D t r u
 .rename_i p I Z;obtain⟨G,O,K⟩:=ei.1 u;intro J N T z;have Y:=Q8 z;refine Tl (D _ G O) ?_ J N T z
  intro S W A g R w o V;have fin:∀v c,Ext (cQ f []) b c->inj B q b (cQ f []) (p::I) v c c5=c5 G->W=aU B c.E->A=av B c.H->∃a e,(Ext (cQ f []) b a/\t v a=c5 r)/\Rel e x (aU B a.E) (av B a.H) R w/\Bml.GStep q g A w e (av B a.H) w:=λv c j m l n=>by
   subst l;subst n;obtain⟨aa,a,d,i,k,M,h,L⟩:=Aa H j U Y V m;injection d with d
   subst d;exact⟨a,M,⟨i,by rw[<-k t];exact K⟩,h,L⟩
  cases S with
  |normal=>
   obtain⟨c,j,m,l,n⟩:=o;obtain⟨a,e,⟨d,i⟩,k,h⟩:=fin 0 c j m l n;exact⟨_,_,e,⟨a,d,i,rfl,rfl⟩,k,h⟩
  |ret=>
   obtain⟨c,j,m,l,n⟩:=o;obtain⟨a,e,⟨d,i⟩,k,h⟩:=fin 1 c j m l n;exact⟨_,_,e,⟨a,d,i,rfl,rfl⟩,k,h⟩
  |exit X=>
   obtain⟨c,j,m,l,n⟩:=o;obtain⟨a,e,⟨d,i⟩,k,h⟩:=fin (X+2) c j m l n;exact⟨_,_,e,⟨a,d,i,rfl,rfl⟩,k,h⟩
  |goto _=>exact o.elim
  |panic _=>exact o.elim
  |outgrown=>exact o.elim
def Ends.mono{A y:Type}{w:Nat->St B.D->Option A}{s:Nat->St B.D->Option y}{r:A}{D:y}{u x:St B.D}{C n:List Nat}(m:Ext n x u)(l:∀t,t∈C->t∈n){e:Exit}{E:Env}{H:List aO}(o:∀e a,w e a=c5 r->s e a=c5 D)(h:Ends B w r u C e E H):Ends B s D x n e E H:=by
 cases e with
 |normal=>obtain⟨a,d,j,k,c⟩:=h;exact⟨a,m.trans (d.more l),o _ _ j,k,c⟩
 |ret=>obtain⟨a,d,j,k,c⟩:=h;exact⟨a,m.trans (d.more l),o _ _ j,k,c⟩
 |exit F=>obtain⟨a,d,j,k,c⟩:=h;exact⟨a,m.trans (d.more l),o _ _ j,k,c⟩
 |goto _=>exact h.elim
 |panic _=>exact h.elim
 |outgrown=>exact h.elim
def Bh{i:Nat}:∀(f:List Oper) (e:List Nat),i∈tI f e↔(∃g,g∈f/\g.dst=c5 i)\/i∈e
 |[],e=>by simp[tI]
 |g::f,e=>by
  simp only[tI];cases h:g.dst with
  |none=>
   simp only[Bh f e,dd]
   constructor
   .rintro(⟨c,b,a⟩ |d)
    .exact .inl ⟨c,.inr b,a⟩
    .exact .inr d
   .rintro(⟨c,rfl |b,a⟩ |d)
    .rw[h] at a;cases a
    .exact .inl ⟨c,b,a⟩
    .exact .inr d
  |some j=>
   simp only[dd,Bh f e]
   constructor
   .rintro(rfl |⟨c,b,a⟩ |d)
    .exact .inl ⟨g,.inl rfl,h⟩
    .exact .inl ⟨c,.inr b,a⟩
    .exact .inr d
   .rintro(⟨c,rfl |b,a⟩ |d)
    .rw[h] at a;injection a with a;exact .inl a.symm
    .exact .inr (.inl ⟨c,b,a⟩)
    .exact .inr (.inr d)
def lV{d:Nat}:∀(e:Code) (a:List Nat),d∈cQ e a↔d∈cQ e []\/d∈a
 | .region _ f _,a=>by simp[cQ,Bh]
 | .seq c b,a=>by
  simp only[cQ];rw[lV c (cQ b a),lV b a,lV c (cQ b [])];simp only[or_assoc]
 | .cond _ c b,a=>by
  simp only[cQ];rw[lV c (cQ b a),lV b a,lV c (cQ b [])];simp only[or_assoc]
 | .block _ c,a=>lV c a
 | .loop c,a=>lV c a
 | .skip,a=>by simp[cQ]
 | .rangeFunc ..,a=>by simp[cQ]
 | .exit _,a=>by simp[cQ]
 | .scope _,a=>by simp[cQ]
 | .label _,a=>by simp[cQ]
 | .goto _,a=>by simp[cQ]
 | .ret,a=>by simp[cQ]
 | .refuse _,a=>by simp[cQ]
def PR{d:Nat}:∀{c:List Oper},Ej d c=true->∀b,b∈c->fL d b.dst=true
 |h::c,f,b,a=>by
  obtain⟨e,g⟩:=fu f;rcases dd.1 a with rfl |a
  .exact e
  .exact PR g b a
 |[],_,b,a=>by cases a
def gO(I:P.follows .mixedOrders=true)(o:cU P B){S:Lp}{ab:List (aq B)}(H:∀E,E∈ab->Fits P B E){G n:Nat}{C:List (Nat×Hn)}:
 ∀(E:Code) (p:Nat) {R:Type} (l:Nat->St B.D->Option R) (a:St B.D) (r:R),exec S B P ab n C E p l a=c5 r->gB G E=true->n<=a.H.length->eT P G n E (Ends B l r a (cQ E [])) (aU B a.E) (av B a.H)
 | .skip,p,R,l,a,r,c,_,_=>amF ⟨a,.refl _ _,c,rfl,rfl⟩
 | .ret,p,R,l,a,r,c,_,_=>apz ⟨a,.refl _ _,c,rfl,rfl⟩
 | .exit id,p,R,l,a,r,c,_,_=>V4 ⟨a,.refl _ _,c,rfl,rfl⟩
 | .label a0,p,R,l,a,r,c,_,_=>agH ⟨a,.refl _ _,c,rfl,rfl⟩
 | .region id Z aC,p,R,l,a,r,c,t,k=>by
  refine Bv o k c λ{an} u w z=>?_
  obtain⟨aZ,h,au,j⟩:=qg o H z;have az:=PR (show Ej G Z.toList=true from t);have m:Ext (cQ (.region id Z aC) []) a h:=Pe au λy aQ a6 t=>(Bh Z.toList []).2 (.inl ⟨y,aQ,t⟩)
  rw[ft] at j;cases aC with
  |true=>
   obtain⟨ar,j⟩:=a8 j;obtain⟨ae,j⟩:=a8 j;rw[J8,ft,List.reverse_reverse] at ae;have:=abH (nn:=n) (id:=id) (Q:=Ends B u w a (cQ (.region id Z true) [])) I au ar ae az ⟨h,m,j,rfl,rfl⟩
   rwa [hU] at this
  |false=>
   have:=Lc (id:=id) (yW (n:=n) (Q:=Ends B u w a (cQ (.region id Z false) [])) au az ⟨h,m,j,rfl,rfl⟩)
   rwa [hU] at this
 | .seq d b,p,R,l,a,r,c,t,k=>by
  refine Bv o k c λ{an} u w z=>?_
  obtain⟨aj,ao⟩:=fu (show(bif gB G d then gB G b else false)=true from t);have M:=gO I o H d (2*p) _ a w z aj k;refine rN (M.mono λi A D e=>?_)
  have aa:∀s,s∈cQ d []->s∈cQ (.seq d b) []:=λs L=>(lV d (cQ b [])).2 (.inl L)
  have aw:∀s,s∈cQ b []->s∈cQ (.seq d b) []:=λs L=>(lV d (cQ b [])).2 (.inr L)
  cases i with
  |normal=>
   obtain⟨h,m,j,rfl,rfl⟩:=e;have ad:=gO I o H b (2*p+1) u h w j ao (la k m.len);exact ad.mono λi A D e=>e.mono (m.more aa) aw λ_ _ c=>c
  |ret=>obtain⟨h,m,j,N,T⟩:=e;exact⟨h,m.more aa,j,N,T⟩
  |exit id=>obtain⟨h,m,j,N,T⟩:=e;exact⟨h,m.more aa,j,N,T⟩
  |goto _=>exact e.elim
  |panic _=>exact e.elim
  |outgrown=>exact e.elim
 | .cond E d b,p,R,l,a,r,c,t,k=>by
  refine Bv o k c λ{an} u w z=>?_
  obtain⟨aj,ao⟩:=fu (show(bif gB G d then gB G b else false)=true from t);have aa:∀s,s∈cQ d []->s∈cQ (.cond E d b) []:=λs L=>(lV d (cQ b [])).2 (.inl L)
  have aw:∀s,s∈cQ b []->s∈cQ (.cond E d b) []:=λs L=>(lV d (cQ b [])).2 (.inr L)
  split at z
  .rename_i a2 aH;refine adk (by rw[Bw,aH];rfl) (λi=>?_) (λi=>?_)
   .subst i;exact(gO I o H d (2*p) u a w z aj k).mono λi A D e=>e.mono (.refl _ _) aa λ_ _ c=>c
   .subst i;exact(gO I o H b (2*p+1) u a w z ao k).mono λi A D e=>e.mono (.refl _ _) aw λ_ _ c=>c
  .cases z
 | .block id d,p,R,l,a,r,c,t,k=>by
  refine Bv o k c λ{an} u w z=>?_
  have M:=gO I o H d (2*p) _ a w z t k;refine Ta (M.mono λi A D e=>?_)
  cases i with
  |normal=>exact e
  |ret=>exact e
  |exit ac=>
   obtain⟨h,m,j,N,T⟩:=e;show(EY id _) (.exit ac) A D
   simp only[EY];have af:(bif fe ac id then u 0 h else u (ac+2) h)=c5 w:=j;cases ad:fe ac id with
   |true=>rw[ad] at af;exact⟨h,m,af,N,T⟩
   |false=>rw[ad] at af;exact⟨h,m,af,N,T⟩
  |goto _=>exact e.elim
  |panic _=>exact e.elim
  |outgrown=>exact e.elim
 | .loop d,p,R,l,a,r,c,t,k=>by
  have aG:∀(ai:Nat) (a:St B.D),D8 B (λu h=>exec S B P ab n C d (2*p) u h) (λa=>match (hint C p).lp with
   |some q=>nW B n a (cQ d []) q a λW=>(S.loop (λJ=>exec S B P ab n C d (2*p) (R:=bi B.D q.bX⊕qM B (hint C p).outs) (λi h=>bif fe i 0 then nW B n a (cQ d []) q h (λJ=>c5 (.inl J)) else inj B n a (cQ d []) (hint C p).outs i h λy=>c5 (.inr y)) (ik B a (cQ d []) q J)) W).bind λy=>out B a (cQ d []) (hint C p).outs y l
   |none=>ea) l ai a=c5 r->n<=a.H.length->oE P G n d (Ends B l r a (cQ (.loop d) [])) (aU B a.E) (av B a.H):=by
   intro ai
   induction ai with
   |succ ai aI=>
    intro a c k;have M:=gO I o H d (2*p) _ a r c t k;refine aiK (M.mono λi A D e=>?_)
    cases i with
    |normal=>
     obtain⟨h,m,j,rfl,rfl⟩:=e;exact(aI h j (la k m.len)).mono λi A D e=>e.mono m (λ_ c=>c) λ_ _ c=>c
    |ret=>exact e
    |exit id=>exact e
    |goto _=>exact e.elim
    |panic _=>exact e.elim
    |outgrown=>exact e.elim
   |zero=>
    intro a c k aY aO aX ay;have ah:=Q8 ay;simp only[D8] at c
    split at c
    .rename_i q a3;obtain⟨W,ar,aK,aJ,aR,aL⟩:=DH o (.refl _ _) k ah c ay;obtain⟨y,ae,aA⟩:=ei.1 ar;obtain⟨aV,aB⟩:=S.ok _ _ _ ae;generalize aS:(λJ=>exec S B P ab n C d (2*p) (R:=bi B.D q.bX⊕qM B (hint C p).outs) (λi h=>bif fe i 0 then nW B n a (cQ d []) q h (λJ=>c5 (.inl J)) else inj B n a (cQ d []) (hint C p).outs i h λy=>c5 (.inr y)) (ik B a (cQ d []) q J))=f at aB;have aM:oE P G n d (Ends B l r a (cQ (.loop d) [])) (aU B (ik B a (cQ d []) q W).E) (av B (ik B a (cQ d []) q W).H):=by
      refine QG (α:=Nat×bi B.D q.bX) (λF A D=>fY f F.1 F.2=c5 y/\Ext (cQ d []) a (ik B a (cQ d []) q F.2)/\A=aU B (ik B a (cQ d []) q F.2).E/\D=av B (ik B a (cQ d []) q F.2).H) (λF=>F.1) (aV,W) ⟨aB,aK,rfl,rfl⟩ ?_
      rintro⟨am,J⟩ A D ⟨K,ag,rfl,rfl⟩;cases am with
      |zero=>simp[fY] at K
      |succ am=>
       simp only[fY] at K;obtain⟨v,aD,K⟩:=ei.1 K;rw[<-aS] at aD;have M:=gO I o H d (2*p) _ _ v aD t (la k ag.len);refine Tl M ?_
       intro i a5 a4 g aE a1 O al;cases i with
       |normal=>
        obtain⟨h,m,j,rfl,rfl⟩:=O;obtain⟨F,x,U,V,X,Y⟩:=DH o (ag.trans m) k ah j al;injection x with x
        subst x;exact⟨_,_,V,⟨(am,F),l1 _,K,U,rfl,rfl⟩,X,Y⟩
       |ret=>
        obtain⟨h,m,j,rfl,rfl⟩:=O;obtain⟨ax,ap,x,U,X,V,Y,ak⟩:=Aa o (ag.trans m) k ah al j;injection x with x
        subst x;have i:ax=y:=by simpa using K
        subst i;exact⟨_,_,V,⟨ap,U,by rw[<-X l];exact aA,rfl,rfl⟩,Y,ak⟩
       |exit id=>
        obtain⟨h,m,j,rfl,rfl⟩:=O;obtain⟨ax,ap,x,U,X,V,Y,ak⟩:=Aa o (ag.trans m) k ah al j;injection x with x
        subst x;have i:ax=y:=by simpa using K
        subst i;exact⟨_,_,V,⟨ap,U,by rw[<-X l];exact aA,rfl,rfl⟩,Y,ak⟩
       |goto _=>exact O.elim
       |panic _=>exact O.elim
       |outgrown=>exact O.elim
     intro aT aP;exact aM aJ aO aX aR aT λi aE aN aF=>aP i aE aN (eI.trans aL aF)
    .cases c
  exact Pz (aG _ a c k)
 | .rangeFunc ..,p,R,l,a,r,c,_,_=>by simp[exec] at c
 | .scope _,p,R,l,a,r,c,_,_=>by simp[exec] at c
 | .goto _,p,R,l,a,r,c,_,_=>by simp[exec] at c
 | .refuse _,p,R,l,a,r,c,_,_=>by simp[exec] at c
end
def yR(b:Array Value):ResultVar->Sem Value
 | .tmp a=>pure (b.getD a undef)
 | .cell p a=>do loadVar a (<-asAddr (b.getD p undef))
def ND(fn:Func)(a:Array Value):results fn a=(do let vs<-fn.results.mapM (yR a);pure (if b:vs.size=1 then vs[0] else .tuple vs)):=rfl
def wM{a:Nat->Type}:Nat->List (TV a)->En a->En a
 |_,[],b=>b
 |i,v::vs,b=>wM (i+1) vs ((i,v)::b)
def Jz{d:Nat->Type}:∀(vs:List (TV d)) (i:Nat) (b:En d) (a:Nat),lk (wM i vs b) a=if i<=a then(vs[a -i]?).getD (lk b a) else lk b a
 |[],i,b,a=>by simp[wM]
 |v::vs,i,b,a=>by
  rw[wM,Jz vs (i+1)]
  by_cases e:i+1<=a
  .rw[if_pos e,if_pos (by omega),show a -i=(a - (i+1))+1 by omega,List.getElem?_cons_succ];have:fe i a=false:=by
    cases c:fe i a with
    |false=>rfl
    |true=>have:=beq_eq c;omega
   simp only[lk,this,cond_false]
  .rw[if_neg e]
   by_cases f:i=a
   .subst f;rw[if_pos (ef _),s6];simp[lk,hQ]
   .rw[if_neg (by omega)];have:fe i a=false:=by
     cases c:fe i a with
     |false=>rfl
     |true=>exact absurd (beq_eq c) f
    simp only[lk,this,cond_false]
def lY:Nat->Nat->List (Nat×CP)->Bool
 |_,0,[]=>true
 |a,c+1,p::b=>bif fe p.1 a then lY (a+1) c b else false
 |_,_,_=>false
section
variable {P:Program}{B:Tb}{R:Type}{r:R}
def H4(D:cU P B){c:St B.D}:∀{j:List ResultVar} {i:Nat} {E:En B.D} {n:En B.D->Option R},nh B P c i j E n=c5 r->
 ∃vs:List (TV B.D),vs.length=j.length/\n (wM i vs E)=c5 r/\∀g e b a,Rel g e (aU B c.E) (av B c.H) b a->∃m:List Value,(j.mapM (yR b.tmps)).run P a= .ok m a/\m.length=j.length/\∀(i:Nat) (s:TV B.D) (x:Value),vs[i]?=c5 s->m[i]?=c5 x->VR g (av B c.H) a (pv B s) x
 |[],i,E,n,f=>⟨[],rfl,f,λg e b a _=>⟨[],rfl,rfl,by simp⟩⟩
 |rv::j,i,E,n,f=>by
  have H:∃v,nh B P c (i+1) j ((i,v)::E) n=c5 r/\∀g e b a,Rel g e (aU B c.E) (av B c.H) b a->∃x,(yR b.tmps rv).run P a= .ok x a/\VR g (av B c.H) a (pv B v) x:=by
   cases rv with
   |tmp t=>
    refine⟨lk c.E t,f,λg e b a h=>⟨_,rfl,?_⟩⟩
    have:=h.e.at_ t
    rwa [ep] at this
   |cell p t=>
    simp only[nh] at f;obtain⟨v,N,y,K⟩:=PD D (x:=.tmp p) (E:=c.E) (t:=t) f;refine⟨v,y,λg e b a h=>?_⟩
    obtain⟨x,d,w⟩:=K ea 0 "" #[] c.E c.H (λx _=>Bw B c.E x) (λ_ _ _ f=>f) g e b a h;refine⟨x,?_,w⟩
    have I:b.eval (.tmp p)=b.tmps.getD p undef:=rfl;simp only[execOp,I] at d;show(do loadVar t (<-asAddr (b.tmps.getD p undef)):Sem Value).run P a= .ok x a
    generalize b.tmps.getD p undef=z at d⊢;cases z with
    |pointer C=>
     cases C with
     |none=>simp[q4,oj] at d
     |some C=>
      simp only[q4,oj,kh,m0,h7] at d;simp only[asAddr,kh,m0,h7];cases q:(loadVar t C).run P a with
      |ok A L=>
       rw[q] at d;simp only[h7] at d;injection d with o u
       injection o with o
       rw[o,u]
      |halt A L=>rw[q] at d;simp at d
    |_=>simp[q4,oj] at d
  obtain⟨v,y,o⟩:=H;obtain⟨vs,u,G,F⟩:=H4 D y;refine⟨v::vs,by simp[u],G,λg e b a h=>?_⟩
  obtain⟨x,d,w⟩:=o g e b a h;obtain⟨m,M,q,J⟩:=F g e b a h;refine⟨x::m,?_,by simp[q],λi s A k l=>?_⟩
  .rw[List.mapM_cons];simp only[kh,M,d,h7,m0]
  .match i,k,l with
   |0,k,l=>simp at k l;subst k;subst l;exact w
   |i+1,k,l=>exact J i s A (by simpa using k) (by simpa using l)
def Tk{c:Nat->Type}{d:Nat->Nat×Nat}:∀{a:List (Nat×List Nat×OP)} {q:Nat} {b:List (TV c)},(lM d q a b).1.length=a.length
 |[],_,_=>rfl
 |e::a,q,b=>by simp[lM,Tk]
def A7{p:bY}{a:bi B.D p.bX}:(cz B p a).H.length=p.dF.length:=by
 unfold cz nI;exact Tk
def GW{g:Nat->Type}{ρ:Nat->Nat×Nat}:∀{e:List (Nat×CP)} {c d:Nat} {ls:List (TV g)},lY c d e=true->∃b,b.length=d/\gR ρ e ls=fi c b
 |[],c,0,ls,_=>⟨[],rfl,rfl⟩
 |p::e,c,d+1,ls,a=>by
  obtain⟨f,h⟩:=fu a;obtain⟨b,i,j⟩:=GW (ρ:=ρ) (ls:=(hO ρ p.2 ls).2) h;refine⟨(hO ρ p.2 ls).1::b,by simp[i],?_⟩
  simp only[gR,fi,j,beq_eq f]
 |[],_,_+1,_,a=>by simp[lY] at a
 |_::_,_,0,_,a=>by simp[lY] at a
def GN{c:Nat->Type}:∀(a:List (TV c)) (b:Nat),(fi b a).map (·.2)=a
 |[],_=>rfl
 |d::a,b=>by simp[fi,GN a]
def kL(P:Program){B:Tb}(a:aq B)(e:List ResultVar)(c:Nat)(b:St B.D):Option (bi B.D a.az.bX):=bif m5 c 1 then nh B P b 0 e [] λd=>take B a.low a.az ⟨d,b.H⟩ c5 else ea
def qP{R:Type}(B:Tb)(d:Nat->St B.D->Option R)(r:R):fE
 | .normal=>λc b=>∃a,d 0 a=c5 r/\c=aU B a.E/\b=av B a.H
 | .ret=>λc b=>∃a,d 1 a=c5 r/\c=aU B a.E/\b=av B a.H
 | .exit e=>λc b=>∃a,d (e+2) a=c5 r/\c=aU B a.E/\b=av B a.H
 |_=>λ_ _=>False
def nP{R:Type}{h:Nat->St B.D->Option R}{r:R}{j:St B.D}{k:List Nat}:∀g i f,Ends B h r j k g i f->qP B h r g i f
 | .normal,_,_,⟨e,_,a,d,b⟩=>⟨e,a,d,b⟩
 | .ret,_,_,⟨e,_,a,d,b⟩=>⟨e,a,d,b⟩
 | .exit _,_,_,⟨e,_,a,d,b⟩=>⟨e,a,d,b⟩
 | .goto _,_,_,c=>c
 | .panic _,_,_,c=>c
 | .outgrown,_,_,c=>c
def ti(Q:cU P B){a:aq B}{fn:Func}{code:Code}{rs:List ResultVar}(M:P.funcs[a.cO]?=c5 fn)(S:fn.body=c5 code)(al:(fn.name== "runtime.NumGoroutine")=false)
 (W:fn.results=rs.toArray) (ae:m5 a.na fn.ntmps=true) (ad:lY 0 rs.length a.az.dE=true) (n:∀d j,a.F d=c5 j->eT P fn.ntmps a.low code (qP B (kL P a rs) j) (aU B (cz B a.par d).E) (av B (cz B a.par d).H)):Fits P B a:=by
 refine⟨λargs l=>?_,λd j an g l k Y ap J=>?_⟩
 .simp only[callFunc,kh];have af:(program:Sem Program).run P l= .ok P l:=rfl;rw[af];simp only[h7,M];rw[al];simp[S]
 .have aj:=n d j an;have aB:k.length<=fn.ntmps:=by
   rw[Y];exact e4 ae
  have am:Rel g fn.ntmps (aU B (cz B a.par d).E) (av B (cz B a.par d).H) {tmps:=k.toArray++hP (fn.ntmps -k.toArray.size) undef,defers:=[]} l:=by
   refine⟨ap,rfl,?_,λh=>?_⟩
   .simp;omega
   .rw[ep];have:=J h;have o:(k.toArray++hP (fn.ntmps -k.toArray.size) undef).getD h undef=k.getD h undef:=by
     rw[hD,h8];rcases hI h k.length with n |n
     .simp[Array.getElem?_append,n]
     .rw[ga n];rw[Array.getElem?_append_right (by simpa using n)];rcases hI (h -k.length) (fn.ntmps -k.length) with m |m
      .simp[m]
      .simp[m]
    rw[o];exact this
  refine calls_of_wp M S (aj g _ l am _ ?_)
  intro o p c t;have U:∀F:Nat,F<=1->iX fn.ntmps a.low g (av B (cz B a.par d).H) l (λH X=>∃s,(bif m5 F 1 then nh B P s 0 rs [] λH=>take B a.low a.az ⟨H,s.H⟩ c5 else ea)=c5 j/\H=aU B s.E/\X=av B s.H) p c->
   p.defers=[]/\∃v,(results fn p.tmps).run P c= .ok v c/\∃N E,Ending.returned v= .returned N/\bF E (av B (cz B a.az j).H) c/\Bml.GStep a.low g (av B (cz B a.par d).H) l E (av B (cz B a.az j).H) c/\VR E (av B (cz B a.az j).H) c (pv B (kR (cz B a.az j).E)) N:=λF ak L=>by
   obtain⟨aD,H1,aw,⟨s,q,rfl,rfl⟩,A,aa⟩:=L;rw[hM ak] at q;obtain⟨vs,az,Z,ao⟩:=H4 Q q;obtain⟨u,au,aA,ag⟩:=ao aw fn.ntmps p c A;obtain⟨y,C,I,ay,ah,ac⟩:=EK Q Z A.m;injection C with C
   subst C;have w:∃f:List (TV B.D),f.length=rs.length/\(cz B a.az y).E=fi 0 f:=by
    unfold cz nI;exact GW ad
   obtain⟨f,K,w⟩:=w;have O:∀(i:Nat) (x:TV B.D) (v:Value),f[i]?=c5 x->u[i]?=c5 v->VR I (av B (cz B a.az y).H) c (pv B x) v:=λi x v e G=>by
    have V:i<vs.length:=by have:=c9 e;omega
    have z:=ag i _ v (c4 V) G;have m:=ac i v (by
     rw[Jz,if_pos (l2 _),s5,c4 V];exact z)
    rw[w] at m;have o:=Dz f 0 i;rw[e6] at o;rw[o,e] at m;exact m
   have J:∃v,(results fn p.tmps).run P c= .ok v c/\VR I (av B (cz B a.az y).H) c (pv B (kR (cz B a.az y).E)) v:=by
    have ab:(fn.results.mapM (yR p.tmps)).run P c= .ok u.toArray c:=by
     rw[W,Array.mapM_eq_mapM_toList];simp only[Sem.run_map,au,h7]
    rw[ND,kh,ab,h7,w]
    by_cases z:u.length=1
    .obtain⟨d,rfl⟩:=ng.1 z;obtain⟨h,rfl⟩:=ng.1 (show f.length=1 by omega);exact⟨d,rfl,O 0 h d rfl rfl⟩
    .refine⟨.tuple u.toArray,?_,?_⟩
     .rw[m0]
      congr 1
      exact dif_neg (by simpa using z)
     .have:kR (fi 0 f)= .bu f:=by
       match f,K with
       |[],_=>rfl
       |[h],K=>simp at K;omega
       |ai::b::T,_=>exact congrArg TV.bu (GN (ai::b::T) 0)
      rw[this];refine .bu _ u (by rw[db,l3];omega) λi x v e G=>?_
      rw[db,ec] at e;cases D:f[i]? with
      |none=>rw[D] at e;cases e
      |some h=>
       rw[D] at e;injection e with e
       subst e;exact O i h v D G
   obtain⟨v,ar,ax⟩:=J;exact⟨A.e.defers,v,ar,v,I,rfl,ay,aa.trans ah,ax⟩
  cases o with
  |normal=>exact U 0 (by omega) t
  |ret=>exact U 1 (by omega) t
  |exit aC=>
   obtain⟨_,_,_,⟨s,q,_⟩,_⟩:=t;have q:(ea:Option (bi B.D a.az.bX))=c5 j:=q;cases q
  |goto T=>
   obtain⟨_,_,_,L,_⟩:=t;exact L.elim
  |panic a=>exact t.elim
  |outgrown=>exact t.elim
def FA(s:P.follows .mixedOrders=true)(c:cU P B){L:Lp}{d:List (aq B)}(k:∀a,a∈d->Fits P B a){a:aq B}{fn:Func}{code:Code}{rs:List ResultVar}{hs:List (Nat×Hn)}(f:P.funcs[a.cO]?=c5 fn)(h:fn.body=c5 code)(o:(fn.name== "runtime.NumGoroutine")=false)
 (g:fn.results=rs.toArray) (l:m5 a.na fn.ntmps=true) (j:gB fn.ntmps code=true) (q:m5 a.low (len a.par.dF)=true) (i:lY 0 rs.length a.az.dE=true) (m:∀b,gl L B P d a rs code hs b=a.F b):Fits P B a:=by
 refine ti c f h o g l i λb t p=>?_
 have e:=m b;rw[p] at e;have n:a.low<=(cz B a.par b).H.length:=by
  rw[A7, <-eu];exact e4 q
 exact(gO s c k code 1 _ _ _ e j n).mono nP
end
end Go.X
namespace Go.Bml
open Go Go.ChangeShapes Go.WideShapes Go.RowKit
def jG:Option Bool->List PV->PV
 |some true,p=>.agg p
 |_,[v]=>v
 |_,p=>.agg p
def OY:TypeDesc->Bool
 | .bool | .int _ | .string | .slice _ | .struct _ | .array _ _=>true
 |_=>false
inductive TP (P:Program):TypeId->List PV->Prop
 |bool (t:TypeId) (b:Bool) (h:P.underlying t=c5 .bool):TP P t [.bool b]
 |int (t:TypeId) (k:IntKind) (n:Int) (h:P.underlying t=c5 (.int k)) (hw:(s7 k n).wf=true):TP P t [.int k n]
 |str (t:TypeId) (s:ByteArray) (h:P.underlying t=c5 .string) (hs:s.size<=maxLen):TP P t [.str s]
 |slice (t e:TypeId) (ess:List (List PV)) (h:P.underlying t=c5 (.slice e)) (hl:ess.length<=maxLen) (he:∀p,p∈ess->p.length=P.cellsOf e) (hp:∀p,p∈ess->TP P e p):TP P t [.vs (P.cellsOf e) (ess.map (jG (dP P e)))]
 |struct (t:TypeId) (fs:Array Field) (ps:List (List PV)) (h:P.underlying t=c5 (.struct fs)) (hl:ps.length=fs.size) (hp:∀(i:Nat) (f:Field) (p:List PV),fs[i]?=c5 f->ps[i]?=c5 p->TP P f.type p):TP P t ps.flatten
 |array (t e:TypeId) (n:Nat) (ps:List (List PV)) (h:P.underlying t=c5 (.array n e)) (hl:ps.length=n) (hp:∀p,p∈ps->TP P e p):TP P t ps.flatten
 |other (t:TypeId) (d:TypeDesc) (h:P.underlying t=c5 d) (hd:OY d=false):TP P t [.any]
def jE(e:Nat->Prop)(w:World)(d:List PV)(c:List Value):Prop:=
 d.length=c.length/\∀(i:Nat) (b:PV) (a:Value),d[i]?=c5 b->c[i]?=c5 a->VI e w b a/\a.oneCell'=true
def jE.one{F:Nat->Prop}{w:World}{c:PV}{x:Value}(h:VI F w c x)(j:x.oneCell'=true):jE F w [c] [x]:=by
 refine⟨rfl,λi a b d e=>?_⟩
 match i,d,e with
 |0,d,e=>simp at d e;subst d;subst e;exact⟨h,j⟩
 |i+1,d,e=>simp at d
def jE.append{F:Nat->Prop}{w:World}{p q:List PV}{c d:List Value}(h:jE F w p c)(k:jE F w q d):jE F w (p++q) (c++d):=by
 refine⟨by simp[h.1,k.1],λi a b j e=>?_⟩
 by_cases hi:i<p.length
 .rw[dt hi] at j;rw[dt (by have:=h.1;omega)] at e;exact h.2 i a b j e
 .rw[dk (by omega)] at j;rw[dk (by have:=h.1;omega)] at e;rw[<-h.1] at e;exact k.2 _ a b j e
def jE.flatten{F:Nat->Prop}{w:World}:∀(e:List (List PV)) (d:List (List Value)),e.length=d.length->(∀(i:Nat) (p:List PV) (c:List Value),e[i]?=c5 p->d[i]?=c5 c->jE F w p c)->jE F w e.flatten d.flatten
 |[],[],_,_=>⟨rfl,by simp⟩
 |[],_::_,h,_=>by simp at h
 |_::_,[],h,_=>by simp at h
 |p::e,c::d,h,j=>by
  rw[kl,kl];exact(j 0 p c rfl rfl).append (jE.flatten e d (by simpa using h) λi a b k l=>j (i+1) a b (by simpa using k) (by simpa using l))
def w4:Nat->List (Nat×Nat)->Nat->Bool
 |a,[],b=>fe a b
 |a,(c,d)::r,b=>fe c a&&w4 (a+d) r b
def Ry(b:List Value):∀(d:List (Nat×Nat)) (c:Nat),w4 c d b.length=true->b.drop c=(d.map λp=>(b.drop p.1).take p.2).flatten
 |[],c,a=>by
  have:=l0 a;simp[this]
 |(g,e)::d,c,a=>by
  simp only[w4,j2] at a;have f:=l0 a.1;subst f;rw[hz,kl, <-Ry b d (g+e) a.2];rw[<-r3,gx]
def xA(P:Program):Bool:=(gv P.types.size).all λb=>
 match P.underlying b with
 |some (.struct c)=>w4 0 (c.toList.map λf=>(f.offset,P.cellsOf f.type)) (P.cellsOf b)&&c.toList.all λf=>j8 f.type P.types.size
 |some (.array d a)=>fe (d*P.cellsOf a) (P.cellsOf b)&&j8 a P.types.size
 |some (.slice a)=>j8 0 (P.cellsOf a)&&j8 a P.types.size
 |_=>true
def Gj{P:Program}(h:xA P=true){b:TypeId}(i:b<P.types.size){d:TypeDesc}(j:P.underlying b=c5 d):(match d with
 | .struct c=>w4 0 (c.toList.map λf=>(f.offset,P.cellsOf f.type)) (P.cellsOf b)=true/\∀f,f∈c->f.type<P.types.size
 | .array e a=>e*P.cellsOf a=P.cellsOf b/\a<P.types.size
 | .slice a=>0<P.cellsOf a/\a<P.types.size
 |_=>True):=by
 have:=n0.1 h b (hL.2 i);rw[j] at this;cases d with
 |struct c=>
  simp only[j2] at this;exact⟨this.1,λf g=>e4 (n0.1 this.2 f (hX.2 g))⟩
 |array e a=>
  simp only[j2] at this;exact⟨l0 this.1,e4 this.2⟩
 |slice a=>
  simp only[j2] at this;exact⟨e4 this.1,e4 this.2⟩
 |_=>trivial
def Tx{P:Program}{f:TypeId}{p:List PV}(e:¬dP P f=c5 true)(a:TP P f p):∃v,p=[v]/\v.cells=[v]:=by
 cases a with
 |bool _ b a=>exact⟨_,rfl,rfl⟩
 |int _ r h a n=>exact⟨_,rfl,rfl⟩
 |str _ o a s=>exact⟨_,rfl,rfl⟩
 |slice _ g m a d q c=>exact⟨_,rfl,rfl⟩
 |struct _ k i a d c=>exact absurd (by simp[dP,a]) e
 |array _ g h i a d c=>exact absurd (by simp[dP,a]) e
 |other _ l a j=>exact⟨_,rfl,rfl⟩
def Vn{P:Program}{c:TypeId}{p:List PV}(e:TP P c p):(jG (dP P c) p).cells=p:=by
 by_cases a:dP P c=c5 true
 .rw[a];rfl
 .obtain⟨v,rfl,d⟩:=Tx a e;generalize dP P c=f at a;cases f with
  |none=>exact d
  |some b=>cases b with
   |false=>exact d
   |true=>exact absurd rfl a
section
variable {H:Type}{enc:TypeId×Value->H}{P:Program}{w:World}{base:Nat}{spare:Nat->Bool}{held:Bool}
def abB(X:xA P=true):∀(y:Nat) (o:TypeId) (q:List Value) (Y:DataW H×List MemPlace),o<P.types.size->o1 enc P w base spare held y o q=c5 Y->
 ∃C,TP P o C/\jE (λb=>b<w.heap.size) w C q:=by
 intro y
 induction y using o7 with
 |_ y V=>
  intro o q Y S m;cases l:P.underlying o with
  |none=>
   cases y with
   |zero=>simp[o1] at m
   |succ g=>simp[o1,l] at m
  |some R=>
   have other:OY R=false->(∃v,q=[v]/\v.oneCell'=true)->∃C,TP P o C/\jE (λb=>b<w.heap.size) w C q:=by
    rintro ah ⟨v,rfl,U⟩;exact⟨[.any],.other o R l ah,.one (.any v) U⟩
   cases R with
   |bool=>
    obtain⟨b,rfl,_⟩:=DataW.trod_bool l m;exact⟨[.bool b],.bool o b l,.one (.bool b) rfl⟩
   |int n=>
    obtain⟨g,rfl,_,aj⟩:=DataW.trod_int l m;exact⟨[.int n g],.int o n g l aj,.one (.int n g) rfl⟩
   |string=>
    obtain⟨O,rfl,_,an⟩:=DataW.trod_string l m;exact⟨[.str O],.str o O l an,.one (.str O) rfl⟩
   |slice a=>
    obtain⟨az,W⟩:=Gj X S l;rcases DataW.trod_slice l m with⟨rfl,_⟩ |⟨J,len,cap,rn,ay,g,rfl,rfl,_,_,af,av,ax,E,_,_⟩
    .exact⟨[.vs (P.cellsOf a) (([]:List (List PV)).map (jG (dP P a)))],.slice o a [] l (l2 _) (by simp) (by simp),.one (.eX _ _ _) rfl⟩
    .have G:∀i:Nat,∃p:List PV,i<len->TP P a p/\p.length=P.cellsOf a/\∀(d:Nat) (h:PV),p[d]?=c5 h->∃z,w.cell? (J.add (i*P.cellsOf a+d))=c5 z/\VI (λb=>b<w.heap.size) w h z/\z.oneCell'=true:=λi=>by
      by_cases c:i<len
      .have r:=E i c;rw[c4 (by omega)] at r;cases e:w.cells? base (J.add (i*P.cellsOf a)) (P.cellsOf a) with
       |none=>simp[e] at r
       |some N=>
        simp[e] at r;obtain⟨p,B,x⟩:=V g (by omega) a N _ W r;obtain⟨_,D,ap⟩:=World.cells?_some e;refine⟨p,λ_=>⟨B,x.1.trans D,λd h M=>?_⟩⟩
        have ac:d<N.length:=by
         have:=(e0.1 M).1;have:=x.1;omega
        refine⟨N[d],?_,x.2 d h _ M (c4 ac)⟩
        rw[<-Go.Deep.add_add,ap d (by omega),c4 ac]
      .exact⟨[],λm=>absurd m c⟩
     obtain⟨f,j⟩:=kd G;refine⟨[.vs (P.cellsOf a) (((gv len).map f).map (jG (dP P a)))],.slice o a _ l (by simp;omega) ?_ ?_,?_⟩
     .intro p k;obtain⟨i,c,rfl⟩:=ey.1 k;exact(j i (hL.1 c)).2.1
     .intro p k;obtain⟨i,c,rfl⟩:=ey.1 k;exact(j i (hL.1 c)).1
     .by_cases h0:len=0
      .subst h0;exact .one (.eX _ _ _) rfl
      .have ab:∀i,i<len->(jG (dP P a) (f i)).cells=f i:=λi c=>Vn (j i c).1
       have aq:∀i d h,abk (((gv len).map f).map (jG (dP P a))) i d=c5 h->i<len/\(f i)[d]?=c5 h:=λi d h e=>by
        unfold abk at e
        by_cases c:i<len
        .rw[ec,ec,ie c] at e;simp only[l4,my,ab i c] at e;exact⟨c,e⟩
        .rw[ga (by simp;omega)] at e;simp at e
       have Z:J.spot=ea:=by
        obtain⟨_,ae,T⟩:=j 0 (by omega);obtain⟨z,s,_⟩:=T 0 _ (c4 (by omega));simp only[s8,hS] at s;rw[Addr.add_zero'] at s;exact World.cell?_spot s
       obtain⟨b,A,aw⟩:=J;simp only at Z;subst Z;have aa:(((gv len).map f).map (jG (dP P a))).length=len:=by simp
       have ao:b<w.heap.size:=by
        obtain⟨_,ae,T⟩:=j 0 (by omega);obtain⟨z,s,_⟩:=T 0 _ (c4 (by omega));rw[sa] at s;exact World.block_lt_of_cell? w _ s
       have Q:∀i d h,abk (((gv len).map f).map (jG (dP P a))) i d=c5 h->w.cell? ⟨b,A+(i*P.cellsOf a+d),ea⟩=c5 ((w.cell? ⟨b,A+(i*P.cellsOf a+d),ea⟩).getD undef)/\((w.cell? ⟨b,A+(i*P.cellsOf a+d),ea⟩).getD undef).oneCell'=true/\VI (λb=>b<w.heap.size) w h ((w.cell? ⟨b,A+(i*P.cellsOf a+d),ea⟩).getD undef):=λi d h e=>by
        obtain⟨c,M⟩:=aq i d h e;obtain⟨z,s,U,r⟩:=(j i c).2.2 d h M;rw[sa] at s;rw[s];exact⟨rfl,r,U⟩
       have:=VI.vs (F:=λb=>b<w.heap.size) (w:=w) (P.cellsOf a) (((gv len).map f).map (jG (dP P a))) b A cap (λi d=>(w.cell? ⟨b,A+(i*P.cellsOf a+d),ea⟩).getD undef) (by rw[aa];exact af) ao
        (λi au I=>by
         have c:i<len:=by
          have:=(e0.1 I).1;simpa using this
         rw[ec,ec,ie c] at I;simp at I;subst I;rw[ab i c];exact(j i c).2.1)
        (λi d h e=>(Q i d h e).1) (λi d h e=>(Q i d h e).2.1) (λi d h e=>(Q i d h e).2.2)
       rw[aa] at this;exact .one this rfl
   |struct u=>
    obtain⟨al,g,rfl,_,D,ak,E⟩:=DataW.trod_struct l m;obtain⟨K,ad⟩:=Gj X S l;rw[<-D] at K;have L:=Ry q _ 0 K;rw[m2,n2] at L;have G:∀i:Nat,∃p:List PV,∀f,u[i]?=c5 f->TP P f.type p/\jE (λb=>b<w.heap.size) w p ((q.drop f.offset).take (P.cellsOf f.type)):=λi=>by
     by_cases c:i<u.size
     .have r:=E i u[i] (h9 c);rw[c4 (by omega)] at r;obtain⟨p,B,x⟩:=V g (by omega) _ _ _ (ad _ (q2 c)) r;exact⟨p,λf j=>by rw[h9 c] at j;injection j with j;subst j;exact⟨B,x⟩⟩
     .exact⟨[],λf j=>by rw[j4 (by omega)] at j;cases j⟩
    obtain⟨f,j⟩:=kd G;refine⟨((gv u.size).map f).flatten,.struct o u _ l (by simp) λi ai p c k=>?_,?_⟩
    .have t:i<u.size:=(Array.getElem?_eq_some_iff.1 c).1;rw[ec,ie t] at k;simp at k;subst k;exact(j i ai c).1
    .rw[L];refine jE.flatten _ _ (by simp) λi p h k e=>?_
     have t:i<u.size:=by
      have:=(e0.1 k).1;simpa using this
     rw[ec,ie t] at k;simp at k;subst k;rw[ec,j6,h9 t] at e;simp at e;subst e;exact(j i _ (h9 t)).2
   |array g a=>
    obtain⟨al,ar,rfl,_,D,ak,E⟩:=DataW.trod_array l m;obtain⟨K,W⟩:=Gj X S l;have L:q=((gv g).map λi=>(q.drop (i*P.cellsOf a)).take (P.cellsOf a)).flatten:=by
     have ag:∀n,n<=g->q.drop ((g -n)*P.cellsOf a)=((o9 (g -n) n).map λi=>(q.drop (i*P.cellsOf a)).take (P.cellsOf a)).flatten:=by
      intro n
      induction n with
      |zero=>
       intro _;simp[K, <-D]
      |succ n am=>
       intro aA;rw[q7,hz,kl];have:=am (by omega);rw[show g - (n+1)+1=g -n by omega, <-this];rw[show(g -n)*P.cellsOf a=(g - (n+1))*P.cellsOf a+P.cellsOf a by rw[<-Nat.succ_mul];congr 1;omega];rw[<-r3,gx]
     have:=ag g (ef _);rw[s6,s8,m2, <-List.range_eq_range'] at this;exact this
    have G:∀i:Nat,∃p:List PV,i<g->TP P a p/\jE (λb=>b<w.heap.size) w p ((q.drop (i*P.cellsOf a)).take (P.cellsOf a)):=λi=>by
     by_cases c:i<g
     .have r:=E i c;rw[c4 (by omega)] at r;obtain⟨p,B,x⟩:=V ar (by omega) _ _ _ W r;exact⟨p,λ_=>⟨B,x⟩⟩
     .exact⟨[],λm=>absurd m c⟩
    obtain⟨f,j⟩:=kd G;refine⟨((gv g).map f).flatten,.array o a g _ l (by simp) λp k=>?_,?_⟩
    .obtain⟨i,c,rfl⟩:=ey.1 k;exact(j i (hL.1 c)).1
    .rw[L];refine jE.flatten _ _ (by simp) λi p h k e=>?_
     have t:i<g:=by
      have:=(e0.1 k).1;simpa using this
     rw[ec,ie t] at k e;simp at k e;subst k;subst e;exact(j i t).2
   |_=>
    refine other rfl ?_
    cases y with
    |zero=>simp[o1] at m
    |succ g=>
     simp only[o1,l] at m
     first |(cases m;done) |(split at m <;> first |exact⟨_,rfl,rfl⟩ |(cases m;done) |(exfalso;simp_all;done))
def PM{f:World}{r:Reach}{b:Nat}{c:TypeId}{v:Value}(a:sn P f r b c v):v.cells.toList=[v]:=by
 unfold sn Cell.ok at a;generalize P.underlying c=d at a;cases v <;> first |rfl |skip
 all_goals
  cases d with
  |none=>exact a.elim
  |some e=>cases e <;> exact False.elim a
def NL(D:xA P=true){r:Reach}{V:Nat}:∀(k:List TypeId) (vs:List Value) (u:List (DataW H)) (C:List MemPlace),mx enc P w base spare held k vs u C->(∀a,a∈k->a<P.types.size)->
 (∀(s:Nat) a v,k[s]?=c5 a->vs[s]?=c5 v->q5 P w r V a v)->
 ∃n:List PV,n.length=vs.length/\vs.length=k.length/\(∀(i:Nat) (a:TypeId) (f:PV),k[i]?=c5 a->n[i]?=c5 f->∃p,TP P a p/\f=jG (dP P a) p)/\∀(i:Nat) (f:PV) (l:Value),n[i]?=c5 f->vs[i]?=c5 l->VI (λb=>b<w.heap.size) w f l
 |[],[],[],_,_,_,_=>⟨[],rfl,rfl,by simp,by simp⟩
 |[],[],_::_,_,d,_,_=>d.elim
 |[],_::_,[],_,d,_,_=>d.elim
 |[],_::_,_::_,_,d,_,_=>d.elim
 |_::_,[],[],_,d,_,_=>d.elim
 |_::_,[],_::_,_,d,_,_=>d.elim
 |_::_,_::_,[],_,d,_,_=>d.elim
 |a::k,v::vs,X::u,C,d,A,E=>by
  obtain⟨p,q,⟨G,N⟩,K,_⟩:=d;obtain⟨n,O,M,T,J⟩:=NL D k vs u q K (λa g=>A a (by simp[g])) λs a v g S=>E (s+1) a v (by simpa using g) (by simpa using S)
  obtain⟨x,B,t⟩:=abB D G a _ _ (A a (by simp)) N;have j:=E 0 a v rfl rfl;refine⟨jG (dP P a) x::n,by simp[O],by simp[M],λi I f g c=>?_,λi f l c h=>?_⟩
  .match i,g,c with
   |0,g,c=>simp at g c;subst g;subst c;exact⟨x,B,rfl⟩
   |i+1,g,c=>exact T i I f (by simpa using g) (by simpa using c)
  .match i,c,h with
   |0,c,h=>
    simp at c h;subst c;subst h;unfold q5 at j
    by_cases e:dP P a=c5 true
    .have:∃m,v= .agg m:=by
      unfold dP at e;cases o:P.underlying a with
      |none=>simp[o] at e
      |some z=>
       rw[o] at e j;cases z <;> simp at e <;> (obtain⟨m,U,_⟩:=j;exact⟨m,U⟩)
     obtain⟨m,rfl⟩:=this;rw[e];have:=VI.agg (F:=λb=>b<w.heap.size) (w:=w) x m.toList (by simpa[sp] using t.1) λi f l c h=>(t.2 i f l c (by simpa[sp] using h)).1
     simpa[jG] using this
    .obtain⟨y,rfl,Y⟩:=Tx e B;have W:=t.1;have Q:jG (dP P a) [y]=y:=by
      generalize dP P a=R at e;cases R with
      |none=>rfl
      |some b=>cases b with
       |false=>rfl
       |true=>exact absurd rfl e
     rw[Q];have L:v.cells.toList=[v]:=by
      unfold dP at e;cases o:P.underlying a with
      |none=>rw[o] at j;exact PM j
      |some z=>
       rw[o] at e j;cases z <;> first |exact PM j |(exfalso;simp at e;done)
     exact(t.2 0 y v rfl (by rw[L];rfl)).1
   |i+1,c,h=>exact J i f l (by simpa using c) (by simpa using h)
end
end Go.Bml
namespace Go.X
open Go Go.Aml Go.Bml Go.ChangeShapes Go.WideShapes Go.RowKit Go.ChangeAt
def Typed(P:Program)(ts:List TypeId)(pcs:List PV):Prop:=
 pcs.length=ts.length/\∀(i:Nat) (t:TypeId) (c:PV),ts[i]?=c5 t->pcs[i]?=c5 c->∃p,TP P t p/\c=jG (dP P t) p
def G8(P:Program){B:Tb}(c:aq B)(ts:List TypeId):Prop:=
 ∀pcs,Typed P ts pcs->∃x y,c.F x=c5 y/\(cz B c.par x).H=[]/\(∀t,pv B (lk (cz B c.par x).E t)=pcs.getD t .any)/\pv B (kR (cz B c.az y).E)= .bool true
section
variable {H:Type}{enc:TypeId×Value->H}{P:Program}{B:Tb}{c:aq B}
def aqj{args:Array Value}{W:World}{ts:List TypeId}{ds:List (DataW H)}{ps:List MemPlace}{base:Nat}(hT:xA P=true)(hA:mx enc P W 0 (λ_=>true) true ts args.toList ds ps)(hlt:∀t,t∈ts->t<P.types.size)
 (hok:∀(j:Nat) t v,ts[j]?=c5 t->args.toList[j]?=c5 v->q5 P W .any base t v) (hna:c.na=ts.length) (hf:Fits P B c) (hc:G8 P c ts):
 Calls P c.cO args W λe w'=>e= .returned (.bool true)/\Below W.heap.size W w':=by
 obtain⟨pcs,k1,k2,k3,k4⟩:=NL hT ts args.toList ds ps hA hlt hok;obtain⟨x,y,hF,hH,hE,hR⟩:=hc pcs ⟨k1.trans k2,k3⟩;have h:=hf.calls x y hF ⟨λb=>b<W.heap.size,λ_=>ea⟩ W args.toList (by rw[hna,k2])
  (by
   rw[hH];exact⟨λb h=>h,λr r' b C C' h=>by simp at h,λr b C h=>by simp at h,λr o h=>by simp[av] at h⟩)
  (λt=>by
   rw[hE,hH]
   by_cases ht:t<pcs.length
   .have ht2:t<args.toList.length:=by omega
    rw[h8,h8,c4 ht,c4 ht2];exact .aW (k4 t _ _ (c4 ht) (c4 ht2))
   .rw[h8,ga (by omega)];exact .aW (.any _))
 rw[hU] at h;refine Calls.mono h λe w' hh=>?_
 obtain⟨v,g',he,_,hst,hv⟩:=hh;rw[hR] at hv;have hb:=hv.n5;rw[he,hb];refine⟨rfl,hst.os,hst.tape,hst.output,hst.size,λk hk=>hst.jh k hk⟩
def OZ(hl:laidOutB P=true){W W':World}(hb:Below W.heap.size W W'):∀(ts:List TypeId) (vs:List Value) (ds:List (DataW H)) (ps:List MemPlace),(∀t,t∈ts->P.readableRec t=true/\t<P.types.size)->mx enc P W 0 (λ_=>true) true ts vs ds ps->
 mx enc P W' 0 (λb=>c3 (b<W.heap.size)) true ts vs ds ps/\ds.length=ts.length
 |[],[],[],_,_,h=>⟨h,rfl⟩
 |[],[],_::_,_,_,h=>h.elim
 |[],_::_,[],_,_,h=>h.elim
 |[],_::_,_::_,_,_,h=>h.elim
 |_::_,[],[],_,_,h=>h.elim
 |_::_,[],_::_,_,_,h=>h.elim
 |_::_,_::_,[],_,_,h=>h.elim
 |t::ts,v::vs,d::ds,ps,hr,h=>by
  obtain⟨p,q,h1,h2,he⟩:=h;have hx:∀x∈p,x.block<W.heap.size:=by obtain⟨m,hm⟩:=h1;exact DataW.trod_lt m _ _ _ hm
  obtain⟨i1,i2⟩:=OZ hl hb ts vs ds q (λt ht=>hr t (by simp[ht])) h2;exact⟨⟨p,q,Below.trod hl (hr t (by simp)).1 (hr t (by simp)).2 h1 hb hx,i1,he⟩,by simp[i2]⟩
def ahF{C:Checked}{c:aq B}{os:Os}{fn:Func}{s:ChangeSpec}{conds:List PathCond}{tb:TypeId}(own:ownKnob C.prog.godebug=ea)(started:os.Started)(noInit:C.prog.inits.idxOf? c.cO=ea)(hfn:C.prog.funcs[c.cO]?=c5 fn)
 (witness:∃(w:World) (tape:Tape) (i:Input),w.os=os/\(w.forCall tape i).Shaped C.prog/\i.vars=[]/\Input.okWide C.prog (w.forCall tape i) .any w.heap.size c.cO i/\
  s.pre6 enc C.prog fn conds false (w.forCall tape i).memory i.args/\({}:Assume).holds C.prog (lone (Frame.enter C.prog c.cO i.args .normal) [] (w.forCall tape i)))
 (hT:xA C.prog=true) (hl:laidOutB C.prog=true) (eZ:fn.params.toList.all (λt=>C.prog.readableRec t&&j8 t C.prog.types.size)=true) (hvars:s.vars=[]) (hres:fn.resultTypes=#[tb]) (htb:C.prog.underlying tb=c5 .bool)
 (hs:∀ds:List (DataW H),ds.length=fn.params.toList.length->s.fn H ds={results:=[.lit (.bool true)],args:=ds}) (hna:c.na=fn.params.toList.length) (hf:Fits C.prog B c) (hc:G8 C.prog c fn.params.toList):
 ReturnsInHanded {} C os c.cO .any (s.pre6 enc C.prog fn conds false) (s.post enc C.prog fn false true false false):=by
 have hrd':∀t,t∈fn.params.toList->C.prog.readableRec t=true/\t<C.prog.types.size:=λt ht=>by
  have:=(n0.1 eZ) t ht;rw[j2] at this;exact⟨this.1,e4 this.2⟩
 refine returnsInHanded_of_change own started noInit hfn witness ?_
 intro W base args ds gs before hval hW hcnd _;have hW':=hW;obtain⟨p,q,hA,hV,rfl,hfz,hnd⟩:=hW;rw[hvars] at hV;obtain⟨rfl,rfl⟩:=trodVars_none hV;refine(aqj (base:=base) hT hA (λt ht=>(hrd' t ht).2) (λj t v ht hv=>hval j t v (by simpa using ht) (by simpa using hv)) hna hf hc).mono λe W' ⟨he,hZ⟩=>?_
 subst he;obtain⟨b1,b2⟩:=OZ hl hZ fn.params.toList args.toList ds p hrd' hA;have hsd:s.fn H (ds++[])={results:=[.lit (.bool true)],args:=ds}:=by rw[ft];exact hs ds b2
 refine⟨_,rfl,ds,[],_,[],p,[],hW',?_,?_,?_,hZ.frame _,λh=>by cases h⟩
 .rw[hsd,hres];exact trodAll_mk1 (shut_bool htb _)
 .rw[hsd];exact b1
 .rw[hsd,hvars];rfl
end
def ahG{h:Program}{i:TypeId}{e:IntKind}{p:List PV}(c:h.underlying i=c5 (.int e))(a:TP h i p):∃d:Int,p=[.int e d]/\(s7 e d).wf=true:=by
 cases a with
 |int _ q d a k=>rw[c] at a;cases a;exact⟨d,rfl,k⟩
 |bool _ b a=>rw[c] at a;cases a
 |str _ n a s=>rw[c] at a;cases a
 |slice _ m t a f u g=>rw[c] at a;cases a
 |struct _ r l a f g=>rw[c] at a;cases a
 |array _ m d l a f g=>rw[c] at a;cases a
 |other _ o a j=>rw[c] at a;cases a;cases j
def PX{e:Program}{c:TypeId}{g:IntKind}(j:e.underlying c=c5 (.int g))(i:dP e c=c5 false):∀a:List (List PV),(∀p,p∈a->TP e c p)->∃b:List Int,a.map (jG (dP e c))=b.map (.int g)/\b.length=a.length/\∀d,d∈b->(s7 g d).wf=true
 |[],_=>⟨[],rfl,rfl,by simp⟩
 |p::a,h=>by
  obtain⟨b,k,m,l⟩:=PX j i a λq o=>h q (c7 _ o)
  obtain⟨r,rfl,n⟩:=ahG j (h p (j3 ..));refine⟨r::b,?_,by simp[m],λd f=>?_⟩
  .rw[hz,hz,k,i];rfl
  .rcases dd.1 f with rfl |f
   .exact n
   .exact l d f
def aeB{f:Program}{j e:TypeId}{k:IntKind}{p:List PV}(c:f.underlying j=c5 (.slice e))(u:f.underlying e=c5 (.int k))(n:dP f e=c5 false)(o:f.cellsOf e=1)(a:TP f j p):
 ∃d:List Int,p=[.vs 1 (d.map (.int k))]/\d.length<=maxLen/\∀i,i∈d->(s7 k i).wf=true:=by
 cases a with
 |int _ y q a A=>rw[c] at a;cases a
 |bool _ b a=>rw[c] at a;cases a
 |str _ v a C=>rw[c] at a;cases a
 |slice _ w t a h D g=>
  rw[c] at a;cases a;obtain⟨d,s,z,l⟩:=PX u n t g;exact⟨d,by rw[s,o],by omega,l⟩
 |struct _ B r a h g=>rw[c] at a;cases a
 |array _ e q r a h g=>rw[c] at a;cases a
 |other _ x a m=>rw[c] at a;cases a;cases m
def ajJ{c:Program}{b:TypeId}{f:List TypeId}{e:List PV}(l:Typed c (b::f) e):∃p q,TP c b p/\e=jG (dP c b) p::q/\Typed c f q:=by
 obtain⟨d,a⟩:=l
 match e,d,a with
 |h::q,d,a=>
  obtain⟨p,j,rfl⟩:=a 0 b h rfl rfl;exact⟨p,q,j,rfl,by simpa using d,λi g k m n=>a (i+1) g k (by simpa using m) (by simpa using n)⟩
def adH{b:Program}{a:List PV}(c:Typed b [] a):a=[]:=List.length_eq_zero_iff.1 c.1
end Go.X
namespace Go.X
open Go Go.Aml Go.Bml
def aob:Option Nat->PV
 |none=>.dB
 |some f=>.fn f [] []
def mM(a:Int):List Int->List Int
 |[]=>[a]
 |b::c=>bif c3 (a<=b) then a::b::c else b::mM a c
def dQ:List Int->List Int
 |[]=>[]
 |b::a=>mM b (dQ a)
def rC(a:List Int):Option (List Int):=bif m5 a.length 140737488355328 then c5 (dQ a) else ea
def Ct(a:Nat)(n:Int):Option (List Int):=bif c3 (0<=n) then(gP a (0:Int) n).bind λ_=>c5 [] else ea
def B2{b:Type}(d:Nat)(a:List b)(i:Int)(c:List b):Option (List b):=if 0<=i/\i<=(a.length:Int)/\c.length=1 then(bj d a c).bind λ_=>c5 (a.take i.toNat++c++a.drop i.toNat) else ea
universe u
def px{a:Type u}:List (List a)->Nat->List a
 |[],_=>[]
 |c::_,0=>c
 |_::b,n+1=>px b n
def Br:List (Nat×Ty)->Nat->Ty
 |[],_=>⟨Empty,λ_=>.any⟩
 |p::r,n=>bif fe p.1 n then p.2 else Br r n
structure xz where
 sz:Nat
 fl:Bool
 el:Nat
def Eu:List (Nat×xz)->Nat->xz
 |[],_=>⟨1,false,0⟩
 |p::r,n=>bif fe p.1 n then p.2 else Eu r n
structure Ev (D:Nat->Type) (n:Nat) where
 tv:D n->TV D
 up:TV D->Option (D n)
def ev0(D:Nat->Type)(n:Nat):Ev D n:=⟨λ_=>.any,λ_=>ea⟩
def Jq(D:Nat->Type):List (Σ n,Ev D n)->(n:Nat)->Ev D n
 |[],n=>ev0 D n
 |p::r,n=>if a:p.1=n then a▸p.2 else Jq D r n
section
variable (D:Nat->Type)
def dA{a b:Type}(c:a=b)(d:a):b:=cast c d
def fA{n:Nat}(b:IntKind)(a:D n=Int):Ev D n:=⟨λc=>.int b (dA a c),λ| .int e d=>bif fV e b then c5 (dA a.symm d) else ea |_=>ea⟩
def nE{n:Nat}(a:D n=Bool):Ev D n:=⟨λc=>.bool (dA a c),λ| .bool b=>c5 (dA a.symm b) |_=>ea⟩
def iR{n:Nat}(a:D n=Option Nat):Ev D n:=⟨λb=>.jC (dA a b),λ| .jC c=>c5 (dA a.symm c) | .dB=>c5 (dA a.symm ea) | .fn f [] []=>c5 (dA a.symm (c5 f)) |_=>ea⟩
def bJ{n:Nat}(b:Nat)(a:D n=List (D b)):Ev D n:=⟨λd=>.row b (dA a d),λ| .row f e=>if c:f=b then c5 (dA a.symm (c▸e)) else ea | .bg=>c5 (dA a.symm []) | .z0=>c5 (dA a.symm []) |_=>ea⟩
def uO(a:Nat):List (TV D)->Option (List (List (D a)))
 |[]=>c5 []
 | .row b d::e=>if c:b=a then(match uO a e with |some r=>c5 ((c▸d)::r) |none=>ea) else ea
 |_=>ea
def pM{n:Nat}(b d:Nat)(a:D n=List (D b))(f:D b=List (D d)):TV D->Option (D n)
 | .row c h=>if g:c=b then c5 (dA a.symm (g▸h)) else ea
 | .bg=>c5 (dA a.symm [])
 | .z0=>c5 (dA a.symm [])
 | .rv c e=>bif fe c b then(match uO D d e with
  |some i=>c5 (dA a.symm (i.map (dA f.symm)))
  |none=>ea) else ea
 |_=>ea
def lx{n:Nat}(a c:Nat)(b:D n=List (D a))(d:D a=List (D c)):Ev D n:=⟨λe=>.row a (dA b e),pM D a c b d⟩
variable (lf:(n:Nat)->Ev D n)
def E6:(ns:List Nat)->bi D ns->List (TV D)
 |[],_=>[]
 |[n],a=>[(lf n).tv a]
 |n::b::ns,a=>(lf n).tv a.1::E6 (b::ns) a.2
def CL{b a:Type}:Option b->Option a->Option (b×a)
 |some c,c5 d=>c5 (c,d)
 |_,_=>ea
def aid{e d:Type}{a:Option e}{b:Option d}{p:e×d}(c:CL a b=c5 p):a=c5 p.1/\b=c5 p.2:=by
 cases a <;> cases b <;> simp[CL] at c
 subst c;exact⟨rfl,rfl⟩
def Au:(ns:List Nat)->List (TV D)->Option (bi D ns)
 |[],[]=>c5 ()
 |[n],[a]=>(lf n).up a
 |n::b::ns,a::c=>CL ((lf n).up a) (Au (b::ns) c)
 |_,_=>ea
def cw{n:Nat}{a:Type}(ns:List Nat)(mk:bi D ns->a)(e:a->bi D ns)(b:D n=a):Ev D n:=
 ⟨λd=>.agg (E6 D lf ns (e (dA b d))),λ
  | .agg c=>(match Au D lf ns c with
   |some f=>c5 (dA b.symm (mk f))
   |none=>ea)
  |_=>ea⟩
end
end Go.X
namespace Go.X
open Go Go.Aml
def lK(a:Int):Option Nat:=bif c3 (1<=a) then(bif c3 (a<=13) then c5 (102+a.toNat) else ea) else ea
end Go.X
