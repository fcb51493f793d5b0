/- For TopTracked, part 2. -/
import Derived.Test.YtfljhldgncdifaaGreatTA
import Derived.Laws.CopyRow
import Derived.ProofKit
import Derived.OpenShut
import Derived.ChangeOld
import Derived.Deep.Slices
import Derived.KernelRfl
import Derived.WalkKit
import Derived.ShutString
import Derived.Below
import Derived.Carry
set_option linter.defProp false
set_option linter.unusedVariables false
set_option linter.unusedSimpArgs false
open Decidable renaming decide → c3
open List renaming getElem?_eq_getElem → c4, mem_append → c6, mem_cons_of_mem → c7, mem_cons → dd, getElem?_append_right → dk, getElem?_append_left → dt, append_assoc → dv, eq_nil_of_length_eq_zero → dT, getElem?_eq_some_iff → e0, length_append → e5, getElem?_map → ec, mem_of_getElem? → ej, getElem?_take_of_lt → eo, getElem?_set_self → ev, mem_map → ey, getElem?_set_ne → eH, append_nil → ft, getElem?_eq_none → ga, range → gv, take_append_drop → gx, getElem?_toArray → gy, length_set → h6, getD_eq_getElem?_getD → h8, length_take → hq, map_cons → hz, replicate → hB, getElem?_drop → hK, mem_range → hL, mem_map_of_mem → hY, getElem?_range → ie, length_drop → ih, mem_cons_self → j3, mem_append_right → j5, length_replicate → j7, eq_of_mem_replicate → k0, nodup_cons → k8, getElem?_cons_zero → kc, flatten_cons → kl, length_map → l3, drop_zero → m2, getElem?_eq_none_iff → m4, mem_range'_1 → m6, map_take → mb, all_eq_true → n0, take_of_length_le → n1, map_map → n2, length_eq_one_iff → ng, nil_append → o3, map_append → o4, singleton_append → o8, range' → o9, mem_append_left → oi, getElem_of_mem → oo, map_drop → oq, countP_append → p4, ext_getElem? → p6, reverse_cons → p7, getElem_mem → q6, range'_succ → q7, not_mem_nil → q8, mem_filter → r0, drop_drop → r3
open Option renaming some → c5, none → ea, bind_eq_some_iff → ei, map_some → l4, bind_some → my, getD_some → qa
open Nat renaming le_of_ble_eq_true → e4, zero_add → e6, le_refl → ef, beq → fe, mul_le_mul_right → gb, lt_or_ge → hI, ble_eq_true_of_le → hM, beq_refl → hQ, add_zero → hS, blt → j8, add_mul → j9, eq_of_beq_eq_true → l0, lt_succ_self → l1, zero_le → l2, le_trans → la, pos_of_ne_zero → m3, ble → m5, min_eq_left → o6, strongRecOn → o7, lt_trichotomy → q3, one_pos → qb, one_mul → qq, min_comm → rb, sub_zero → s5, sub_self → s6, zero_mul → s8
open Option.some renaming injEq → ee
open Go.Builtin renaming zeroCells → ez, clear_ → j1, copy_ → k6, firstCells → p0, lenOf → r4
open Prod.mk renaming inj → eE, injEq → h5
open Go.Result renaming andThen_ok → h7
open Array renaming getElem?_eq_getElem → h9, getD_eq_getD_getElem? → hD, replicate → hP, toArray_toList → hU, mem_toList_iff → hX, getElem?_eq_none → j4, getElem?_toList → j6, getElem?_setIfInBounds_ne → km, getElem_mem → q2
open Bool renaming and_eq_true → j2
open Go.Region renaming wanted → k7, binds → m1, ready → pc
open Classical renaming axiomOfChoice → kd
open Go.Sem renaming run_bind → kh, run_pure → m0
open Go.Op renaming operands → ma, call → s3
open Go.DataW renaming TrodAll → mx, trod → o1
open List.cons renaming injEq → o2
open Go.Instr renaming sureAddr → oj, loadAt → q4
open Go.Call renaming operands → oS
open Go.Value renaming okWide → q5, cells → sp
open Go.Oper renaming wp → r5
open Go.Lit renaming int → s7
open Go.Addr renaming add_lit → sa
open Go.Cell renaming okWide → sn
namespace Go.X
open Go Go.Aml Go.Bml
section
variable {P:Program}{B:Tb}{R:Type}{r:R}
def eJ(B:Tb):List Nat->List (TV B.D)->List (TV B.D)->Prop
 |[],[],[]=>True
 |b::ns,f::d,e::c=>(∃a,B.up b f=c5 a/\e=B.tv b a)/\eJ B ns d c
 |_,_,_=>False
def Ae:∀{ns:List Nat} {f:List (TV B.D)} {b:bi B.D ns->Option R},m9 B ns f b=c5 r->∃c,b c=c5 r/\eJ B ns f (rQ B ns c)
 |[],[],b,a=>⟨(),a,trivial⟩
 |[i],[g],b,a=>by
  obtain⟨c,d,e⟩:=fq (by simpa only[m9] using a);exact⟨c,e,⟨c,d,rfl⟩,trivial⟩
 |i::l::ns,g::k,b,a=>by
  simp only[m9] at a;obtain⟨c,d,a⟩:=fq a;obtain⟨h,e,j⟩:=Ae a;exact⟨(c,h),e,⟨c,d,rfl⟩,j⟩
 |[],_::_,b,a=>by simp[m9] at a
 |[_],[],b,a=>by simp[m9] at a
 |_::_::_,[],b,a=>by simp[m9] at a
 |[_],_::_::_,b,a=>by simp[m9] at a
def eJ.split:∀{ns e:List Nat} {ls c d:List (TV B.D)},eJ B (aX ns e) (aX ls c) d->ls.length=ns.length->∃k j,d=k++j/\eJ B ns ls k/\eJ B e c j
 |[],e,[],c,d,h,_=>⟨[],d,rfl,trivial,h⟩
 |n::ns,e,l::ls,c,m::d,h,a=>by
  obtain⟨o,s⟩:=h;obtain⟨k,j,rfl,u,t⟩:=eJ.split (ns:=ns) (ls:=ls) s (by simpa using a);exact⟨m::k,j,rfl,⟨o,u⟩,t⟩
 |n::ns,e,l::ls,c,[],h,a=>h.elim
 |[],_,_::_,_,_,_,a=>by simp at a
 |_::_,_,[],_,_,_,a=>by simp at a
def yx{p:Nat->Type}{H:List (Ob p)}{i:Nat}:∀{l:List Nat},i∈kY H l↔∃r k v m j,r∈l/\nth H r=c5 ⟨k,v,.hole m [] j⟩/\i∈iB j
 |[]=>by simp[kY]
 |r::l=>by
  have n:=yx (H:=H) (i:=i) (l:=l);unfold kY
  split
  .rename_i k v m j o;rw[bK,c6,n]
   constructor
   .rintro(q |⟨h,d,g,e,f,b,a,c⟩)
    .exact⟨r,k,v,m,j,by simp,o,q⟩
    .exact⟨h,d,g,e,f,c7 _ b,a,c⟩
   .rintro⟨h,d,g,e,f,b,a,c⟩;rcases dd.1 b with rfl |b
    .rw[o] at a;injection a with a
     injection a with _ _ a
     injection a with e1 e2 e3
     subst e1;rw[<-e3] at c;exact .inl c
    .exact .inr ⟨h,d,g,e,f,b,a,c⟩
  .rename_i s;rw[n]
   constructor
   .rintro⟨h,d,g,e,f,b,a,c⟩;exact⟨h,d,g,e,f,c7 _ b,a,c⟩
   .rintro⟨h,d,g,e,f,b,a,c⟩;rcases dd.1 b with rfl |b
    .exact absurd a (s _ _ _ _)
    .exact⟨h,d,g,e,f,b,a,c⟩
def jN{c:Nat->Type}(b:List (Ob c))(a:List Nat)(i:Nat):Prop:=i∈aX a (kY b a)
def jN.mono{D:Nat->Type}{H:List (Ob D)}{l a:List Nat}{i:Nat}(h:jN H l i)(c:∀r,r∈l->r∈a):jN H a i:=by
 unfold jN at h⊢;rw[bK,c6] at h⊢;rcases h with h |h
 .exact .inl (c i h)
 .obtain⟨r,s,v,n,es,d,e,j⟩:=yx.1 h;exact .inr (yx.2 ⟨r,s,v,n,es,c r d,e,j⟩)
def jN.one{D:Nat->Type}{H:List (Ob D)}{l:List Nat}{i:Nat}(h:i∈l):jN H l i:=by
 unfold jN;rw[bK,c6];exact .inl h
def aoW{g:Gh}{u:List aO}{m:World}{r:Nat}{o:aO}{y:Value}{n:Nat->Prop}{f:List PV}(K:qT g u m r o)(j:SL g o r 0 o.es.length y)(x:f.length=o.es.length)(E:∀(i:Nat) (w:PV),f[i]?=c5 w->w.cells.length=o.sz)
 (F:∀b v,g.β r=c5 (b,v)->n b) (J:∀i a c,abk f i a=c5 c->∃p,abk o.es i a=c5 p/\∀d,VR g u m p d->VI n m c d):VI n m (.vs o.sz f) y:=by
 obtain⟨_,j⟩:=j;have s:=K.mem;cases q:g.β r with
 |none=>
  rw[q] at j s;obtain⟨_,h0,z,rfl⟩:=j;have:f=[]:=dT (by omega);subst this;exact .eX o.sz z 0
 |some A=>
  obtain⟨b,v⟩:=A;rw[q] at j s;obtain⟨cap,z,rfl,C,M,H⟩:=j;obtain⟨rfl,rfl⟩:=H rfl;obtain⟨O,cells,G,Q,S,N,L⟩:=s;rw[<-x];have t:∀i a c,abk f i a=c5 c->∃d,cells[i*o.sz+a]?=c5 d/\d.oneCell'=true/\VI n m c d:=λi a c h=>by
   obtain⟨p,I,D⟩:=J i a c h;obtain⟨d,e,l,k⟩:=L i a p I;exact⟨d,e,l,D d k⟩
  refine .vs o.sz f b 0 cap (λi a=>(cells[i*o.sz+a]?).getD undef) (by rw[x];exact C) (F b cap q) E (λi a c h=>?_) (λi a c h=>?_) (λi a c h=>?_)
  .obtain⟨d,e,l,k⟩:=t i a c h;rw[e,e6];unfold World.cell?;rw[G];simpa using e
  .obtain⟨d,e,l,k⟩:=t i a c h;rw[e];exact l
  .obtain⟨d,e,l,k⟩:=t i a c h;rw[e];exact k
def S8{c:List (Ob B.D)}{a:List Nat}{b:TV B.D}:(pv B (ml c a b)).cells=[pv B (ml c a b)]:=by
 unfold ml
 split
 .split
  .cases has a _ <;> rfl
  .rfl
 .rfl
def agS{g:Gh}{a:List (Ob B.D)}{f:World}{c:List Nat}{i:Nat->Option Nat}{d:Nat->Prop}(u:cU P B)(y:bF g (av B a) f){q j:Nat}{v:Value}(t:q∉c->d q)(s:VR g (av B a) f (.fl q j) v):VI (dj g i d).F f (pv B (ml a c (.fl q j))) v:=by
 unfold ml;simp only
 split
 .rename_i l C w;cases m:has c q with
  |true=>exact .any v
  |false=>
   obtain⟨z,k⟩:=fx w;have e:=df k;have n:=lh (s.ub e rfl) e rfl;have:=Ed (y.obj q _ e) n (λA o=>by
    obtain⟨x,_,rfl⟩:=ey.1 o;exact u.lt l x) (F:=(dj g i d).F) (λ_ h=>.inl h) λb p h=>.inr ⟨q,p,t (nA m),h⟩
   simp only[aY] at this;rw[m2,n1 (ef _)] at this;exact this
 .exact .any v
def Hi{c:Nat->Type}{b:List (Ob c)}{d:List Nat}:∀a:List (TV c),qf b d a=a.map (ml b d)
 |[]=>rfl
 |e::a=>by simp only[qf,Hi a,hz]
def Hw{d:Nat->Type}:∀{l:List (TV d)},DA l=true->∀(i:Nat) (b:TV d),l[i]?=c5 b->∃q c,b= .fl q c/\q∈iB l
 |[],_,_,_,a=>by simp at a
 |k::l,e,i,b,a=>by
  cases k with
  |fl q c=>
   cases i with
   |zero=>simp at a;exact⟨q,c,a.symm,by simp[iB,refs,bK]⟩
   |succ i=>
    obtain⟨g,h,j,f⟩:=Hw (l:=l) e i b (by simpa using a);exact⟨g,h,j,by simp only[iB,bK,c6];exact .inr f⟩
  |_=>cases e
mutual
def Jt{g:Gh}{j:List (Ob B.D)}{K:World}{kept:List Nat}{src:Nat->Option Nat}{fz:Nat->Prop}(y:cU P B)(t:bF g (av B j) K):
 ∀(z:TV B.D) (v:Value),(∀i,jN j (refs z) i->i∉kept->fz i)->VR g (av B j) K (pv B z) v->VI (dj g src fz).F K (pv B (kJ j kept z)) v
 | .any,v,d,_=>.any v
 | .z0,v,d,a=>(a.dH .z0).mono (λ_ c=>.inl c) λ_ _=>rfl
 | .fS,v,d,a=>(a.dH .fS).mono (λ_ c=>.inl c) λ_ _=>rfl
 | .bg,v,d,a=>(a.dH .bg).mono (λ_ c=>.inl c) λ_ _=>rfl
 | .dB,v,d,a=>(a.dH .dB).mono (λ_ c=>.inl c) λ_ _=>rfl
 | .int ak p,v,d,a=>(a.dH (.int _ _)).mono (λ_ c=>.inl c) λ_ _=>rfl
 | .bool b,v,d,a=>(a.dH (.bool _)).mono (λ_ c=>.inl c) λ_ _=>rfl
 | .str H,v,d,a=>(a.dH (.str _)).mono (λ_ c=>.inl c) λ_ _=>rfl
 | .row p C,v,d,a=>(a.dH (.vs _ _)).mono (λ_ c=>.inl c) λ_ _=>rfl
 | .rv p am,v,d,a=>(a.dH (.vs _ _)).mono (λ_ c=>.inl c) λ_ _=>rfl
 | .vp x Q,v,d,a=>(a.dH (.dw _ _)).mono (λ_ c=>.inl c) λ_ _=>rfl
 | .ptr ..,v,d,_=>.any v
 | .bu _,v,d,_=>.any v
 | .jC ea,v,d,a=>(a.dH .dB).mono (λ_ c=>.inl c) λ_ _=>rfl
 | .jC (c5 f),v,d,a=>(a.dH (.fn _ _ _ (by simp) (by simp))).mono (λ_ c=>.inl c) λ_ _=>rfl
 | .fl q G,v,d,a=>by
  simp only[kJ];cases S:aK j q G with
  |none=>exact .any v
  |some b=>
   cases b with
   |aap p C=>
    simp only;cases A:has kept q with
    |true=>exact .any v
    |false=>
     obtain⟨H,I⟩:=fx S;have s:=df I;have L:=lh (a.ub s rfl) s rfl;have:=Ed (t.obj q _ s) L (λab m=>by
      obtain⟨k,_,rfl⟩:=ey.1 m;exact y.lt p k) (F:=(dj g src fz).F) (λ_ c=>.inl c) λb N c=>.inr ⟨q,N,d q (.one (by simp[refs])) (nA A),c⟩
     simp only[aY] at this;rw[m2,n1 (ef _)] at this;exact this
   |box _ _=>exact .any v
   |dead=>exact .any v
   |hole p C u=>
    cases C with
    |cons _ _=>exact .any v
    |nil=>
    simp only;cases A:has kept q with
    |true=>exact .any v
    |false=>
    cases aa:DA u with
    |false=>exact .any v
    |true=>
     obtain⟨H,I⟩:=fx S;have s:=df I;have L:=lh (a.ub s rfl) s rfl;have af:=t.obj q _ s;have X:(aY B ⟨H,G,.hole p [] u⟩).es=aP B u:=rfl;have ae:∀i,(aP B (qf j kept u))[i]?=(u[i]?).map λz=>pv B (ml j kept z):=λi=>by
      rw[Hi,db,n2,ec]
      rfl
     refine aoW (o:=aY B ⟨H,G,.hole p [] u⟩) af L (by rw[X,Hi,db,db];simp) (λi ab m=>?_) (λb N c=>.inr ⟨q,N,d q (.one (by simp[refs])) (nA A),c⟩) (λi Q ad h=>?_)
     .rw[ae] at m;cases e:u[i]? with
      |none=>rw[e] at m;cases m
      |some z=>
       rw[e] at m;injection m with m
       subst m;obtain⟨J,O,rfl,Z⟩:=Hw aa i z e;have:=af.width i (.fl J O) (by rw[X,db,ec,e];rfl);rw[S8];exact this
     .unfold abk at h;rw[ae] at h;cases e:u[i]? with
      |none=>rw[e] at h;cases h
      |some z=>
       rw[e] at h;obtain⟨J,O,rfl,Z⟩:=Hw aa i z e;have h:(pv B (ml j kept (.fl J O))).cells[Q]?=c5 ad:=h;rw[S8] at h;cases Q with
       |succ Q=>simp at h
       |zero=>
        have h:c5 (pv B (ml j kept (.fl J O)))=c5 ad:=h;injection h with h
        subst h;refine⟨.fl J O,?_,λal ai=>agS y t (λag=>d J ?_ ag) ai⟩
        .unfold abk;rw[X,db,ec,e]
         rfl
        .unfold jN;rw[bK,c6];exact .inr (yx.2 ⟨q,H,G,p,u,by simp[refs],I,Z⟩)
 | .sl q G an len,v,d,a=>by
  simp only[kJ];cases S:aK j q G with
  |none=>exact .any v
  |some b=>
   cases b with
   |aap p C=>
    simp only;cases A:has kept q with
    |true=>exact .any v
    |false=>
     obtain⟨H,I⟩:=fx S;have s:=df I;have L:=lh a s rfl;have:=Ed (t.obj q _ s) L (λab m=>by
      obtain⟨k,_,rfl⟩:=ey.1 m;exact y.lt p k) (F:=(dj g src fz).F) (λ_ c=>.inl c) λb N c=>.inr ⟨q,N,d q (.one (by simp[refs])) (nA A),c⟩
     simpa[aY,pv,mb,oq] using this
   |box _ _=>exact .any v
   |dead=>exact .any v
   |hole _ _ _=>exact .any v
 | .agg x,v,d,a=>by
  obtain⟨C,rfl,n,A⟩:=a.ky;exact .agg _ C (by rw[<-n];exact(pH (src:=src) y t x C d n A).1) (pH (src:=src) y t x C d n A).2
 | .fn f x M,v,d,a=>by
  have aj:∃l vs:List Value,v= .func (.func f) l.toArray vs.toArray/\(aP B x).length=l.length/\(∀(i:Nat) (w:PV) (k:Value),(aP B x)[i]?=c5 w->l[i]?=c5 k->VR g (av B j) K w k)/\(aP B M).length=vs.length/\
   (∀(i:Nat) (w:PV) (k:Value),(aP B M)[i]?=c5 w->vs[i]?=c5 k->VR g (av B j) K w k):=by
   have ah:VR g (av B j) K (.fn f (aP B x) (aP B M)) v:=a;cases ah with
   |aW a=>cases a with |fn _ _ _ l vs n V D W=>exact⟨l,vs,rfl,n,λi w k U T=>.aW (V i w k U T),D,λi w k U T=>.aW (W i w k U T)⟩
   |fn _ _ _ l vs n V D W=>exact⟨l,vs,rfl,n,V,D,W⟩
  obtain⟨l,vs,rfl,n,Y,D,ac⟩:=aj;exact .fn f _ _ l vs (by rw[<-n];exact(pH (src:=src) y t x l (λi e=>d i (e.mono λr E=>by simp only[refs,bK,c6];exact .inl E)) n Y).1) (pH (src:=src) y t x l (λi e=>d i (e.mono λr E=>by simp only[refs,bK,c6];exact .inl E)) n Y).2 (by rw[<-D];exact(pH (src:=src) y t M vs (λi e=>d i (e.mono λr E=>by simp only[refs,bK,c6];exact .inr E)) D ac).1) (pH (src:=src) y t M vs (λi e=>d i (e.mono λr E=>by simp only[refs,bK,c6];exact .inr E)) D ac).2
def pH{g:Gh}{e:List (Ob B.D)}{j:World}{kept:List Nat}{src:Nat->Option Nat}{fz:Nat->Prop}(p:cU P B)(q:bF g (av B e) j):
 ∀(b:List (TV B.D)) (d:List Value),(∀i,jN e (iB b) i->i∉kept->fz i)->(aP B b).length=d.length->(∀(i:Nat) (a:PV) (c:Value),(aP B b)[i]?=c5 a->d[i]?=c5 c->VR g (av B e) j a c)->
  (aP B (jS e kept b)).length=(aP B b).length/\∀(i:Nat) (a:PV) (c:Value),(aP B (jS e kept b))[i]?=c5 a->d[i]?=c5 c->VI (dj g src fz).F j a c
 |[],d,_,_,_=>⟨rfl,by simp[jS,aP]⟩
 |a::b,[],_,m,_=>by simp[aP] at m
 |a::b,c::d,o,m,n=>by
  obtain⟨t,s⟩:=pH (src:=src) p q b d (λi k=>o i (k.mono λr l=>by simp only[iB,bK,c6];exact .inr l)) (by simpa[aP] using m) λi a c h f=>n (i+1) a c (by simpa[aP] using h) (by simpa using f)
  refine⟨by simp[jS,aP,t],λi u v h f=>?_⟩
  cases i with
  |zero=>
   simp[jS,aP] at h f;subst h;subst f;exact Jt p q a c (λi k=>o i (k.mono λr l=>by simp only[iB,bK,c6];exact .inl l)) (n 0 _ _ (by simp[aP]) (by simp))
  |succ i=>exact s i u v (by simpa[jS,aP] using h) (by simpa using f)
end
structure mR (B:Tb) (g:Gh) (H H':List (Ob B.D)) (w:World) (ids:List Rf) (kept:List Nat) (src:Nat->Option Nat) (ρ:Nat->Nat×Nat):Prop where
 m:bF g (av B H) w
 num:∀q,(ρ q).1=q
 bG:∀q i,nth ids q=c5 (.bG i)->src q=c5 i/\∃o o',nth H i=c5 o/\nth H' q=c5 o'/\o'.aF=(ρ q).2/\(aY B o').sz=(aY B o).sz/\(aY B o').es.length=(aY B o).es.length
 new:∀q,nth ids q=c5 .new->src q=ea/\∃o',nth H' q=c5 o'/\o'.aF=(ρ q).2/\(aY B o').es=[]
def iK{c:Type}{f b:Option (List c)}{g:List c}(a:cat f b=c5 g):∃e d,f=c5 e/\b=c5 d/\g=aX e d:=by
 unfold cat at a
 split at a
 .injection a with a
  exact⟨_,_,rfl,rfl,a.symm⟩
 .cases a
def e7(a:Ob B.D):(aY B a).aF=a.aF:=by
 unfold aY
 split <;> rfl
def WO{g:Gh}{d p:List (Ob B.D)}{h:World}{m:List Rf}{u:List Nat}{e:Nat->Option Nat}{x:Nat->Prop}{f:Nat->Nat×Nat}(n:mR B g d p h m u e f){q i k t:Nat}{b:Bd B.D}{v:Value}
 (s:nth m q=c5 (.bG i)) (l:nth d i=c5 ⟨t,k,b⟩) (j:VR g (av B d) h (.ptr i k 0 0) v):VR (dj g e x) (av B p) h (.ptr (f q).1 (f q).2 0 0) v:=by
 obtain⟨z,L,E,c,y,H,I,A⟩:=n.bG q i s;rw[l] at c;injection c with c
 subst c;have o:=df l;cases j with
 |aW j=>cases j
 |ptr _ _ _ _ K M a J C=>
  unfold ek at o;rw[o] at a;injection a with a
  subst a;obtain⟨w,G,D,F,rfl⟩:=C (by rw[e7]);rw[n.num];refine .ptr q _ 0 0 (aY B E) _ (df y) (by rw[e7,H];exact ef _) λ_=>⟨by rw[A];exact w,G,D,?_,by rw[I]⟩
  show(e q).bind g.β=_
  rw[z];exact F
def LX{g:Gh}{e u:List (Ob B.D)}{h:World}{m:List Rf}{y:List Nat}{a:Nat->Option Nat}{n:Nat->Prop}{f:Nat->Nat×Nat}(o:mR B g e u h m y a f){q i k x:Nat}{b:Bd B.D}{v:Value}
 (w:nth m q=c5 (.bG i)) (l:nth e i=c5 ⟨x,k,b⟩) (j:VR g (av B e) h (.fl i k) v):VR (dj g a n) (av B u) h (.fl (f q).1 (f q).2) v:=by
 obtain⟨C,J,D,d,A,F,G,s⟩:=o.bG q i w;rw[l] at d;injection d with d
 subst d;have t:=df l;cases j with
 |aW j=>cases j
 |fl _ _ I _ c H z E=>
  unfold ek at t;rw[t] at c;injection c with c
  subst c;rw[o.num];refine .fl q _ (aY B D) _ (df A) (by rw[e7,F];exact ef _) z λ_=>?_
  have p:=E (by rw[e7]);rw[s];unfold SL at p⊢;rw[G,s];rw[show(dj g a n).β q=g.β i by show(a q).bind g.β=_;rw[C];rfl];exact p
def MD{g:Gh}{l e:List (Ob B.D)}{d:World}{f:List Rf}{s:List Nat}{a:Nat->Option Nat}{h:Nat->Prop}{b:Nat->Nat×Nat}(i:mR B g l e d f s a b){q:Nat}{v:Value}
 (j:nth f q=c5 .new) (m:∃c,v= .slice c 0 0):VR (dj g a h) (av B e) d (.fl (b q).1 (b q).2) v:=by
 obtain⟨p,k,t,o,n⟩:=i.new q j;obtain⟨c,rfl⟩:=m;rw[i.num];refine .fl q _ (aY B k) _ (df t) (by rw[e7,o];exact ef _) rfl λ_=>?_
 unfold SL;rw[show(dj g a h).β q=ea by show(a q).bind g.β=_;rw[p];rfl,n];exact⟨by simp,rfl,rfl,c,rfl⟩
def Sb(B:Tb)(g:Gh)(d c:List (Ob B.D))(a:World)(i:Nat->Option Nat)(h:Nat->Prop)(e:CP)(f b:TV B.D):Prop:=
 (MG e=true->cE 0 (pv B b))/\∀v,VR g (av B d) a (pv B f) v->VR (dj g i h) (av B c) a (pv B b) v
def fu{a b:Bool}(c:(bif a then b else false)=true):a=true/\b=true:=by
 cases a with
 |true=>exact⟨rfl,c⟩
 |false=>cases c
mutual
def RY{g:Gh}{A ai:List (Ob B.D)}{w:World}{ad:List Rf}{S:List Nat}{Z:Nat->Option Nat}{fz:Nat->Prop}{ac:Nat->Nat×Nat}(L:cU P B)(I:mR B g A ai w ad S Z ac):
 ∀(c:CP) (s:TV B.D) (o:List (TV B.D)),(∀i,i∈jn A c s->i∉S->fz i)->eR A ad S c s=c5 o->o.length=c.bX.length/\∀h,eJ B c.bX o h->∃ar,(∀Q,hO ac c (h++Q)=(ar,Q))/\Sb B g A ai w Z fz c s ar
 | .any,s,o,t,a=>by
  simp only[eR,ee] at a;subst a;refine⟨rfl,λh n=>?_⟩
  cases h with
  |nil=>exact⟨.any,λ_=>rfl,λ_=>.any,λv _=>.any v⟩
  |cons y h=>exact n.elim
 | .v U,s,o,t,a=>by
  simp only[eR,ee] at a;subst a;refine⟨rfl,λh n=>?_⟩
  match h,n with
  |[y],⟨⟨m,J,aD⟩,_⟩=>
   subst aD;obtain⟨u1,u2⟩:=L.up U _ m J;refine⟨_,λ_=>rfl,λ_=>by rw[L.tv];exact L.lt U m,λv j=>.aW ?_⟩
   rw[L.tv];exact u2.vi (Jt L I.m s v t j)
 | .p q,s,o,t,a=>by
  have T:∃i x E b,s= .ptr i x 0 0/\nth ad q=c5 (.bG i)/\nth A i=c5 ⟨E,x,b⟩/\o=[]:=by
   simp only[eR] at a
   split at a
   .rename_i i x
    split at a
    .rename_i Y k au d H;obtain⟨p,l⟩:=a8 a;injection l with l
     obtain⟨E,D⟩:=fx d;exact⟨i,x,E,_,rfl,by rw[H,beq_eq p],D,l.symm⟩
    .cases a
   .cases a
  obtain⟨i,x,E,b,rfl,H,D,rfl⟩:=T;refine⟨rfl,λh n=>?_⟩
  cases h with
  |nil=>exact⟨_,λ_=>rfl,λa=>(by cases a),λv j=>WO I H D j⟩
  |cons y h=>exact n.elim
 | .r q,s,o,t,a=>by
  have T:o=[]/\∀v,VR g (av B A) w (pv B s) v->VR (dj g Z fz) (av B ai) w (.fl (ac q).1 (ac q).2) v:=by
   simp only[eR] at a
   split at a
   .rename_i i x
    split at a
    .rename_i U aj au d H;obtain⟨p,l⟩:=a8 a;injection l with l
     obtain⟨E,D⟩:=fx d;exact⟨l.symm,λv j=>LX I (by rw[H,beq_eq p]) D j⟩
    .rename_i U aj bb au d H;obtain⟨p,l⟩:=a8 a;injection l with l
     obtain⟨E,D⟩:=fx d;exact⟨l.symm,λv j=>LX I (by rw[H,beq_eq p]) D j⟩
    .cases a
   .split at a
    .rename_i H;injection a with a
     exact⟨a.symm,λv j=>MD I H ⟨ea,j.pF⟩⟩
    .cases a
   .split at a
    .rename_i H;injection a with a
     exact⟨a.symm,λv j=>MD I H j.rh⟩
    .cases a
   .cases a
  obtain⟨rfl,j⟩:=T;refine⟨rfl,λh n=>?_⟩
  cases h with
  |nil=>exact⟨_,λ_=>rfl,λa=>(by cases a),j⟩
  |cons y h=>exact n.elim
 | .q N,s,o,t,a=>by
  have T:∃k,ow N=true/\fg A ad S N k=c5 o/\(∀i,i∈gJ A N k->i∉S->fz i)/\((∃Y i x E,s= .ptr i x 0 0/\nth A i=c5 ⟨E,x,.box Y k⟩/\i∉S/\fz i)\/s= .vp k 0):=by
   simp only[eR] at a
   split at a
   .rename_i i x
    split at a
    .rename_i Y k d;obtain⟨E,D⟩:=fx d;cases V:has S i with
     |true=>rw[V] at a;cases a
     |false=>
      rw[V] at a;obtain⟨p,l⟩:=a8 a;refine⟨k,p,l,λe M=>t e ?_,.inl ⟨Y,i,x,E,rfl,D,nA V,t i (by simp[jn]) (nA V)⟩⟩
      simp only[jn,D,dd];exact .inr M
    .cases a
   .rename_i k;obtain⟨p,l⟩:=a8 a;exact⟨k,p,l,t,.inr rfl⟩
   .cases a
  obtain⟨k,X,d,ay,aQ⟩:=T;obtain⟨a1,aJ⟩:=rm (fz:=fz) L I N k o ay d;refine⟨a1,λh n=>?_⟩
  obtain⟨C,a9,aw,aY,ap⟩:=aJ h n;refine⟨.vp C 0,λQ=>by simp only[hO,a9 Q],λ_=>.dw _ _,λv j=>.aW ?_⟩
  have ax:∀(i:Nat) (c:PV),(aP B C)[i]?=c5 c->cE 0 c:=λi c d=>aY X c (ej d)
  rcases aQ with⟨Y,i,x,E,rfl,D,_,a4⟩ |rfl
  .have a0:=df D;obtain⟨b,aL,cells,rfl,G,_,aX,_,_,aC⟩:=Dc I.m j a0 (e7 _);have ak:∀(i:Nat) (c:PV),(aP B C)[i]?=c5 c->∃u,cells[i]?=c5 u/\u.oneCell'=true/\VI (dj g Z fz).F w c u:=λe c d=>by
    have M:e<(aP B k).length:=by have:=c9 d;rw[aw] at this;exact this
    obtain⟨u,u1,u2,u3⟩:=aC 0 e _ (show abk [PV.agg (aP B k)] 0 e=c5 (aP B k)[e] by simp[abk,PV.cells,M]);have aG:cells[e]?=c5 u:=by simpa using u1
    exact⟨u,aG,u2,(ap e _ c u (c4 M) d u3).dH (ax e c d)⟩
   have:=VI.dw (F:=(dj g Z fz).F) (w:=w) (aP B C) 0 b 0 (λe=>cells.getD e undef) (.inr ⟨i,aL,a4,G⟩)
    (λe c d=>by
     obtain⟨u,u1,u2,u3⟩:=ak e c d;rw[cell_of_row w b _ cells _ (0,0) aX,e6,u1];simp[hD,u1])
    (λe c d=>by
     obtain⟨u,u1,u2,u3⟩:=ak e c d;simpa[hD,u1] using u2)
    (λe c d=>by
     obtain⟨u,u1,u2,u3⟩:=ak e c d;simpa[hD,u1] using u3)
   simpa[pv] using this
  .have aI:VI g.F w (.dw (aP B k) 0) v:=j.dH (.dw _ _);cases aI with
   |dw _ _ b a7 u aM aK p aR=>
    have M:∀(e:Nat) (c:PV),(aP B C)[e]?=c5 c->e<(aP B k).length:=λe c d=>by have:=c9 d;rw[aw] at this;exact this
    exact .dw (aP B C) 0 b a7 u (.inl aM) (λe c d=>aK e _ (c4 (M e c d))) (λe c d=>p e _ (c4 (M e c d)))
     λe c d=>(ap e _ c (u e) (c4 (M e c d)) d (.aW (aR e _ (c4 (M e c d))))).dH (ax e c d)
 | .f bc N aZ,s,o,t,a=>by
  simp only[eR] at a
  split at a
  .rename_i f k aa;obtain⟨a6,O⟩:=a8 a;clear a;obtain rfl:=beq_eq a6;obtain⟨ba,aV,p,l,rfl⟩:=iK O;obtain⟨ah,af⟩:=rm (fz:=fz) L I N k ba (λi z=>t i (by simp only[jn,bK,c6];exact .inl z)) p;obtain⟨bf,aF⟩:=rm (fz:=fz) L I aZ aa aV (λi z=>t i (by simp only[jn,bK,c6];exact .inr z)) l;refine⟨by simp only[CP.bX,bK,e5];omega,λh n=>?_⟩
   obtain⟨aN,aO,rfl,aE,a3⟩:=eJ.split n ah;obtain⟨C,ag,aH,an,ae⟩:=af aN aE;obtain⟨aq,aU,be,az,aA⟩:=aF aO a3;refine⟨.fn f C aq,λQ=>by simp only[hO];rw[dv,ag,aU],λX=>?_,λv j=>?_⟩
   .obtain⟨a5,a2⟩:=fu X;exact .fn _ _ _ (an a5) (az a2)
   .have aT:VR g (av B A) w (.fn f (aP B k) (aP B aa)) v:=j;have T:∃K vs:List Value,v= .func (.func f) K.toArray vs.toArray/\(aP B k).length=K.length/\(∀(i:Nat) (c:PV) (m:Value),(aP B k)[i]?=c5 c->K[i]?=c5 m->VR g (av B A) w c m)/\(aP B aa).length=vs.length/\
     (∀(i:Nat) (c:PV) (m:Value),(aP B aa)[i]?=c5 c->vs[i]?=c5 m->VR g (av B A) w c m):=by
     cases aT with
     |aW a=>cases a with |fn _ _ _ K vs W am ab ao=>exact⟨K,vs,rfl,W,λi c m p l=>.aW (am i c m p l),ab,λi c m p l=>.aW (ao i c m p l)⟩
     |fn _ _ _ K vs W am ab ao=>exact⟨K,vs,rfl,W,am,ab,ao⟩
    obtain⟨K,vs,rfl,W,aS,ab,aB⟩:=T;refine .fn f _ _ K vs (by show(aP B C).length=_;omega) (λi c m d J=>?_) (by show(aP B aq).length=_;omega) (λi c m d J=>?_)
    .have z:i<(aP B k).length:=by have:=c9 J;omega
     exact ae i _ c m (c4 z) d (aS i _ m (c4 z) J)
    .have z:i<(aP B aa).length:=by have:=c9 J;omega
     exact aA i _ c m (c4 z) d (aB i _ m (c4 z) J)
  .cases a
 | .g N,s,o,t,a=>by
  simp only[eR] at a
  split at a
  .rename_i k;obtain⟨ah,af⟩:=rm (fz:=fz) L I N k o t a;refine⟨ah,λh n=>?_⟩
   obtain⟨C,ag,aH,an,ae⟩:=af h n;refine⟨.agg C,λQ=>by simp only[hO,ag Q],λX=>.agg _ (an X),λv j=>?_⟩
   obtain⟨aj,rfl,W,V⟩:=VR.ky j;refine .agg _ aj (by show(aP B C).length=_;omega) λi c m d J=>?_
   have z:i<(aP B k).length:=by have:=c9 J;omega
   exact ae i _ c m (c4 z) d (V i _ m (c4 z) J)
  .cases a
 | .b b,s,o,t,a=>by
  simp only[eR] at a
  split at a
  .rename_i c;have G:b=c/\o=[]:=by
    cases b <;> cases c <;> simp at a <;> exact⟨rfl,a⟩
   obtain⟨rfl,rfl⟩:=G;refine⟨rfl,λh n=>?_⟩
   cases h with
   |nil=>exact⟨.bool b,λ_=>rfl,λ_=>.bool b,λv j=>.aW ((j.dH (.bool b)).mono (λ_ G=>.inl G) λ_ _=>rfl)⟩
   |cons y h=>exact n.elim
  .cases a
 | .i al U,s,o,t,a=>by
  simp only[eR] at a
  split at a
  .rename_i bd y;obtain⟨p,O⟩:=a8 a;obtain⟨l,O⟩:=a8 O;injection O with O
   subst O;clear a;obtain rfl:=qh p;obtain rfl:y=U:=of_decide_eq_true l;refine⟨rfl,λh n=>?_⟩
   cases h with
   |nil=>exact⟨.int al y,λ_=>rfl,λ_=>.int al y,λv j=>.aW ((j.dH (.int al y)).mono (λ_ G=>.inl G) λ_ _=>rfl)⟩
   |cons y h=>exact n.elim
  .cases a
 | .ns,s,o,t,a=>by
  simp only[eR] at a
  split at a
  .injection a with a
   subst a;refine⟨rfl,λh n=>?_⟩
   cases h with
   |nil=>exact⟨.bg,λ_=>rfl,λ_=>.bg,λv j=>.aW ((j.dH .bg).mono (λ_ G=>.inl G) λ_ _=>rfl)⟩
   |cons y h=>exact n.elim
  .cases a
 | .z,s,o,t,a=>by
  simp only[eR] at a
  split at a
  .injection a with a
   subst a;refine⟨rfl,λh n=>?_⟩
   cases h with
   |nil=>exact⟨.dB,λ_=>rfl,λ_=>.dB,λv j=>.aW ((j.dH .dB).mono (λ_ G=>.inl G) λ_ _=>rfl)⟩
   |cons y h=>exact n.elim
  .cases a
def rm{g:Gh}{m z:List (Ob B.D)}{q:World}{x:List Rf}{n:List Nat}{v:Nat->Option Nat}{fz:Nat->Prop}{w:Nat->Nat×Nat}(D:cU P B)(y:mR B g m z q x n v w):
 ∀(c:List CP) (j:List (TV B.D)) (e:List (TV B.D)),(∀i,i∈gJ m c j->i∉n->fz i)->fg m x n c j=c5 e->e.length=(CP.gA c).length/\∀f,eJ B (CP.gA c) e f->∃h,(∀o,jD w c (f++o)=(h,o))/\(aP B h).length=(aP B j).length/\
  (ow c=true->∀a,a∈aP B h->cE 0 a)/\∀(i:Nat) (a l:PV) (k:Value),(aP B j)[i]?=c5 a->(aP B h)[i]?=c5 l->VR g (av B m) q a k->VR (dj g v fz) (av B z) q l k
 |[],[],e,_,b=>by
  simp only[fg,ee] at b;subst b;refine⟨rfl,λf u=>?_⟩
  cases f with
  |nil=>exact⟨[],λ_=>rfl,rfl,λ_ a d=>(by cases d),λi a l k d=>(by simp[aP] at d)⟩
  |cons af f=>exact u.elim
 |a::c,Z::j,e,A,b=>by
  simp only[fg] at b;obtain⟨ac,Q,J,F,rfl⟩:=iK b;obtain⟨W,S⟩:=RY (fz:=fz) D y a Z ac (λi t=>A i (by simp only[gJ,bK,c6];exact .inl t)) J;obtain⟨ae,ad⟩:=rm (fz:=fz) D y c j Q (λi t=>A i (by simp only[gJ,bK,c6];exact .inr t)) F;refine⟨by simp only[CP.gA,bK,e5];omega,λf u=>?_⟩
  obtain⟨T,U,rfl,ab,I⟩:=eJ.split u W;obtain⟨K,H,M,V⟩:=S T ab;obtain⟨h,N,E,L,O⟩:=ad U I;refine⟨K::h,λo=>by simp only[jD];rw[dv,H,N],by simp[aP,E],λaa a d=>?_,λi G l k s p C=>?_⟩
  .obtain⟨X,Y⟩:=fu aa;rcases dd.1 d with rfl |d
   .exact M X
   .exact L Y a d
  .cases i with
   |zero=>simp[aP] at s p;subst s;subst p;exact V k C
   |succ i=>exact O i G l k (by simpa[aP] using s) (by simpa[aP] using p) C
 |[],_::_,e,_,b=>by simp[fg] at b
 |_::_,[],e,_,b=>by simp[fg] at b
end
end
section
variable {P:Program}{B:Tb}{R:Type}{r:R}
def eJ.len:∀{ns:List Nat} {ls a:List (TV B.D)},eJ B ns ls a->a.length=ns.length/\ls.length=ns.length
 |[],[],[],_=>⟨rfl,rfl⟩
 |n::ns,l::ls,m::a,h=>by
  obtain⟨d,c⟩:=eJ.len h.2;exact⟨by simp[d],by simp[c]⟩
 |[],[],_::_,h=>h.elim
 |[],_::_,_,h=>h.elim
 |_::_,[],_,h=>h.elim
 |_::_,_::_,[],h=>h.elim
def eJ.one{n:Nat}{ls a:List (TV B.D)}(h:eJ B [n] ls a):∃l x,ls=[l]/\B.up n l=c5 x/\a=[B.tv n x]:=by
 match ls,a,h with
 |[l],[m],⟨⟨x,c,d⟩,_⟩=>exact⟨l,x,rfl,c,by rw[d]⟩
 |[],_,h=>exact h.elim
 |_::_,[],h=>exact h.elim
 |_::_::_,_::_,⟨_,h⟩=>exact h.elim
 |[_],_::_::_,⟨_,h⟩=>exact h.elim
mutual
def Wb{m:Nat->Type}(g:Nat->Nat×Nat):∀(i:CP) (a:List (TV m)),a.length=i.bX.length->∃k,∀e,hO g i (a++e)=(k,e)
 | .any,a,c=>by
  obtain rfl:=dT (l:=a) (by simpa[CP.bX] using c);exact⟨_,λ_=>rfl⟩
 | .v j,a,c=>by
  match a,c with
  |[u],_=>exact⟨_,λ_=>rfl⟩
 | .p q,a,c=>by
  obtain rfl:=dT (l:=a) (by simpa[CP.bX] using c);exact⟨_,λ_=>rfl⟩
 | .r q,a,c=>by
  obtain rfl:=dT (l:=a) (by simpa[CP.bX] using c);exact⟨_,λ_=>rfl⟩
 | .b b,a,c=>by
  obtain rfl:=dT (l:=a) (by simpa[CP.bX] using c);exact⟨_,λ_=>rfl⟩
 | .i f j,a,c=>by
  obtain rfl:=dT (l:=a) (by simpa[CP.bX] using c);exact⟨_,λ_=>rfl⟩
 | .ns,a,c=>by
  obtain rfl:=dT (l:=a) (by simpa[CP.bX] using c);exact⟨_,λ_=>rfl⟩
 | .z,a,c=>by
  obtain rfl:=dT (l:=a) (by simpa[CP.bX] using c);exact⟨_,λ_=>rfl⟩
 | .q d,a,c=>by
  obtain⟨h,f,_⟩:=pd g d a c;exact⟨.vp h 0,λe=>by simp only[hO,f e]⟩
 | .g d,a,c=>by
  obtain⟨h,f,_⟩:=pd g d a c;exact⟨.agg h,λe=>by simp only[hO,f e]⟩
 | .f o d s,a,c=>by
  simp only[CP.bX,bK,e5] at c;obtain⟨t,f,_⟩:=pd g d (a.take (CP.gA d).length) (by rw[hq];omega);obtain⟨n,p,_⟩:=pd g s (a.drop (CP.gA d).length) (by rw[ih];omega);refine⟨.fn o t n,λe=>?_⟩
  rw[<-gx (CP.gA d).length a,dv];simp only[hO,f,p]
def pd{k:Nat->Type}(d:Nat->Nat×Nat):∀(b:List CP) (a:List (TV k)),a.length=(CP.gA b).length->∃g,(∀f,jD d b (a++f)=(g,f))/\g.length=b.length
 |[],a,e=>by
  obtain rfl:=dT (l:=a) (by simpa[CP.gA] using e);exact⟨[],λ_=>rfl,rfl⟩
 |c::b,a,e=>by
  simp only[CP.gA,bK,e5] at e;obtain⟨j,i⟩:=Wb d c (a.take c.bX.length) (by rw[hq];omega);obtain⟨h,m,n⟩:=pd d b (a.drop c.bX.length) (by rw[ih];omega);refine⟨j::h,λf=>?_,by simp[n]⟩
  rw[<-gx c.bX.length a,dv];simp only[jD,i,m]
end
def Kg{e:Nat->Type}{g:List (Ob e)}{h:List Rf}{i:List Nat}:∀{d:List CP} {c b:List (TV e)},fg g h i d c=c5 b->c.length=d.length
 |[],[],_,_=>rfl
 |l::d,j::c,b,a=>by
  simp only[fg] at a;obtain⟨n,m,k,f,rfl⟩:=iK a;simp[Kg f]
 |[],_::_,b,a=>by simp[fg] at a
 |_::_,[],b,a=>by simp[fg] at a
def mS(p:cU P B){u:List (Ob B.D)}{D:List Rf}{C:List Nat}{ρ:Nat->Nat×Nat}{l:OP}{i:Rf}{A j:List (TV B.D)}(e v:Nat)(a:dn u D C l i=c5 A)(t:eJ B l.bX A j):
 ∃b,(∀f,dI ρ e v l (j++f)=(b,f))/\b.st=e/\b.aF=v/\
  ((∃q k,i= .bG q/\nth u q=c5 k/\(aY B b).ty=(aY B k).ty/\(aY B b).sz=(aY B k).sz/\(aY B b).es.length=(aY B k).es.length)\/(i= .new/\(aY B b).es=[]/\0<(aY B b).sz)):=by
 cases l with
 |aap c w=>
  obtain⟨J,z,rfl,x,rfl⟩:=t.one;cases i with
  |bG q=>
   simp only[dn] at a
   split at a
   .rename_i H y g;obtain⟨h,d⟩:=a8 a;obtain rfl:=beq_eq h;simp only[ee,o2,and_true] at d;subst d;rw[p.row w c y z x];exact⟨⟨e,v,.aap c y⟩,λ_=>rfl,rfl,rfl,.inl ⟨q,_,rfl,g,rfl,rfl,rfl⟩⟩
   .cases a
  |new=>
   simp only[dn,ee,o2,and_true] at a;subst a;rw[p.row w c [] z x];exact⟨⟨e,v,.aap c []⟩,λ_=>rfl,rfl,rfl,.inr ⟨rfl,rfl,p.pos c⟩⟩
  |gone=>simp[dn] at a
  |bad=>simp[dn] at a
 |box F E=>
  cases i with
  |bG q=>
   simp only[dn] at a
   split at a
   .rename_i K L g;obtain⟨h,d⟩:=a8 a;obtain rfl:=beq_eq h;obtain⟨o,n,s⟩:=pd ρ E j t.len.1;have m:=Kg d;exact⟨⟨e,v,.box F o⟩,λf=>by simp only[dI,n f],rfl,rfl,.inl ⟨q,_,rfl,g,rfl,by simp[aY,s,m],rfl⟩⟩
   .cases a
  |new=>simp[dn] at a
  |gone=>simp[dn] at a
  |bad=>simp[dn] at a
 |dead=>cases i <;> simp[dn] at a
 |refs c G=>
  cases i with
  |bG q=>
   simp only[dn] at a
   split at a
   .rename_i H I g;obtain⟨h,d⟩:=a8 a;obtain rfl:=beq_eq h;obtain⟨o,n,s⟩:=pd ρ (iQ G) j t.len.1;have m:=Kg d;exact⟨⟨e,v,.hole c [] o⟩,λf=>by simp only[dI,n f],rfl,rfl,.inl ⟨q,_,rfl,g,rfl,rfl,by simp[aY,db,s,m]⟩⟩
   .cases a
  |new=>simp[dn] at a
  |gone=>simp[dn] at a
  |bad=>simp[dn] at a
def Fq{c:List (Ob B.D)}:∀(a:List Nat) (b:List (TV B.D)),gJ c (iQ a) b=[]
 |[],[]=>rfl
 |[],_::_=>rfl
 |q::a,[]=>rfl
 |q::a,d::b=>by
  simp only[iQ,gJ,jn,aX];exact Fq a b
def QY:∀(a:List Nat),CP.gA (iQ a)=[]
 |[]=>rfl
 |q::a=>by simp only[iQ,CP.gA,CP.bX,aX];exact QY a
def uA{d:Nat->Type}{c:Nat->Nat×Nat}:∀(b:List Nat) (a:List (TV d)),jD c (iQ b) a=(b.map λq=>.fl (c q).1 (c q).2,a)
 |[],a=>rfl
 |q::b,a=>by simp only[iQ,jD,hO,uA b a,hz]
def Fw{j:List (Ob B.D)}{k:List Rf}{l:List Nat}:∀{d:List Nat} {f h:List (TV B.D)},fg j k l (iQ d) f=c5 h->∀c,c∈f->(pv B c).cells=[pv B c]
 |[],[],_,_,c,a=>by cases a
 |[],_::_,_,a,_,_=>by simp[iQ,fg] at a
 |q::d,[],_,a,_,_=>by simp[iQ,fg] at a
 |q::d,c::f,h,a,b,e=>by
  simp only[iQ,fg] at a;obtain⟨n,m,g,i,_⟩:=iK a;rcases dd.1 e with rfl |e
  .cases b <;> simp only[eR] at g <;> first |rfl |cases g
  .exact Fw i b e
def apB(D:cU P B){g:Gh}{u Z:List (Ob B.D)}{S:World}{Y:List Rf}{M:List Nat}{W:Nat->Option Nat}{fz:Nat->Prop}{H:Nat->Nat×Nat}(N:mR B g u Z S Y M W H){E:OP}{q:Nat}{J G:List (TV B.D)}{L v:Nat}{K:Ob B.D}
 (an:∀ac I L v ab y,E= .box ac I->nth u q=c5 ⟨L,v,.box ab y⟩->∀i,i∈gJ u I y->i∉M->fz i) (h:dn u Y M E (.bG q)=c5 J) (V:eJ B E.bX J G) (l:∀X,dI H L v E (G++X)=(K,X)):
 (∀(i:Nat) (a:PV),(aY B K).es[i]?=c5 a->a.cells.length=(aY B K).sz)/\
 ∃ah,nth u q=c5 ah/\∀i d m,abk (aY B K).es i d=c5 m->∃n,abk (aY B ah).es i d=c5 n/\∀s,VR g (av B u) S n s->VR (dj g W fz) (av B Z) S m s:=by
 have l:=l [];rw[ft] at l;cases E with
 |aap F n=>
  obtain⟨t,au,rfl,ao,rfl⟩:=V.one;simp only[dn] at h
  split at h
  .rename_i ar af p;obtain⟨w,o⟩:=a8 h;obtain rfl:=beq_eq w;simp only[ee,o2,and_true] at o;subst o;rw[D.row n F af au ao] at l;simp only[dI,h5,and_true] at l;subst l;have aw:∀a,a∈af.map (B.ty F).enc->cE 0 a:=J2 D;refine⟨λi a k=>?_,_,p,λi d m b=>⟨m,b,λs A=>.aW ((A.dH (nR aw b)).mono (λ_ am=>.inl am) λ_ _=>rfl)⟩⟩
   obtain⟨al,_,rfl⟩:=ey.1 (ej k);exact D.wid F al
  .cases h
 |box ac I=>
  simp only[dn] at h
  split at h
  .rename_i ab y p;obtain⟨w,o⟩:=a8 h;obtain⟨_,O⟩:=rm (fz:=fz) D N I y J (an _ _ _ _ _ _ rfl p) o;obtain⟨x,T,ax,_,Q⟩:=O G V;have a:=T [];rw[ft] at a;simp only[dI,a,h5,and_true] at l;subst l;refine⟨λi a k=>?_,_,p,λi d m b=>?_⟩
   .match i,k with
    |0,k=>
     simp only[aY,kc,ee] at k;subst k;simp[aY,PV.cells,db]
   .match i,b with
    |0,b=>
     have z:(aP B x)[d]?=c5 m:=b;have ag:d<(aP B y).length:=by have:=c9 z;omega
     exact⟨(aP B y)[d],c4 ag,λs A=>Q d _ m s (c4 ag) z A⟩
  .cases h
 |dead=>simp[dn] at h
 |refs F ae=>
  simp only[dn] at h
  split at h
  .rename_i ar f p;obtain⟨w,o⟩:=a8 h;obtain rfl:=beq_eq w;obtain⟨_,O⟩:=rm (fz:=fz) D N (iQ ae) f J (λi c=>by rw[Fq] at c;cases c) o;obtain⟨x,T,ax,_,Q⟩:=O G V;have a:=T [];rw[ft] at a;simp only[dI,a,h5,and_true] at l;subst l;have ai:x=ae.map λq=>.fl (H q).1 (H q).2:=by
    rw[uA] at a;exact(eE a).1.symm
   have ak:∀(t:List (TV B.D)),(∀e,e∈t->(pv B e).cells=[pv B e])->∀i d n,abk (aP B t) i d=c5 n->d=0/\(aP B t)[i]?=c5 n:=λt aq i d n b=>by
    unfold abk at b;cases c:(aP B t)[i]? with
    |none=>rw[c] at b;cases b
    |some a=>
     rw[c] at b;have b:a.cells[d]?=c5 n:=b;rw[db,ec] at c;cases j:t[i]? with
     |none=>rw[j] at c;cases c
     |some e=>
      rw[j] at c;injection c with c
      subst c;rw[aq e (ej j)] at b;cases d with
      |zero=>injection b with b;exact⟨rfl,by rw[b]⟩
      |succ d=>simp at b
   have ad:∀e,e∈x->(pv B e).cells=[pv B e]:=λe j=>by
    rw[ai] at j;obtain⟨q,_,rfl⟩:=ey.1 j
    rfl
   refine⟨λi a k=>?_,_,p,λi d m b=>?_⟩
   .have k:(aP B x)[i]?=c5 a:=k;have c:i<(aP B f).length:=by have:=c9 k;omega
    have ap:=(N.m.obj _ _ (df p)).width i _ (show(aY B ⟨_,_,.hole F [] f⟩).es[i]?=c5 (aP B f)[i] from c4 c);have w:(aP B f)[i].cells.length=1:=by
     have U:(aP B f)[i]∈f.map (pv B):=by rw[<-db];exact q6 c
     obtain⟨e,j,C⟩:=ey.1 U;rw[<-C,Fw o e j]
     rfl
    have aj:a.cells.length=1:=by
     rw[db] at k;obtain⟨e,j,C⟩:=ey.1 (ej k);rw[<-C,ad e j]
     rfl
    rw[aj, <-w,ap]
    rfl
   .obtain⟨rfl,z⟩:=ak x ad i d m b;have c:i<(aP B f).length:=by have:=c9 z;omega
    have aa:(aP B f)[i]?=c5 (aP B f)[i]:=c4 c;refine⟨(aP B f)[i],?_,λs A=>Q i _ m s aa z A⟩
    unfold abk;show((aP B f)[i]?.bind λa=>a.cells[0]?)=_
    rw[aa];have U:(aP B f)[i]∈f.map (pv B):=by rw[<-db];exact q6 c
    obtain⟨e,j,C⟩:=ey.1 U;rw[<-C];show(pv B e).cells[0]?=_
    rw[Fw o e j]
    rfl
  .cases h
def xN{g:List (Ob B.D)}{m:List Rf}{j:List Nat}{ρ:Nat->Nat×Nat}(X:cU P B):∀{E:List (Nat×List Nat×OP)} {y:List Rf} {d k:List (TV B.D)} {q0:Nat},iP g m j E y=c5 d->eJ B (rS E) d k->
 ∃A,(∀p,lM ρ q0 E (k++p)=(A,p))/\A.length=y.length/\∀h i,y[h]?=c5 i->∃u M J N,A[h]?=c5 N/\dn g m j u i=c5 M/\eJ B u.bX M J/\(∀p,dI ρ 0 (ρ (q0+h)).2 u (J++p)=(N,p))/\
  ∀s e z H v K D,u= .box s e->i= .bG z->nth g z=c5 ⟨H,v,.box K D⟩->∀G,G∈gJ g e D->G∈eW g E y
 |[],[],d,k,q0,a,t=>by
  simp only[iP,ee] at a;subst a;cases k with
  |nil=>exact⟨[],λ_=>rfl,rfl,by simp⟩
  |cons L k=>exact t.elim
 |F::E,i::y,d,k,q0,a,t=>by
  simp only[iP] at a;obtain⟨w,I,c,x,rfl⟩:=iK a;have ai:w.length=F.2.2.bX.length:=by
   have:=t.len.2;cases n:F.2.2 with
   |aap L l=>
    rw[n] at c;cases i <;> simp only[dn] at c
    .split at c
     .obtain⟨_,c⟩:=a8 c;injection c with c;subst c;rfl
     .cases c
    .injection c with c;subst c;rfl
    .cases c
    .cases c
   |box s e=>
    rw[n] at c;cases i <;> simp only[dn] at c
    .split at c
     .obtain⟨_,c⟩:=a8 c;exact Q7 c
     .cases c
    .cases c
    .cases c
    .cases c
   |dead=>rw[n] at c;cases i <;> simp[dn] at c
   |refs L am=>
    rw[n] at c;cases i <;> simp only[dn] at c
    .split at c
     .obtain⟨_,c⟩:=a8 c;exact Q7 c
     .cases c
    .cases c
    .cases c
    .cases c
  obtain⟨ah,aw,rfl,W,an⟩:=eJ.split t ai;obtain⟨A,al,ad,ao⟩:=xN (ρ:=ρ) (q0:=q0+1) X x an;obtain⟨U,Y,_⟩:=mS X (ρ:=ρ) 0 (ρ q0).2 c W;refine⟨U::A,λp=>by simp only[lM];rw[dv,Y,al],by simp[ad],λh ap C=>?_⟩
  cases h with
  |zero=>
   simp at C;subst C;refine⟨F.2.2,w,ah,U,rfl,c,W,Y,λs e z H v K D n C O G Q=>?_⟩
   obtain⟨aa,aj,S⟩:=F;obtain rfl:S= .box s e:=n;subst C;simp only[eW,O,bK,c6];exact .inl Q
  |succ h=>
   obtain⟨u,M,J,N,ak,V,ab,af,ag⟩:=ao h ap (by simpa using C);refine⟨u,M,J,N,by simpa using ak,V,ab,by rw[show q0+(h+1)=q0+1+h by omega];exact af,λs e z H v K D n Z O G Q=>?_⟩
   have:=ag s e z H v K D n Z O G Q;obtain⟨aa,aj,S⟩:=F;cases S with
   |aap L l=>simpa[eW] using this
   |dead=>simpa[eW] using this
   |refs L am=>simpa[eW] using this
   |box au av=>
    cases i with
    |bG V=>simp only[eW,bK,c6];exact .inr this
    |new=>simpa[eW] using this
    |gone=>simpa[eW] using this
    |bad=>simpa[eW] using this
 |[],_::_,d,k,q0,a,t=>by simp[iP] at a
 |_::_,[],d,k,q0,a,t=>by simp[iP] at a
where
 Q7 {g:List (Ob B.D)} {m:List Rf} {j:List Nat}:∀{e:List CP} {o d:List (TV B.D)},fg g m j e o=c5 d->d.length=(CP.gA e).length:=λ{e o d} a=>(pp e o d a)
 pp {g:List (Ob B.D)} {m:List Rf} {j:List Nat}:∀(e:List CP) (o d:List (TV B.D)),fg g m j e o=c5 d->d.length=(CP.gA e).length
  |[],[],d,a=>by simp[fg] at a;subst a;rfl
  |l::e,f::o,d,a=>by
   simp only[fg] at a;obtain⟨w,I,c,x,rfl⟩:=iK a;simp only[CP.gA,bK,e5,pp e o I x,aj0 l f w c]
  |[],_::_,d,a=>by simp[fg] at a
  |_::_,[],d,a=>by simp[fg] at a
 aj0 {g:List (Ob B.D)} {m:List Rf} {j:List Nat}:∀(l:CP) (f:TV B.D) (d:List (TV B.D)),eR g m j l f=c5 d->d.length=l.bX.length
  | .any,f,d,a=>by simp[eR] at a;subst a;rfl
  | .v ac,f,d,a=>by simp[eR] at a;subst a;rfl
  | .p q,f,d,a=>by
   simp only[eR] at a
   split at a
   .split at a
    .obtain⟨_,a⟩:=a8 a;injection a with a;subst a;rfl
    .cases a
   .cases a
  | .r q,f,d,a=>by
   simp only[eR] at a
   split at a
   .split at a
    .obtain⟨_,a⟩:=a8 a;injection a with a;subst a;rfl
    .obtain⟨_,a⟩:=a8 a;injection a with a;subst a;rfl
    .cases a
   .split at a
    .injection a with a;subst a;rfl
    .cases a
   .split at a
    .injection a with a;subst a;rfl
    .cases a
   .cases a
  | .q e,f,d,a=>by
   simp only[eR] at a
   split at a
   .rename_i i aq
    split at a
    .cases T:has j i with
     |true=>rw[T] at a;cases a
     |false=>
      rw[T] at a;obtain⟨_,a⟩:=a8 a;exact pp e _ d a
    .cases a
   .obtain⟨_,a⟩:=a8 a;exact pp e _ d a
   .cases a
  | .f ar e ae,f,d,a=>by
   simp only[eR] at a
   split at a
   .obtain⟨_,a⟩:=a8 a;obtain⟨w,I,c,x,rfl⟩:=iK a;simp only[CP.bX,bK,e5,pp e _ w c,pp ae _ I x]
   .cases a
  | .g e,f,d,a=>by
   simp only[eR] at a
   split at a
   .exact pp e _ d a
   .cases a
  | .b b,f,d,a=>by
   simp only[eR] at a
   split at a
   .rename_i l;cases b <;> cases l <;> simp at a <;> (subst a;rfl)
   .cases a
  | .i h ac,f,d,a=>by
   simp only[eR] at a
   split at a
   .obtain⟨_,a⟩:=a8 a;obtain⟨_,a⟩:=a8 a;injection a with a;subst a;rfl
   .cases a
  | .ns,f,d,a=>by
   simp only[eR] at a
   split at a
   .injection a with a;subst a;rfl
   .cases a
  | .z,f,d,a=>by
   simp only[eR] at a
   split at a
   .injection a with a;subst a;rfl
   .cases a
def Ip(C:cU P B){g:Gh}{y:List (Ob B.D)}{e:St B.D}{z:World}{w:List Rf}{k:List Nat}{v:Nat->Option Nat}{fz:Nat->Prop}{l:Nat->Nat×Nat}(x:mR B g e.H y z w k v l):∀{c:List (Nat×CP)} {j f:List (TV B.D)},(∀i,i∈gK e c->i∉k->fz i)->oz e w k c=c5 j->eJ B (vu c) j f->
 ∀d a,(∃b h,(a,b)∈c/\lk (aX (gR l c f) d) a=h/\Sb B g e.H y z v fz b (lk e.E a) h)\/((∀b,(a,b)∉c)/\lk (aX (gR l c f) d) a=lk d a)
 |[],j,f,_,q,D,d,a=>by
  exact .inr ⟨by simp,rfl⟩
 |p::c,j,f,A,q,D,d,a=>by
  simp only[oz] at q;obtain⟨S,T,G,E,rfl⟩:=iK q;obtain⟨M,K⟩:=RY (fz:=fz) C x p.2 _ S (λi s=>A i (by simp only[gK,bK,c6];exact .inl s)) G;obtain⟨L,U,rfl,N,O⟩:=eJ.split D M;obtain⟨h,F,I⟩:=K L N;simp only[gR,F,aX,lk];cases n:fe p.1 a with
  |true=>
   obtain rfl:=beq_eq n;exact .inl ⟨p.2,h,by simp,rfl,I⟩
  |false=>
   have J:p.1≠a:=λo=>by rw[o,hQ] at n;cases n
   rcases Ip (fz:=fz) C x (λi s=>A i (by simp only[gK,bK,c6];exact .inr s)) E O d a with⟨b,H,t,m,Q⟩ |⟨t,m⟩
   .exact .inl ⟨b,H,c7 _ t,m,Q⟩
   .exact .inr ⟨λb u=>by
     rcases dd.1 u with o |u
     .exact J (by rw[<-o])
     .exact t b u,m⟩
def oQ{d:List (Ob B.D)}{e:List Rf}{f:List Nat}:∀{c:List (Nat×List Nat×OP)} {g:List Rf} {b:List (TV B.D)},iP d e f c g=c5 b->b.length=(rS c).length
 |[],[],b,a=>by simp[iP] at a;subst a;rfl
 |o::c,i::g,b,a=>by
  simp only[iP] at a;obtain⟨s,p,j,k,rfl⟩:=iK a;simp only[rS,bK,e5,oQ k,rD j]
 |[],_::_,b,a=>by simp[iP] at a
 |_::_,[],b,a=>by simp[iP] at a
where
 rD {d:List (Ob B.D)} {e:List Rf} {f:List Nat} {op:OP} {i:Rf} {b:List (TV B.D)} (a:dn d e f op i=c5 b):b.length=op.bX.length:=by
  cases op with
  |aap m n=>
   cases i <;> simp only[dn] at a
   .split at a
    .obtain⟨_,a⟩:=a8 a;injection a with a;subst a;rfl
    .cases a
   .injection a with a;subst a;rfl
   .cases a
   .cases a
  |box q l=>
   cases i <;> simp only[dn] at a
   .split at a
    .obtain⟨_,a⟩:=a8 a;exact xN.pp l _ b a
    .cases a
   .cases a
   .cases a
   .cases a
  |dead=>cases i <;> simp[dn] at a
  |refs m h=>
   cases i <;> simp only[dn] at a
   .split at a
    .obtain⟨_,a⟩:=a8 a;exact xN.pp (iQ h) _ b a
    .cases a
   .cases a
   .cases a
   .cases a
def gV:∀{b:List Rf} {q i:Nat},nth b q=c5 (.bG i)->i∈bL b
 | .bG c::b,0,i,a=>by simp only[nth,ee,Rf.bG.injEq] at a;subst a;simp[bL]
 | .bG c::b,q+1,i,a=>by simp only[nth] at a;simp[bL,gV a]
 | .new::b,q+1,i,a=>by simp only[nth] at a;simpa[bL] using gV a
 | .gone::b,q+1,i,a=>by simp only[nth] at a;simpa[bL] using gV a
 | .bad::b,q+1,i,a=>by simp only[nth] at a;simpa[bL] using gV a
 | .new::_,0,i,a=>by simp[nth] at a
 | .gone::_,0,i,a=>by simp[nth] at a
 | .bad::_,0,i,a=>by simp[nth] at a
 |[],_,_,a=>by simp[nth] at a
def ES:∀{ids:List Rf} {q d i:Nat},(bL ids).Nodup->nth ids q=c5 (.bG i)->nth ids d=c5 (.bG i)->q=d
 |[],_,_,_,_,a,_=>by simp[nth] at a
 |_::_,0,0,_,_,_,_=>rfl
 |e::ids,0,d+1,i,b,a,c=>by
  simp only[nth,ee] at a c;subst a;simp only[bL,k8] at b;exact absurd (gV c) b.1
 |e::ids,q+1,0,i,b,a,c=>by
  simp only[nth,ee] at a c;subst c;simp only[bL,k8] at b;exact absurd (gV a) b.1
 |e::ids,q+1,d+1,i,b,a,c=>by
  have f:(bL ids).Nodup:=by
   cases e <;> simp only[bL,k8] at b <;> first |exact b.2 |exact b
  rw[ES (ids:=ids) f a c]
def eQ(a:List Rf)(q:Nat):Option Nat:=match nth a q with
 |some (.bG i)=>c5 i
 |_=>ea
def qS{b:List Rf}{q i:Nat}(a:eQ b q=c5 i):nth b q=c5 (.bG i):=by
 unfold eQ at a
 split at a
 .rename_i d c;injection a with a
  rw[c,a]
 .cases a
def pn{a:List Rf}{q i:Nat}(b:nth a q=c5 (.bG i)):eQ a q=c5 i:=by unfold eQ;rw[b]
end
section
variable {P:Program}{B:Tb}{R:Type}{r:R}
def Qq{k:Nat->Type}{g:List (Ob k)}:∀{c b:Nat} {f:List Rf},qH g c b f=true->∀i,i<c->nth f i=c5 (.bG (b+i))/\∃d,nth g (b+i)=c5 d/\d.aF=0
 |0,_,_,_,i,o=>by omega
 |c+1,b,[],a,_,_=>by simp[qH] at a
 |c+1,b,.bG h::f,a,i,o=>by
  simp only[qH] at a;obtain⟨j,e⟩:=fu a;obtain rfl:=beq_eq j
  split at e
  .rename_i d m;obtain⟨l,n⟩:=fu e;cases i with
   |zero=>exact⟨rfl,d,m,beq_eq l⟩
   |succ i=>
    have:=Qq n i (by omega);rw[show h+(i+1)=h+1+i by omega];exact this
  .cases e
 |c+1,b,.new::_,a,_,_=>by simp[qH] at a
 |c+1,b,.gone::_,a,_,_=>by simp[qH] at a
 |c+1,b,.bad::_,a,_,_=>by simp[qH] at a
def oU{c:List (Ob B.D)}{i:Nat}{e:aO}(a:(av B c)[i]?=c5 e):∃b,nth c i=c5 b/\e=aY B b:=by
 unfold av at a;rw[ec] at a;cases d:c[i]? with
 |none=>rw[d] at a;cases a
 |some b=>
  rw[d] at a;injection a with a
  exact⟨b,by rw[cJ];exact d,a.symm⟩
def O1(F:cU P B){g:Gh}{h n:List (Ob B.D)}{x:World}{b:List Rf}{u:Nat->Prop}{J:Nat->Nat×Nat}(w:mR B g h n x b (bL b) (eQ b) J)(ar:(bL b).Nodup)(az:b.length<=n.length)(am:∀i,u i->∀q,eQ b q≠c5 i)
 (z:∀q c,nth n q=c5 c->(∃p i G A l v,nth b q=c5 (.bG i)/\(∀O D l v an S,p= .box O D->nth h i=c5 ⟨l,v,.box an S⟩->∀i,i∈gJ h D S->i∉bL b->u i)/\dn h b (bL b) p (.bG i)=c5 G/\eJ B p.bX G A/\∀I,dI J l v p (A++I)=(c,I))\/
  (∃i o,nth b q=c5 (.bG i)/\nth h i=c5 o/\c=o/\∀t U,VR g (av B h) x t U->(∃E s m,aY B o=E/\abk E.es s m=c5 t\/cE 0 t)->VR (dj g (eQ b) u) (av B n) x t U)\/
  (eQ b q=ea/\(aY B c).es=[]/\0<(aY B c).sz)):bF (dj g (eQ b) u) (av B n) x:=by
 refine bF.re w.m am (λq ay i j aa=>ES ar (qS j) (qS aa)) (λq i j=>?_) λq E ah=>?_
 .have j:=qS j;rw[cJ] at j;have:=c9 j;rw[qL];omega
 .obtain⟨c,ab,rfl⟩:=oU ah;rcases z q c ab with⟨p,i,G,A,l,v,k,ao,e,V,Q⟩ |⟨i,o,k,H,rfl,ac⟩ |⟨a,f,au⟩
  .obtain⟨Z,aj,_,_,ad⟩:=mS F l v e V;obtain rfl:Z=c:=by
    have ae:=aj [];have M:=Q [];rw[ae] at M;exact(eE M).1
   obtain⟨ap,o,C,aw⟩:=apB F w ao e V Q;rcases ad with⟨W,aA,d,y,ai,K,ax⟩ |⟨d,_⟩
   .injection d with d
    subst d;rw[C] at y;injection y with y
    subst y;have af:=(w.m.obj i _ (df C)).pos;refine⟨by rw[K];exact af,ap,λa=>?_,λW a=>?_⟩
    .rw[pn k] at a;cases a
    .rw[pn k] at a;injection a with a
     subst a;exact⟨_,df C,ai,K,ax,aw⟩
   .cases d
  .have z:=w.m.obj i _ (df H);refine⟨z.pos,z.width,λa=>?_,λW a=>?_⟩
   .rw[pn k] at a;cases a
   .rw[pn k] at a;injection a with a
    subst a;refine⟨_,df H,rfl,rfl,rfl,λs m T e=>⟨T,e,λag ak=>ac T ag ak ?_⟩⟩
    cases Y:c.bd with
    |aap X aq=>
     refine⟨aY B c,s,m,.inr (nR (es:=(aY B c).es) (λd f=>?_) e)⟩
     simp only[aY,Y] at f;obtain⟨al,_,rfl⟩:=ey.1 f;exact F.lt X al
    |box O D=>
     exact⟨aY B c,s,m,.inl ⟨rfl,e⟩⟩
    |hole X aq es=>
     exact⟨aY B c,s,m,.inl ⟨rfl,e⟩⟩
    |dead=>
     obtain⟨d,f,_⟩:=gw e;simp[aY,Y] at f
  .refine⟨au,λi d N=>?_,λ_=>f,λi L=>?_⟩
   .rw[f] at N;simp at N
   .rw[a] at L;cases L
def PQ(s:cU P B){p:bY}{c:St B.D}{a:List Rf}{V:List (TV B.D)}{w:bi B.D p.bX}(l:leaves p c a=c5 V)(ao:eJ B p.bX V (rQ B p.bX w)){g:Gh}{e:World}(aq:bF g (av B c.H) e)
 {fz:Nat->Prop} (ag:∀i,fz i->∀q,eQ a q≠c5 i) (U:∀i,i∈aX (eW c.H p.dF a) (gK c p.dE)->i∉bL a->fz i):
 (bL a).Nodup/\mR B g c.H (cz B p w).H e a (bL a) (eQ a) (λq=>(q,0))/\bF (dj g (eQ a) fz) (av B (cz B p w).H) e/\
  ∀u v,VR g (av B c.H) e (pv B (lk c.E u)) v->VR (dj g (eQ a) fz) (av B (cz B p w).H) e (pv B (lk (cz B p w).E u)) v:=by
 unfold leaves at l;obtain⟨ax,l⟩:=a8 l;obtain⟨S,l⟩:=a8 l;obtain⟨aB,az,T,W,rfl⟩:=iK l;obtain⟨C,O,ar,ai,am⟩:=eJ.split ao (oQ T);obtain⟨D,ak,ay,M⟩:=xN s (ρ:=λq=>(q,0)) (q0:=0) T ai;have ae:cz B p w=⟨gR (λq=>(q,0)) p.dE O,D⟩:=by
  unfold cz nI;rw[ar,ak]
 rw[ae];have I:mR B g c.H D e a (bL a) (eQ a) (λq=>(q,0)):=by
  refine⟨aq,λ_=>rfl,λq i k=>⟨pn k,?_⟩,λq k=>⟨by unfold eQ;rw[k],?_⟩⟩
  .obtain⟨N,K,C,F,f,j,m,n,J⟩:=M q _ (by rw[<-cJ];exact k);obtain⟨h,z,_,o,x⟩:=mS s (ρ:=λq=>(q,0)) 0 0 j m;obtain rfl:h=F:=by
    have y:=z [];have d:=n [];rw[y] at d;exact(eE d).1
   rcases x with⟨E,Q,b,ap,aA,ad,Y⟩ |⟨b,_⟩
   .injection b with b
    subst b;exact⟨Q,h,ap,by rw[cJ];exact f,o,ad,Y⟩
   .cases b
  .obtain⟨N,K,C,F,f,j,m,n,J⟩:=M q _ (by rw[<-cJ];exact k);obtain⟨h,z,_,o,x⟩:=mS s (ρ:=λq=>(q,0)) 0 0 j m;obtain rfl:h=F:=by
    have y:=z [];have d:=n [];rw[y] at d;exact(eE d).1
   rcases x with⟨E,Q,b,_⟩ |⟨_,L,_⟩
   .cases b
   .exact⟨h,by rw[cJ];exact f,o,L⟩
 refine⟨(tw _).1 S,I,O1 s I ((tw _).1 S) (show a.length<=D.length by omega) ag λq af G=>?_,λu v o=>?_⟩
 .rw[cJ] at G;have k:q<D.length:=c9 G;have t:a[q]?=c5 a[q]:=c4 (by omega);obtain⟨N,K,C,F,f,j,m,n,J⟩:=M q _ t;rw[G] at f;injection f with f
  subst f;have A:nth a q=c5 a[q]:=by rw[cJ];exact t
  obtain⟨h,z,_,o,x⟩:=mS s (ρ:=λq=>(q,0)) 0 0 j m;obtain rfl:h=af:=by
   have y:=z [];have d:=n [];rw[y] at d;exact(eE d).1
  rcases x with⟨E,Q,b,_⟩ |⟨b,L,an⟩
  .rw[b] at A j;exact .inl ⟨N,E,K,C,_,_,A,λaj ab X v ah al ac Z i t H=>U i (by rw[bK,c6];exact .inl (J aj ab E X v ah al ac b Z i t)) H,j,m,n⟩
  .rw[b] at A;exact .inr (.inr ⟨by unfold eQ;rw[A],L,an⟩)
 .have:=Ip s I (λi t H=>U i (by rw[bK,c6];exact .inr t) H) W am [] u;rw[bK,ft] at this;rcases this with⟨aw,au,_,b,aa⟩ |⟨_,b⟩
  .show VR _ _ e (pv B (lk (gR _ p.dE O) u)) v
   rw[b];exact aa.2 v o
  .show VR _ _ e (pv B (lk (gR _ p.dE O) u)) v
   rw[b];exact .any v
def EK(G:cU P B){k:Nat}{p:bY}{c:St B.D}{l:bi B.D p.bX->Option R}(a:take B k p c l=c5 r){g:Gh}{w:World}(K:bF g (av B c.H) w):
 ∃b,l b=c5 r/\∃h,bF h (av B (cz B p b).H) w/\Bml.GStep k g (av B c.H) w h (av B (cz B p b).H) w/\∀n v,VR g (av B c.H) w (pv B (lk c.E n)) v->VR h (av B (cz B p b).H) w (pv B (lk (cz B p b).E n)) v:=by
 unfold take at a;obtain⟨o,a⟩:=a8 a;obtain⟨T,j,a⟩:=fq a;obtain⟨b,x,I⟩:=Ae a;refine⟨b,x,?_⟩
 generalize M:nQ c p.dF=y at o j;obtain⟨_,z,E,F⟩:=PQ G j I K (fz:=λi=>∀q,eQ y q≠c5 i) (λ_ a=>a) (λi _ f q t=>f (gV (qS t)));refine⟨_,E,?_,F⟩
 refine Bml.GStep.re λi J f u=>?_
 obtain⟨O,s,rfl⟩:=oU u;obtain⟨m,J,d,H⟩:=Qq o i f;rw[e6] at m d;rw[s] at d;injection d with d
 subst d;obtain⟨A,N,S,e,C,Q,L,D⟩:=z.bG i i m;rw[s] at e;injection e with e
 subst e;exact⟨_,df C,by rw[e7,e7,H];exact l2 _,λ_=>⟨A,L,D⟩⟩
end
structure Ext {D:Nat->Type} (ws:List Nat) (S0 S:St D):Prop where
 e:∀t,t∉ws->lk S.E t=lk S0.E t
 len:S0.H.length<=S.H.length
 h:∀i o0 o,nth S0.H i=c5 o0->nth S.H i=c5 o->o0.st<=o.st/\(o0.st=o.st->o=o0)
def Ext.refl{D:Nat->Type}(d:List Nat)(c:St D):Ext d c c:=⟨λ_ _=>rfl,ef _,λi j e h a=>by rw[h] at a;injection a with a;subst a;exact⟨ef _,λ_=>rfl⟩⟩
def Ext.trans{D:Nat->Type}{c:List Nat}{j a l:St D}(h:Ext c j a)(k:Ext c a l):Ext c j l:=by
 refine⟨λt ht=>(k.e t ht).trans (h.e t ht),la h.len k.len,λi n m h0 s=>?_⟩
 have hi:i<a.H.length:=by
  rw[cJ] at h0;have:=c9 h0;have:=h.len;omega
 have d:nth a.H i=c5 a.H[i]:=by rw[cJ];exact c4 hi
 obtain⟨a1,x⟩:=h.h i n _ h0 d;obtain⟨u,y⟩:=k.h i _ m d s;refine⟨la a1 u,λe=>?_⟩
 have w:n.st=a.H[i].st:=by omega
 have o:a.H[i].st=m.st:=by omega
 rw[y o,x w]
def Ext.more{D:Nat->Type}{d e:List Nat}{a c:St D}(h:Ext d a c)(k:∀t,t∈d->t∈e):Ext e a c:=
 ⟨λt ht=>h.e t λj=>ht (k t j),h.len,h.h⟩
section
variable {P:Program}{B:Tb}{R:Type}{r:R}
def I5{e:Type}:∀{ch:List (Nat×e)} {H:List e},(ch.map (·.1)).Nodup->(∀i a,(i,a)∈ch->i<H.length->nth (b8 H ch) i=c5 a)/\∀i,i∉ch.map (·.1)->nth (b8 H ch) i=nth H i
 |[],H,_=>⟨λi a j=>by simp at j,λi _=>rfl⟩
 |p::ch,H,c=>by
  simp only[hz,k8] at c;obtain⟨g,f⟩:=I5 (ch:=ch) (H:=me H p.1 p.2) c.2;refine⟨λi a d b=>?_,λi b=>?_⟩
  .rcases dd.1 d with rfl |d
   .show nth (b8 (me H i a) ch) i=c5 a
    rw[f i c.1,cJ,iL,ev b]
   .exact g i a d (by rw[iL,h6];exact b)
  .simp only[hz,dd,not_or] at b;show nth (b8 (me H p.1 p.2) ch) i=_
   rw[f i b.2,cJ,cJ,iL,eH (λh=>b.1 h.symm)]
def aov(a:List (Nat×Bool×OP)):DZ a=a.map (·.1):=by
 induction a with
 |nil=>rfl
 |cons c a b=>simp[DZ,b]
def adx{e:List (Nat×Bool×OP)}{i:Nat}(c:bN e i=false):∀b,b∈e->b.1≠i:=by
 induction e with
 |nil=>intro b a;cases a
 |cons h e g=>
  simp only[bN] at c;cases d:fe h.1 i with
  |true=>rw[d] at c;cases c
  |false=>
   rw[d] at c;intro b a;rcases dd.1 a with rfl |a
   .intro f;rw[f,hQ] at d;cases d
   .exact g c b a
def adS{c:List (Nat×Bool×OP)}{i:Nat}(b:bN c i=true):∃a,a∈c/\a.1=i:=by
 induction c with
 |nil=>cases b
 |cons e c h=>
  simp only[bN] at b;cases d:fe e.1 i with
  |true=>exact⟨e,by simp,beq_eq d⟩
  |false=>
   rw[d] at b;obtain⟨a,f,g⟩:=h b;exact⟨a,c7 _ f,g⟩
def IM{b:List (Nat×Bool×OP)}{i:Nat}(a:bN b i=false):gone b i=false:=by
 induction b with
 |nil=>rfl
 |cons e b d=>
  simp only[bN] at a;cases c:fe e.1 i with
  |true=>rw[c] at a;cases a
  |false=>rw[c] at a;simp only[gone,c,cond_false];exact d a
def rc{b:List (Nat×Bool×OP)}{a:Nat×Bool×OP}(d:(b.map (·.1)).Nodup)(c:a∈b):gone b a.1=a.2.2.qj/\mw.kv b a.1=a.2.1/\bN b a.1=true:=by
 induction b with
 |nil=>cases c
 |cons e b g=>
  simp only[hz,k8] at d;rcases dd.1 c with rfl |c
  .simp[gone,mw.kv,bN,hQ]
  .have i:fe e.1 a.1=false:=by
    cases h:fe e.1 a.1 with
    |false=>rfl
    |true=>exact absurd (by rw[beq_eq h];exact hY (f:=(·.1)) c) d.1
   simp only[gone,mw.kv,bN,i,cond_false];exact g d.2 c
def Jf(d:List (Nat×Bool×OP)):∀(b a:Nat) (c:List Rf) (q:Nat),nth (nL d b a c) q=if q<b then c5 (bif gone d (a+q) then .gone else .bG (a+q)) else nth c (q -b)
 |0,a,c,q=>by simp[nL]
 |b+1,a,c,0=>by simp[nL,nth]
 |b+1,a,c,q+1=>by
  simp only[nL,nth];rw[Jf d b (a+1) c q,show a+1+q=a+(q+1) by omega]
  by_cases e:q<b
  .rw[if_pos e,if_pos (by omega)]
  .rw[if_neg e,if_neg (by omega),show q+1 - (b+1)=q -b by omega]
def Pc(d:List (Nat×Bool×OP)):∀(a c:Nat) (b:List Rf),(nL d a c b).length=a+b.length
 |0,c,b=>by simp[nL]
 |a+1,c,b=>by simp[nL,Pc d a];omega
def Ri{n:Nat->Type}{l:List (Nat×Bool×OP)}:∀{h j:List (Ob n)} {g:Nat},calm l g h j=true->∀i c,nth h i=c5 c->∃d,nth j i=c5 d/\(bN l (g+i)=false->c.st=d.st)
 |[],_,_,_,i,c,a=>by simp[nth] at a
 |q::h,b::j,g,a,i,c,e=>by
  simp only[calm] at a;obtain⟨k,m⟩:=fu a;cases i with
  |zero=>
   simp only[nth,ee] at e;subst e;refine⟨b,rfl,λf=>?_⟩
   rw[hS] at f;rw[f] at k;exact beq_eq k
  |succ i=>
   obtain⟨d,p,o⟩:=Ri m i c e;exact⟨d,p,λf=>o (by rw[<-f];congr 1;omega)⟩
 |_::_,[],_,a,i,c,e=>by simp[calm] at a
def vV{o:Nat->Type}{h m:List (Ob o)}:∀{j:List (Nat×Bool×OP)},wH h m j=true->∀a,a∈j->a.1<h.length/\(a.2.1=true->a.2.2≠ .dead/\∃e b,nth h a.1=c5 e/\nth m a.1=c5 b/\e.aF=b.aF)
 |[],_,a,d=>by cases d
 |e::j,c,a,d=>by
  simp only[wH] at c;cases l:e.2.1 with
  |true=>
   rw[l] at c;simp only[cond_true] at c
   split at c
   .rename_i p q k s;cases f:e.2.2.qj with
    |true=>rw[f] at c;cases c
    |false=>
     rw[f] at c;obtain⟨i,g⟩:=fu c;rcases dd.1 d with rfl |d
     .refine⟨by rw[cJ] at k;exact c9 k,λ_=>⟨λa=>(by rw[a] at f;cases f),p,q,k,s,beq_eq i⟩⟩
     .exact vV g a d
   .cases c
  |false=>
   rw[l] at c;simp only[cond_false] at c;obtain⟨i,g⟩:=fu c;rcases dd.1 d with rfl |d
   .refine⟨by rw[<-eu];exact e4 i,λn=>by rw[l] at n;cases n⟩
   .exact vV g a d
def RZ{e:Nat}:∀{d:List (Nat×Bool×OP)},zE e d=true->∀a,a∈d->a.1<e->a.2.1=true/\a.2.2.qj=false
 |[],_,a,b,_=>by cases b
 |m::d,g,a,b,j=>by
  simp only[zE] at g;obtain⟨c,i⟩:=fu g;rcases dd.1 b with rfl |b
  .cases f:m5 e a.1 with
   |true=>have:=e4 f;omega
   |false=>
    rw[f] at c;simp only[cond_false] at c;obtain⟨l,h⟩:=fu c;refine⟨l,?_⟩
    cases k:a.2.2.qj with
    |false=>rfl
    |true=>rw[k] at h;cases h
  .exact RZ i a b j
def NT(u:cU P B){j H0:List (Ob B.D)}{l:List Rf}{k:List Nat}{ρ:Nat->Nat×Nat}:∀{h:List (Nat×Bool×OP)} {z s:List (TV B.D)},pX j l k h=c5 z->eJ B (ux h) z s->z.length=(ux h).length->
 ∃g,(∀e,pU H0 ρ h (s++e)=(g,e))/\g.map (·.1)=h.map (·.1)/\∀i d,(i,d)∈g->∃a,a∈h/\a.1=i/\d.st=dJ H0 i/\d.aF=(ρ i).2/\
  ((a.2.2= .dead/\d.bd= .dead)\/(a.2.2≠ .dead/\∃q n,dn j l k a.2.2 (.bG i)=c5 q/\eJ B a.2.2.bX q n/\∀e,dI ρ (dJ H0 i) (ρ i).2 a.2.2 (n++e)=(d,e)))
 |[],z,s,y,F,_=>by
  simp only[pX,ee] at y;subst y;cases s with
  |nil=>exact⟨[],λ_=>rfl,rfl,λi d m=>by cases m⟩
  |cons A s=>exact F.elim
 |b::h,z,s,y,F,V=>by
  simp only[pX] at y;obtain⟨p,U,c,I,rfl⟩:=iK y;have N:p.length=b.2.2.bX.length:=by
   cases f:b.2.2 with
   |dead=>rw[f] at c;injection c with c;subst c;rfl
   |aap A J=>rw[f] at c;exact oQ.rD (show dn j l k _ (.bG b.1)=c5 p from c)
   |box O g=>rw[f] at c;exact oQ.rD (show dn j l k _ (.bG b.1)=c5 p from c)
   |refs A Q=>rw[f] at c;exact oQ.rD (show dn j l k _ (.bG b.1)=c5 p from c)
  obtain⟨x,E,rfl,o,G⟩:=eJ.split F N;obtain⟨g,v,t,w⟩:=NT u (H0:=H0) (ρ:=ρ) I G G.len.2;cases f:b.2.2 with
  |dead=>
   rw[f] at c o;injection c with c
   subst c;have S:x=[]:=dT o.len.1;subst S;refine⟨(b.1,⟨dJ H0 b.1,(ρ b.1).2,.dead⟩)::g,λe=>by simp only[pU,f,dI,o3,v],by simp[t],λi d m=>?_⟩
   rcases dd.1 m with a |m
   .injection a with e1 e2
    subst e1;subst e2;exact⟨b,by simp,rfl,rfl,rfl,.inl ⟨f,rfl⟩⟩
   .obtain⟨a,D,C⟩:=w i d m;exact⟨a,c7 _ D,C⟩
  |aap A J=>exact GC u (ρ:=ρ) (H0:=H0) b (by rw[f];simp) (by rw[f] at c;rw[f];exact c) o v t w
  |box O T=>exact GC u (ρ:=ρ) (H0:=H0) b (by rw[f];simp) (by rw[f] at c;rw[f];exact c) o v t w
  |refs A Q=>exact GC u (ρ:=ρ) (H0:=H0) b (by rw[f];simp) (by rw[f] at c;rw[f];exact c) o v t w
where
 GC (u:cU P B) {j H0:List (Ob B.D)} {l:List Rf} {k:List Nat} {ρ:Nat->Nat×Nat} {h:List (Nat×Bool×OP)} {p x E:List (TV B.D)} {g:List (Nat×Ob B.D)} (b:Nat×Bool×OP) (hd:b.2.2≠ .dead)
  (c:dn j l k b.2.2 (.bG b.1)=c5 p) (o:eJ B b.2.2.bX p x) (v:∀e,pU H0 ρ h (E++e)=(g,e)) (t:g.map (·.1)=h.map (·.1))
  (w:∀i d,(i,d)∈g->∃a,a∈h/\a.1=i/\d.st=dJ H0 i/\d.aF=(ρ i).2/\
   ((a.2.2= .dead/\d.bd= .dead)\/(a.2.2≠ .dead/\∃q n,dn j l k a.2.2 (.bG i)=c5 q/\eJ B a.2.2.bX q n/\∀e,dI ρ (dJ H0 i) (ρ i).2 a.2.2 (n++e)=(d,e)))):
  ∃g,(∀e,pU H0 ρ (b::h) (x++E++e)=(g,e))/\g.map (·.1)=(b::h).map (·.1)/\∀i d,(i,d)∈g->∃a,a∈b::h/\a.1=i/\d.st=dJ H0 i/\d.aF=(ρ i).2/\
   ((a.2.2= .dead/\d.bd= .dead)\/(a.2.2≠ .dead/\∃q n,dn j l k a.2.2 (.bG i)=c5 q/\eJ B a.2.2.bX q n/\∀e,dI ρ (dJ H0 i) (ρ i).2 a.2.2 (n++e)=(d,e))):=by
  obtain⟨K,H,L,M,_⟩:=mS u (ρ:=ρ) (dJ H0 b.1) (ρ b.1).2 c o;refine⟨(b.1,K)::g,λe=>?_,by simp[t],λi d m=>?_⟩
  .rw[dv];simp only[pU];rw[H];simp only[v]
  .rcases dd.1 m with a |m
   .injection a with e1 e2
    subst e1;subst e2;exact⟨b,by simp,rfl,L,M,.inr ⟨hd,p,x,c,o,H⟩⟩
   .obtain⟨a,D,C⟩:=w i d m;exact⟨a,c7 _ D,C⟩
def HX{d:List (Ob B.D)}{e:List Rf}{f:List Nat}:∀{j:List (Nat×Bool×OP)} {g:List (TV B.D)},pX d e f j=c5 g->g.length=(ux j).length
 |[],g,b=>by simp[pX] at b;subst b;rfl
 |c::j,g,b=>by
  simp only[pX] at b;obtain⟨h,q,a,k,rfl⟩:=iK b;have l:h.length=c.2.2.bX.length:=by
   cases i:c.2.2 with
   |dead=>rw[i] at a;injection a with a;subst a;rfl
   |aap m o=>rw[i] at a;exact oQ.rD (show dn d e f _ (.bG c.1)=c5 h from a)
   |box s p=>rw[i] at a;exact oQ.rD (show dn d e f _ (.bG c.1)=c5 h from a)
   |refs m n=>rw[i] at a;exact oQ.rD (show dn d e f _ (.bG c.1)=c5 h from a)
  simp only[ux,bK,e5,l,HX k]
def D4{h:Nat->Type}(b:List Nat):∀(f:En h) (a:Nat),lk (mN b f) a=if a∈b then .any else lk f a
 |[],a=>by simp[mN,lk]
 |p::r,a=>by
  simp only[mN];cases e:has b p.1 with
  |true=>
   have g:=(oO _ _).1 e;simp only[cond_true,D4 b r a,lk]
   by_cases c:a∈b
   .rw[if_pos c,if_pos c]
   .rw[if_neg c,if_neg c];cases d:fe p.1 a with
    |true=>rw[beq_eq d] at g;exact absurd g c
    |false=>rfl
  |false=>
   simp only[cond_false,lk];cases d:fe p.1 a with
   |true=>
    have:a∉b:=by rw[<-beq_eq d];exact nA e
    rw[if_neg this]
    rfl
   |false=>exact D4 b r a
def Sg{f:List Nat}:∀{d:List (Nat×CP)},ET f d=true->∀a c,(a,c)∈d->a∈f
 |[],_,a,c,b=>by cases b
 |p::d,e,a,c,b=>by
  simp only[ET] at e;obtain⟨h,g⟩:=fu e;rcases dd.1 b with i |b
  .have:=(oO _ _).1 h;rw[<-i] at this;exact this
  .exact Sg g a c b
def cE.UM{f:Nat->Nat->Prop}{c:PV}(h:cE 0 c):Wf f c:=by
 induction h with
 |any=>exact .any
 |bool b=>exact .bool b
 |int k n=>exact .int k n
 |str s=>exact .str s
 |fS=>exact .fS
 |bg=>exact .bg
 |z0=>exact .z0
 |dB=>exact .dB
 |dw a e=>exact .dw a e
 |vs sz es=>exact .vs sz es
 |ptr r v i e h=>omega
 |sl r v off len h=>omega
 |fl r v h=>omega
 |agg a h d=>exact .agg a d
 |bu a h d=>exact .bu a d
 |fn f a l h m d j=>exact .fn f a l d j
end
def F0{c:Nat->Type}(b:List (Ob c))(i v:Nat):Prop:=∃a,nth b i=c5 a/\v<=a.aF
section
variable {P:Program}{B:Tb}{R:Type}{r:R}
structure Cz (B:Tb) (S:St B.D):Prop where
 e:∀t,Wf (F0 S.H) (pv B (lk S.E t))
 h:∀(q:Nat) (o:Ob B.D) (i j:Nat) (c:PV),nth S.H q=c5 o->abk (aY B o).es i j=c5 c->Wf (F0 S.H) c
def UJ(V:cU P B){aN:Nat}{a J:St B.D}{s:List Nat}{p:lD}{bf:bi B.D p.bX->Option R}(bm:Ext s a J)(cn:aN<=a.H.length)(bh:Cz B a)(h:nW B aN a s p J bf=c5 r){g:Gh}{L:World}(bs:bF g (av B J.H) L):
 ∃ab,bf ab=c5 r/\Ext s a (ik B a s p ab)/\∃g',bF g' (av B (ik B a s p ab).H) L/\Bml.GStep aN g (av B J.H) L g' (av B (ik B a s p ab).H) L/\
  ∀w v,VR g (av B J.H) L (pv B (lk J.E w)) v->VR g' (av B (ik B a s p ab).H) L (pv B (lk (ik B a s p ab).E w)) v:=by
 unfold nW at h;obtain⟨bT,h⟩:=a8 h;obtain⟨b5,h⟩:=a8 h;obtain⟨b2,h⟩:=a8 h;obtain⟨a1,h⟩:=a8 h;obtain⟨bo,h⟩:=a8 h;obtain⟨bC,h⟩:=a8 h;obtain⟨aL,h⟩:=a8 h;obtain⟨ba,bn,h⟩:=fq h;obtain⟨ab,bX,ad⟩:=Ae h;refine⟨ab,bX,?_⟩
 obtain⟨co,cc,au,bA,rfl⟩:=iK bn;obtain⟨cj,ce,an,aQ,rfl⟩:=iK bA;obtain⟨E,cb,ca,bQ,bv⟩:=eJ.split ad (HX au);obtain⟨be,aA,rfl,b9,bI⟩:=eJ.split bv (oQ an);generalize cm:nQ J p.new=am at b2 a1 au an aQ;generalize aM:nL p.dO (Go.X.len a.H) 0 am=k at a1 au an aQ;have af:(p.dO.map (·.1)).Nodup:=by rw[<-aov];exact(tw _).1 bo
 let ρ:Nat->Nat×Nat:=λq=>(q,mw a.H p.dO q)
 obtain⟨o,b4,a2,bt⟩:=NT V (H0:=a.H) (ρ:=ρ) au bQ (HX au);obtain⟨t,bR,cf,a4⟩:=xN V (ρ:=ρ) (q0:=Go.X.len a.H) an b9;have bO:ik B a s p ab=⟨aX (gR ρ p.dE aA) (mN s a.E),aX (b8 a.H o) t⟩:=by
  unfold ik;rw[ca];show(match pU a.H ρ p.dO (E++(be++aA)) with |(ch,ba)=>_)=_
  rw[b4];show(match lM ρ (Go.X.len a.H) p.new (be++aA) with |(cd,ba)=>_)=_
  rw[bR]
 rw[bO];have bj:(b8 a.H o).length=a.H.length:=qy _ _;have bJ:(o.map (·.1)).Nodup:=by rw[a2];exact af
 obtain⟨bU,bY⟩:=I5 (ch:=o) (H:=a.H) bJ;have ck:(aX (b8 a.H o) t).length=a.H.length+t.length:=by rw[bK,e5,bj]
 have a7:∀q,q<a.H.length->nth (aX (b8 a.H o) t) q=nth (b8 a.H o) q:=λq j=>by
  rw[cJ,cJ,bK,dt (by omega)]
 have aK:∀q,a.H.length<=q->nth (aX (b8 a.H o) t) q=t[q -a.H.length]? :=λq j=>by
  rw[cJ,bK,dk (by omega),bj]
 have X:∀q,q<a.H.length->nth k q=c5 (bif gone p.dO q then .gone else .bG q):=λq j=>by
  rw[<-aM,Jf,eu,if_pos j,e6]
 have aS:∀q,a.H.length<=q->nth k q=am[q -a.H.length]? :=λq j=>by
  rw[<-aM,Jf,eu,if_neg (by omega),cJ]
 have cp:k.length=a.H.length+am.length:=by rw[<-aM,Pc,eu]
 have ay:∀q x,nth a.H q=c5 x->bN p.dO q=false->nth J.H q=c5 x/\nth (aX (b8 a.H o) t) q=c5 x:=λq x m e=>by
  obtain⟨aG,bk,b3⟩:=Ri bC q x m;have c:=(bm.h q x aG m bk).2 (b3 (by rw[e6];exact e));refine⟨by rw[bk,c],?_⟩
  rw[a7 q (by rw[cJ] at m;exact c9 m),bY q ?_,m];rw[a2];intro b0;obtain⟨c,d,an⟩:=ey.1 b0;exact adx e c d an
 have mo:∀q,bN p.dO q=true->∃c n,c∈p.dO/\c.1=q/\q<a.H.length/\nth (aX (b8 a.H o) t) q=c5 n/\n.st=dJ a.H q/\n.aF=(ρ q).2/\
  ((c.2.2= .dead/\n.bd= .dead)\/(c.2.2≠ .dead/\∃Q E,dn J.H k (bL k) c.2.2 (.bG q)=c5 Q/\eJ B c.2.2.bX Q E/\∀bc,dI ρ (dJ a.H q) (ρ q).2 c.2.2 (E++bc)=(n,bc))):=λq e=>by
  obtain⟨c,d,rfl⟩:=adS e;have bx:c.1∈o.map (·.1):=by rw[a2];exact hY (f:=(·.1)) d
  obtain⟨⟨q,n⟩,a9,j⟩:=ey.1 bx;obtain rfl:q=c.1:=j;obtain⟨A,bV,bE,ag,O,ae⟩:=bt c.1 n a9;have aJ:=(vV aL c d).1;exact⟨A,n,bV,bE,aJ,by rw[a7 _ aJ];exact bU _ _ a9 aJ,ag,O,ae⟩
 let aw:Nat->Prop:=λi=>∀q,eQ k q≠c5 i
 have bM:∀i,aw i->∀q,eQ k q≠c5 i:=λ_ h=>h
 have aP:∀i,i∉bL k->aw i:=λi G q j=>G (gV (qS j))
 have aO:mR B g J.H (aX (b8 a.H o) t) L k (bL k) (eQ k) ρ:=by
  refine⟨bs,λ_=>rfl,λq i j=>⟨pn j,?_⟩,λq j=>⟨by unfold eQ;rw[j],?_⟩⟩
  .by_cases aa:q<a.H.length
   .have N:=X q aa;rw[j] at N;cases az:gone p.dO q with
    |true=>rw[az] at N;simp at N
    |false=>
     rw[az] at N;simp only[cond_false,ee,Rf.bG.injEq] at N;subst N;cases e:bN p.dO i with
     |false=>
      have m:nth a.H i=c5 a.H[i]:=by rw[cJ];exact c4 aa
      obtain⟨u1,u2⟩:=ay i _ m e;refine⟨_,_,u1,u2,?_,rfl,rfl⟩
      show _=mw a.H p.dO i
      unfold mw;rw[m];simp[e]
     |true=>
      obtain⟨c,n,d,rfl,_,Y,ag,O,ae⟩:=mo i e;rcases ae with⟨K,_⟩ |⟨_,Q,E,C,I,F⟩
      .have:=(rc af d).1;rw[az,K] at this;cases this
      .obtain⟨D,Z,_,y,S⟩:=mS V (ρ:=ρ) (dJ a.H c.1) (ρ c.1).2 C I;obtain rfl:D=n:=by
        have T:=Z [];have u:=F [];rw[T] at u;exact(eE u).1
       rcases S with⟨ax,aq,A,z,aF,ah,aj⟩ |⟨A,_⟩
       .injection A with A
        subst A;exact⟨aq,D,z,Y,O,ah,aj⟩
       .cases A
   .rw[aS q (by omega)] at j;obtain⟨aZ,Q,E,aC,ac,C,I,F,bl⟩:=a4 _ _ j;obtain⟨D,Z,_,y,S⟩:=mS V (ρ:=ρ) 0 (ρ (Go.X.len a.H+(q -a.H.length))).2 C I;obtain rfl:D=aC:=by
     have T:=Z [];have u:=F [];rw[T] at u;exact(eE u).1
    rcases S with⟨ax,aq,c,z,aF,ah,aj⟩ |⟨c,_⟩
    .injection c with c
     subst c;refine⟨aq,D,z,by rw[aK q (by omega)];exact ac,?_,ah,aj⟩
     rw[y,eu,show a.H.length+(q -a.H.length)=q by omega]
    .cases c
  .by_cases aa:q<a.H.length
   .have N:=X q aa;rw[j] at N;cases az:gone p.dO q <;> rw[az] at N <;> simp at N
   .rw[aS q (by omega)] at j;obtain⟨aZ,Q,E,aC,ac,C,I,F,bl⟩:=a4 _ _ j;obtain⟨D,Z,_,y,S⟩:=mS V (ρ:=ρ) 0 (ρ (Go.X.len a.H+(q -a.H.length))).2 C I;obtain rfl:D=aC:=by
     have T:=Z [];have u:=F [];rw[T] at u;exact(eE u).1
    rcases S with⟨ax,aq,c,_⟩ |⟨_,d,_⟩
    .cases c
    .refine⟨D,by rw[aK q (by omega)];exact ac,?_,d⟩
     rw[y,eu,show a.H.length+(q -a.H.length)=q by omega]
 have bd:∀{W:PV} {v:Value},VR g (av B J.H) L W v->Wf (F0 a.H) W->VR (dj g (eQ k) aw) (av B (aX (b8 a.H o) t)) L W v:=λ{W v} y bB=>by
  refine VR.re (g:=g) (g':=dj g (eQ k) aw) (λ_ h=>Or.inl h) (λi v a3 b7 m a6=>?_) y bB
  obtain⟨x,ar,b1⟩:=b7;have ao:i<a.H.length:=by rw[cJ] at ar;exact c9 ar
  obtain⟨bZ,ak,rfl⟩:=oU m;rw[e7] at a6;have bP:∀c,c∈p.dO->c.1=i->(ρ i).2=bif c.2.1 then x.aF else x.aF+1:=λc d bp=>by
   subst bp;obtain⟨_,a5,aV⟩:=rc af d;show mw a.H p.dO c.1=_
   unfold mw;rw[ar];simp[a5,aV]
  cases e:bN p.dO i with
  |false=>
   obtain⟨u1,u2⟩:=ay i x ar e;rw[ak] at u1;injection u1 with u1
   subst u1;refine⟨_,df u2,by rw[e7];exact a6,λc=>⟨c,rfl,rfl,?_⟩⟩
   show(eQ k i).bind g.β=_
   rw[pn (i:=i) (by rw[X i ao,IM e];rfl)]
   rfl
  |true=>
   obtain⟨c,n,d,rfl,_,Y,ag,O,ae⟩:=mo i e;have M:=bP c d rfl;cases al:c.2.1 with
   |false=>
    rw[al] at M;simp only[cond_false] at M;exact⟨_,df Y,by rw[e7,O,M];omega,λaB=>by rw[e7,O,M] at aB;omega⟩
   |true=>
    rw[al] at M;simp only[cond_true] at M;obtain⟨aU,aH,b,ap,U,a0⟩:=(vV aL c d).2 al;rw[ar] at ap;injection ap with ap
    subst ap;rw[ak] at U;injection U with U
    subst U;refine⟨_,df Y,by rw[e7,O,M];exact b1,λaB=>?_⟩
    rw[e7,O,M] at aB;rcases ae with⟨K,aR⟩ |⟨aI,Q,E,C,I,F⟩
    .exact absurd K aU
    .obtain⟨D,Z,_,ci,S⟩:=mS V (ρ:=ρ) (dJ a.H c.1) (ρ c.1).2 C I;obtain rfl:D=n:=by
      have T:=Z [];have u:=F [];rw[T] at u;exact(eE u).1
     rcases S with⟨ax,aq,A,z,aF,ah,aj⟩ |⟨A,_⟩
     .injection A with A
      subst A;rw[ak] at z;injection z with z
      subst z;refine⟨by rw[e7,aB];exact a0,ah,aj,?_⟩
      show(eQ k c.1).bind g.β=_
      rw[pn (i:=c.1) (by
       rw[X c.1 ao,(rc af d).1];cases K:c.2.2 with
       |dead=>exact absurd K aI
       |aap _ _=>rfl
       |refs _ _=>rfl
       |box _ _=>rfl)]
      rfl
     .cases A
 have bb:=λb6 w=>Ip V aO (λi _ G=>aP i G) aQ bI b6 w
 refine⟨⟨λw ad=>?_,by show a.H.length<=(aX (b8 a.H o) t).length;omega,λi x a3 aD m=>?_⟩,dj g (eQ k) aw,O1 V aO ((tw _).1 a1) (show k.length<=(aX (b8 a.H o) t).length by omega) bM λq aG l=>?_,?_,λw v y=>?_⟩
 .show lk (aX (gR ρ p.dE aA) (mN s a.E)) w=_
  rcases bb (mN s a.E) w with⟨W,bD,ai,_⟩ |⟨_,c⟩
  .exact absurd (Sg b5 w W ai) ad
  .rw[c,D4,if_neg ad]
 .have l:nth (aX (b8 a.H o) t) i=c5 a3:=m;cases e:bN p.dO i with
  |false=>
   obtain⟨_,u2⟩:=ay i x aD e;rw[u2] at l;injection l with l
   subst l;exact⟨ef _,λ_=>rfl⟩
  |true=>
   obtain⟨c,n,d,rfl,_,Y,ag,_⟩:=mo i e;rw[Y] at l;injection l with l
   subst l;have:n.st=x.st+1:=by rw[ag];unfold dJ;rw[aD]
   exact⟨by omega,λc=>by omega⟩
 .by_cases aa:q<a.H.length
  .have m:nth a.H q=c5 a.H[q]:=by rw[cJ];exact c4 aa
   cases e:bN p.dO q with
   |false=>
    obtain⟨u1,u2⟩:=ay q _ m e;rw[u2] at l;injection l with l
    refine .inr (.inl ⟨q,a.H[q],by rw[X q aa,IM e];rfl,u1,l.symm,λW v y bw=>bd y ?_⟩)
    obtain⟨cg,aH,bW,ai⟩:=bw;rcases ai with⟨rfl,ai⟩ |ai
    .exact bh.h q _ aH bW W m ai
    .exact cE.UM ai
   |true=>
    obtain⟨c,n,d,rfl,_,Y,ag,O,ae⟩:=mo q e;rw[Y] at l;injection l with l
    subst l;rcases ae with⟨K,aR⟩ |⟨aI,Q,E,C,I,F⟩
    .refine .inr (.inr ⟨?_,by simp[aY,aR],by simp[aY,aR]⟩)
     unfold eQ;rw[X _ aa,(rc af d).1,K]
     rfl
    .refine .inl ⟨c.2.2,c.1,Q,E,_,_,?_,λ_ _ _ _ _ _ _ _ i _ G=>aP i G,C,I,F⟩
     rw[X c.1 aa,(rc af d).1];cases K:c.2.2 with
     |dead=>exact absurd K aI
     |aap _ _=>rfl
     |refs _ _=>rfl
     |box _ _=>rfl
  .have aT:=l;rw[aK q (by omega)] at aT;have j:q -a.H.length<t.length:=c9 aT;have G:am[q -a.H.length]?=c5 am[q -a.H.length]:=c4 (by omega);obtain⟨aZ,Q,E,aC,ac,C,I,F,bl⟩:=a4 _ _ G;rw[aT] at ac;injection ac with ac
   subst ac;have aE:nth k q=c5 am[q -a.H.length]:=by rw[aS q (by omega)];exact G
   obtain⟨D,Z,_,y,S⟩:=mS V (ρ:=ρ) 0 (ρ (Go.X.len a.H+(q -a.H.length))).2 C I;obtain rfl:D=aG:=by
    have T:=Z [];have u:=F [];rw[T] at u;exact(eE u).1
   rcases S with⟨ax,aq,c,_⟩ |⟨c,d,br⟩
   .rw[c] at aE C;exact .inl ⟨aZ,ax,Q,E,_,_,aE,λ_ _ _ _ _ _ _ _ i _ G=>aP i G,C,I,F⟩
   .rw[c] at aE;exact .inr (.inr ⟨by unfold eQ;rw[aE],d,br⟩)
 .refine Bml.GStep.re λi a3 G m=>?_
  obtain⟨bZ,ak,rfl⟩:=oU m;have ao:i<a.H.length:=by omega
  have aD:nth a.H i=c5 a.H[i]:=by rw[cJ];exact c4 ao
  cases e:bN p.dO i with
  |false=>
   obtain⟨u1,u2⟩:=ay i _ aD e;rw[ak] at u1;injection u1 with u1
   subst u1;exact⟨_,df u2,ef _,λ_=>⟨pn (by rw[X i ao,IM e];rfl),rfl,rfl⟩⟩
  |true=>
   obtain⟨c,n,d,rfl,_,Y,ag,O,ae⟩:=mo i e;have al:=(RZ bT c d G).1;obtain⟨aU,aH,b,ap,U,a0⟩:=(vV aL c d).2 al;rw[ak] at U;injection U with U
   subst U;obtain⟨_,a5,aV⟩:=rc af d;have M:(ρ c.1).2=aH.aF:=by
    show mw a.H p.dO c.1=_
    unfold mw;rw[ap];simp[a5,aV,al]
   have bH:nth k c.1=c5 (.bG c.1):=by
    rw[X c.1 ao,(rc af d).1];cases K:c.2.2 with
    |dead=>exact absurd K aU
    |aap _ _=>rfl
    |refs _ _=>rfl
    |box _ _=>rfl
   obtain⟨bz,cl,aG,z,aF,ah,aj,bq⟩:=aO.bG c.1 c.1 bH;rw[ak] at z;injection z with z
   subst z;exact⟨_,df aF,by rw[e7,e7,ah,M,a0];exact ef _,λ_=>⟨bz,aj,bq⟩⟩
 .show VR _ _ L (pv B (lk (aX (gR ρ p.dE aA) (mN s a.E)) w)) v
  rcases bb (mN s a.E) w with⟨W,bD,_,c,bS⟩ |⟨_,c⟩
  .rw[c];exact bS.2 v y
  .rw[c,D4]
   by_cases ad:w∈s
   .rw[if_pos ad];exact .any v
   .rw[if_neg ad];rw[bm.e w ad] at y;exact bd y (bh.e w)
end
end Go.X
namespace Go.Bml
open Go
def xB(g:Gh)(e:List aO)(f:World)(args:List PV)(a:List Value):Prop:=
 args.length=a.length/\∀(i:Nat) (b:PV) (c:Value),args[i]?=c5 b->a[i]?=c5 c->VR g e f b c
section
variable {P:Program}{nt:Nat}{E:Env}{d:Option Nat}{ty:TypeId}{pos:String}{aft:Array Edge}{gd:Option (Nat×Bool)}
def UP{f:Nat}{u v:List PV}{q:Operand}{k:List Operand}{ci:Array TypeId}{l:Act}{h:World}{g:Gh}{s:List aO}(x:fI g s h nt E l)(D:PE E q= .fn f u v)(G:∀args h,(callFunc f args).run P h= .ok (.enter f args) h):
 ∃y:List Value,(execOp l.eval ⟨d,.call {callee:=.value q,args:=k.toArray,argTypes:=ci},ty,pos,aft,gd⟩).run P h= .ok (.enter f y.toArray) h/\xB g s h (u++k.map (PE E)++v) y:=by
 have m:=D▸x.eval q;have H:∃a vs:List Value,l.eval q= .func (.func f) a.toArray vs.toArray/\u.length=a.length/\(∀(i:Nat) (b:PV) (e:Value),u[i]?=c5 b->a[i]?=c5 e->VR g s h b e)/\v.length=vs.length/\
  (∀(i:Nat) (b:PV) (e:Value),v[i]?=c5 b->vs[i]?=c5 e->VR g s h b e):=by
  generalize l.eval q=z at m;cases m with
  |aW B=>cases B with |fn _ _ _ a vs n m p r=>exact⟨a,vs,rfl,n,λi b e t o=>.aW (m i b e t o),p,λi b e t o=>.aW (r i b e t o)⟩
  |fn _ _ _ a vs n m p r=>exact⟨a,vs,rfl,n,m,p,r⟩
 obtain⟨a,vs,C,n,A,p,r⟩:=H;refine⟨a++k.map l.eval++vs,?_,by simp[n,p],λi b e c j=>?_⟩
 .simp only[execOp,resolve,C,Deferred.ofValue,invoke,kh,m0,h7];rw[show(a.toArray++Array.map l.eval k.toArray++vs.toArray)=(a++k.map l.eval++vs).toArray by simp];exact G _ h
 .by_cases t:i<a.length
  .rw[dv,dt (by omega)] at c j;exact A i b e c j
  .rw[dv,dk (by omega)] at c j;rw[n] at c
   by_cases o:i -a.length<k.length
   .rw[dt (by simpa using o)] at c j;rw[ec] at c j;cases w:k[i -a.length]? with
    |none=>simp[w] at c
    |some F=>
     simp[w] at c j;subst c;subst j;exact x.eval F
   .rw[dk (by simp;omega)] at c j;simp only[l3] at c j;exact r _ b e c j
def WB{H:List aO}{f:Nat}{cs ds:List PV}{fo:Operand}{as:List Operand}{ci:Array TypeId}{K:PV->List aO->Prop}(t:PE E fo= .fn f cs ds)(u:∀args a,(callFunc f args).run P a= .ok (.enter f args) a)
 (s:∀g h a,bF g H a->xB g H a (cs++as.map (PE E)++ds) h->Calls P f h.toArray a λj e=>∃i c v b,j= .returned i/\K v b/\bF c b e/\VR c b e v i/\GStep H.length g H a c b e):
 fJ P ⟨d,.call {callee:=.value fo,args:=as.toArray,argTypes:=ci},ty,pos,aft,ea⟩ E H K:=by
 intro g nt y a k x w n;obtain⟨h,q,o⟩:=UP (d:=d) (ty:=ty) (pos:=pos) (aft:=aft) (gd:=ea) (ci:=ci) k.e t u;unfold r5;rw[q,Oper.upon_enter];refine(s g h a k.m o).mono ?_
 rintro j e ⟨i,c,v,b,rfl,p,r,l,m⟩;exact n i e c v b p l r m
end
end Go.Bml
namespace Go.X
open Go Go.Aml Go.Bml
section
variable {P:Program}{B:Tb}
def en(B:Tb):List Nat->List (TV B.D)->Prop
 |[],[]=>True
 |b::ns,c::a=>(∃d,c=B.tv b d)/\en B ns a
 |_,_=>False
def NA:∀(ns:List Nat) (a:bi B.D ns),en B ns (rQ B ns a)
 |[],_=>trivial
 |[c],a=>⟨⟨a,rfl⟩,trivial⟩
 |c::b::ns,a=>⟨⟨a.1,rfl⟩,NA (b::ns) a.2⟩
def en.split:∀{ns c:List Nat} {a:List (TV B.D)},en B (aX ns c) a->∃e d,a=e++d/\en B ns e/\en B c d
 |[],c,a,h=>⟨[],a,rfl,trivial,h⟩
 |n::ns,c,m::a,h=>by
  obtain⟨e,d,rfl,k,j⟩:=en.split (ns:=ns) h.2;exact⟨m::e,d,rfl,⟨h.1,k⟩,j⟩
 |_::_,_,[],h=>h.elim
def en.nil{a:List (TV B.D)}(h:en B [] a):a=[]:=by
 cases a with
 |nil=>rfl
 |cons m a=>exact h.elim
structure Two (B:Tb) (g g':Gh) (H H':List aO) (w:World) (t t':TV B.D):Prop where
 vr:∀v,VR g H w (pv B t) v->VR g' H' w (pv B t') v
 vi:∀v,VI g.F w (pv B t) v->VI g'.F w (pv B t') v
structure E8 (B:Tb) (g g':Gh) (H H':List aO) (w:World) (ts ts':List (TV B.D)):Prop where
 len:(aP B ts').length=(aP B ts).length
 vr:∀(i:Nat) (c c':PV) (v:Value),(aP B ts)[i]?=c5 c->(aP B ts')[i]?=c5 c'->VR g H w c v->VR g' H' w c' v
 vi:∀(i:Nat) (c c':PV) (v:Value),(aP B ts)[i]?=c5 c->(aP B ts')[i]?=c5 c'->VI g.F w c v->VI g'.F w c' v
variable {g g':Gh}{H H':List aO}{w:World}{ρ ρ':Nat->Nat×Nat}
mutual
def Qy(x:cU P B)(M:∀q v,VR g H w (.ptr (ρ q).1 (ρ q).2 0 0) v->VR g' H' w (.ptr (ρ' q).1 (ρ' q).2 0 0) v)(K:∀q v,VR g H w (.fl (ρ q).1 (ρ q).2) v->VR g' H' w (.fl (ρ' q).1 (ρ' q).2) v):
 ∀(a:CP) (j:List (TV B.D)),en B a.bX j->((∀b,g.F b->g'.F b)\/Kk B.flat a=true)->∃Y W,(∀o,hO ρ a (j++o)=(Y,o))/\(∀o,hO ρ' a (j++o)=(W,o))/\Two B g g' H H' w Y W
 | .any,j,e,_=>by
  obtain rfl:=en.nil e;exact⟨_,_,λ_=>rfl,λ_=>rfl,λv _=>.any v,λv _=>.any v⟩
 | .v s,j,e,p=>by
  match j,e with
  |[ak],⟨⟨d,h⟩,_⟩=>
   subst h;have k:∀v,VI g.F w (pv B (B.tv s d)) v->VI g'.F w (pv B (B.tv s d)) v:=λv c=>by
    rcases p with p |p
    .exact c.mono p λ_ _=>rfl
    .rw[x.tv] at c⊢;exact x.aqv s d p _ _ _ _ v c
   exact⟨_,_,λ_=>rfl,λ_=>rfl,λv c=>.aW (k v (c.dH (by rw[x.tv];exact x.lt s d))),k⟩
 | .p q,j,e,_=>by
  obtain rfl:=en.nil e;exact⟨_,_,λ_=>rfl,λ_=>rfl,M q,λv c=>by cases c⟩
 | .r q,j,e,_=>by
  obtain rfl:=en.nil e;exact⟨_,_,λ_=>rfl,λ_=>rfl,K q,λv c=>by cases c⟩
 | .b b,j,e,_=>by
  obtain rfl:=en.nil e;have k:∀v,VI g.F w (pv B (.bool b)) v->VI g'.F w (pv B (.bool b)) v:=λv c=>by cases c;exact .bool b
  exact⟨.bool b,.bool b,λ_=>rfl,λ_=>rfl,λv c=>.aW (k v (c.dH (.bool b))),k⟩
 | .i F s,j,e,_=>by
  obtain rfl:=en.nil e;have k:∀v,VI g.F w (pv B (.int F s)) v->VI g'.F w (pv B (.int F s)) v:=λv c=>by cases c;exact .int F s
  exact⟨.int F s,.int F s,λ_=>rfl,λ_=>rfl,λv c=>.aW (k v (c.dH (.int F s))),k⟩
 | .ns,j,e,_=>by
  obtain rfl:=en.nil e;have k:∀v,VI g.F w (pv B (.bg)) v->VI g'.F w (pv B .bg) v:=λv c=>by cases c;exact .bg
  exact⟨.bg,.bg,λ_=>rfl,λ_=>rfl,λv c=>.aW (k v (c.dH .bg)),k⟩
 | .z,j,e,_=>by
  obtain rfl:=en.nil e;have k:∀v,VI g.F w (pv B (.dB)) v->VI g'.F w (pv B .dB) v:=λv c=>by cases c;exact .dB
  exact⟨.dB,.dB,λ_=>rfl,λ_=>rfl,λv c=>.aW (k v (c.dH .dB)),k⟩
 | .q J,j,e,p=>by
  have p:∀b,g.F b->g'.F b:=p.elim id λe=>by cases e
  obtain⟨m,y,L,I,r⟩:=sR x M K J j e (.inl p);have k:∀v,VI g.F w (pv B (.vp m 0)) v->VI g'.F w (pv B (.vp y 0)) v:=λv c=>by
   have z:VI g.F w (.dw (aP B m) 0) v:=c;cases z with
   |dw _ _ b ai X ad aa D Z=>
    have O:∀(n:Nat) (a:PV),(aP B y)[n]?=c5 a->n<(aP B m).length:=λn a f=>by have:=c9 f;rw[r.len] at this;exact this
    exact .dw (aP B y) 0 b ai X (p b ad) (λn a f=>aa n _ (c4 (O n a f))) (λn a f=>D n _ (c4 (O n a f)))
     λn a f=>r.vi n _ a (X n) (c4 (O n a f)) f (Z n _ (c4 (O n a f)))
  exact⟨.vp m 0,.vp y 0,λo=>by simp only[hO,L o],λo=>by simp only[hO,I o],λv c=>.aW (k v (c.dH (.dw _ _))),k⟩
 | .g J,j,e,p=>by
  obtain⟨m,y,L,I,r⟩:=sR x M K J j e p;refine⟨.agg m,.agg y,λo=>by simp only[hO,L o],λo=>by simp only[hO,I o],λv c=>?_,λv c=>?_⟩
  .obtain⟨U,rfl,u,R⟩:=VR.ky c;refine .agg _ U (by rw[<-u];exact r.len) λi a d f h=>?_
   have l:i<(aP B m).length:=by have:=c9 h;omega
   exact r.vr i _ a d (c4 l) f (R i _ d (c4 l) h)
  .have z:VI g.F w (.agg (aP B m)) v:=c;cases z with
   |agg _ U u R=>
    refine .agg _ U (by rw[<-u];exact r.len) λi a d f h=>?_
    have l:i<(aP B m).length:=by have:=c9 h;omega
    exact r.vi i _ a d (c4 l) f (R i _ d (c4 l) h)
 | .f C J ab,j,e,p=>by
  obtain⟨ae,af,rfl,D,G⟩:=en.split e;obtain⟨m,y,L,I,r⟩:=sR x M K J ae D (p.imp id λe=>(fu e).1);obtain⟨E,ah,ag,ac,N⟩:=sR x M K ab af G (p.imp id λe=>(fu e).2);refine⟨.fn C m E,.fn C y ah,λo=>by simp only[hO];rw[dv,L,ag],λo=>by simp only[hO];rw[dv,I,ac],λv c=>?_,λv c=>?_⟩
  .have z:VR g H w (.fn C (aP B m) (aP B E)) v:=c;have aj:∃t vs:List Value,v= .func (.func C) t.toArray vs.toArray/\(aP B m).length=t.length/\(∀(i:Nat) (a:PV) (d:Value),(aP B m)[i]?=c5 a->t[i]?=c5 d->VR g H w a d)/\(aP B E).length=vs.length/\
    (∀(i:Nat) (a:PV) (d:Value),(aP B E)[i]?=c5 a->vs[i]?=c5 d->VR g H w a d):=by
    cases z with
    |aW e=>cases e with |fn _ _ _ t vs u S A T=>exact⟨t,vs,rfl,u,λi a d D G=>.aW (S i a d D G),A,λi a d D G=>.aW (T i a d D G)⟩
    |fn _ _ _ t vs u S A T=>exact⟨t,vs,rfl,u,S,A,T⟩
   obtain⟨t,vs,rfl,u,Q,A,V⟩:=aj;refine .fn C _ _ t vs (by rw[<-u];exact r.len) (λi a d f h=>?_) (by rw[<-A];exact N.len) (λi a d f h=>?_)
   .have l:i<(aP B m).length:=by have:=c9 h;omega
    exact r.vr i _ a d (c4 l) f (Q i _ d (c4 l) h)
   .have l:i<(aP B E).length:=by have:=c9 h;omega
    exact N.vr i _ a d (c4 l) f (V i _ d (c4 l) h)
  .have z:VI g.F w (.fn C (aP B m) (aP B E)) v:=c;cases z with
   |fn _ _ _ t vs u Q A V=>
    refine .fn C _ _ t vs (by rw[<-u];exact r.len) (λi a d f h=>?_) (by rw[<-A];exact N.len) (λi a d f h=>?_)
    .have l:i<(aP B m).length:=by have:=c9 h;omega
     exact r.vi i _ a d (c4 l) f (Q i _ d (c4 l) h)
    .have l:i<(aP B E).length:=by have:=c9 h;omega
     exact N.vi i _ a d (c4 l) f (V i _ d (c4 l) h)
def sR(p:cU P B)(t:∀q v,VR g H w (.ptr (ρ q).1 (ρ q).2 0 0) v->VR g' H' w (.ptr (ρ' q).1 (ρ' q).2 0 0) v)(r:∀q v,VR g H w (.fl (ρ q).1 (ρ q).2) v->VR g' H' w (.fl (ρ' q).1 (ρ' q).2) v):
 ∀(f:List CP) (h:List (TV B.D)),en B (CP.gA f) h->((∀b,g.F b->g'.F b)\/rr B.flat f=true)->∃l k,(∀a,jD ρ f (h++a)=(l,a))/\(∀a,jD ρ' f (h++a)=(k,a))/\E8 B g g' H H' w l k
 |[],h,d,_=>by
  obtain rfl:=en.nil d;exact⟨[],[],λ_=>rfl,λ_=>rfl,rfl,by simp[aP],by simp[aP]⟩
 |A::f,h,d,s=>by
  obtain⟨E,F,rfl,y,x⟩:=en.split d;obtain⟨J,z,I,C,u⟩:=Qy p t r A E y (s.imp id λd=>(fu d).1);obtain⟨l,k,G,D,n⟩:=sR p t r f F x (s.imp id λd=>(fu d).2);refine⟨J::l,z::k,λa=>by simp only[jD];rw[dv,I,G],λa=>by simp only[jD];rw[dv,C,D],by simp[aP,n.len],λi m o v e c j=>?_,λi m o v e c j=>?_⟩
  .cases i with
   |zero=>simp[aP] at e c;subst e;subst c;exact u.vr v j
   |succ i=>exact n.vr i m o v (by simpa[aP] using e) (by simpa[aP] using c) j
  .cases i with
   |zero=>simp[aP] at e c;subst e;subst c;exact u.vi v j
   |succ i=>exact n.vi i m o v (by simpa[aP] using e) (by simpa[aP] using c) j
end
end
structure Fits (P:Program) (B:Tb) (c:aq B):Prop where
 Q6:∀args w,(callFunc c.cO args).run P w= .ok (.enter c.cO args) w
 calls:∀x y,c.F x=c5 y->∀(g:Gh) (w:World) (as:List Value),as.length=c.na->bF g (av B (cz B c.par x).H) w->
  (∀t,VR g (av B (cz B c.par x).H) w (pv B (lk (cz B c.par x).E t)) (as.getD t undef))->
  Calls P c.cO as.toArray w λe w'=>∃v g',e= .returned v/\bF g' (av B (cz B c.az y).H) w'/\Bml.GStep c.low g (av B (cz B c.par x).H) w g' (av B (cz B c.az y).H) w'/\
   VR g' (av B (cz B c.az y).H) w' (pv B (kR (cz B c.az y).E)) v
section
variable {P:Program}{B:Tb}
def Iz{ρ ρ':Nat->Nat×Nat}{i:OP}{a:List (TV B.D)}(g v h e:Nat)(b:en B i.bX a):
 ∃f d,(∀c,dI ρ g v i (a++c)=(f,c))/\(∀c,dI ρ' h e i (a++c)=(d,c))/\f.aF=v/\d.aF=e/\(aY B d).ty=(aY B f).ty/\(aY B d).sz=(aY B f).sz/\(aY B d).es.length=(aY B f).es.length:=by
 cases i with
 |aap j p=>
  match a,b with
  |[u],_=>
   cases u <;> exact⟨_,_,λ_=>rfl,λ_=>rfl,rfl,rfl,rfl,rfl,rfl⟩
  |_::_::_,⟨_,b⟩=>exact b.elim
 |box n k=>
  have m:a.length=(CP.gA k).length:=by
   have:∀(ns:List Nat) (a:List (TV B.D)),en B ns a->a.length=ns.length:=λns=>by
    induction ns with
    |nil=>intro a b;rw[en.nil b];rfl
    |cons p ns x=>
     intro a b;cases a with
     |nil=>exact b.elim
     |cons j a=>simp[x a b.2]
   exact this _ _ b
  obtain⟨w,r,o⟩:=pd ρ k a m;obtain⟨s,y,t⟩:=pd ρ' k a m;exact⟨⟨g,v,.box n w⟩,⟨h,e,.box n s⟩,λc=>by simp only[dI,r c],λc=>by simp only[dI,y c],rfl,rfl,rfl,by simp[aY,o,t],rfl⟩
 |dead=>
  obtain rfl:=en.nil b;exact⟨⟨g,v,.dead⟩,⟨h,e,.dead⟩,λ_=>rfl,λ_=>rfl,rfl,rfl,rfl,rfl,rfl⟩
 |refs j l=>
  have h0:en B [] a:=by rw[<-QY l];exact b
  obtain rfl:=en.nil h0;refine⟨⟨g,v,.hole j [] (l.map λq=>.fl (ρ q).1 (ρ q).2)⟩,⟨h,e,.hole j [] (l.map λq=>.fl (ρ' q).1 (ρ' q).2)⟩,λ_=>by simp only[dI,uA,o3],λ_=>by simp only[dI,uA,o3],rfl,rfl,rfl,rfl,by simp[aY,db]⟩
def af9(z:cU P B){g g':Gh}{H H':List aO}{w:World}{j l:Nat->Nat×Nat}(af:∀q v,VR g H w (.ptr (j q).1 (j q).2 0 0) v->VR g' H' w (.ptr (l q).1 (l q).2 0 0) v)(O:∀q v,VR g H w (.fl (j q).1 (j q).2) v->VR g' H' w (.fl (l q).1 (l q).2) v)
 {y:OP} {p:List (TV B.D)} {T v aa ad:Nat} {R N:Ob B.D} (t:en B y.bX p) (o:(∀b,g.F b->g'.F b)\/uT B.flat B.el y=true) (h:∀r,dI j T v y (p++r)=(R,r)) (d:∀r,dI l aa ad y (p++r)=(N,r)):
 ∀i a e,abk (aY B N).es i a=c5 e->∃F,abk (aY B R).es i a=c5 F/\∀m,VR g H w F m->VR g' H' w e m:=by
 have h:=h [];have d:=d [];rw[ft] at h d;cases y with
 |aap ag D=>
  match p,t with
  |[X],⟨⟨ae,ab⟩,_⟩=>
   intro i a e f;cases X with
   |row E C=>
    simp only[dI,h5,and_true] at h d;subst h;subst d;refine⟨e,f,λm s=>.aW ?_⟩
    have Z:∀k,k∈C.map (B.ty E).enc->cE 0 k:=J2 z;have G:=s.dH (nR Z f);rcases o with o |o
    .exact G.mono o λ_ _=>rfl
    .obtain rfl:=z.el D ae E C ab.symm;have c:abk (C.map (B.ty (B.el D)).enc) i a=c5 e:=f;obtain⟨k,n,_⟩:=gw c;unfold abk at c;rw[n] at c;obtain⟨Y,_,rfl⟩:=ey.1 (ej n);exact z.flat _ Y o a e c _ _ _ _ m G
   |_=>
    simp only[dI,h5,and_true] at d;subst d;obtain⟨k,n,_⟩:=gw f;simp[aY] at n
  |_::_::_,⟨_,t⟩=>exact t.elim
 |box ah W=>
  obtain⟨K,U,ac,V,S⟩:=sR z af O W p t o;have J:=ac [];have L:=V [];rw[ft] at J L;simp only[dI,J,h5,and_true] at h;simp only[dI,L,h5,and_true] at d;subst h;subst d;intro i a e f
  match i,f with
  |0,f=>
   have I:(aP B U)[a]?=c5 e:=f;have Q:a<(aP B K).length:=by have:=c9 I;rw[S.len] at this;exact this
   exact⟨(aP B K)[a],c4 Q,λm s=>S.vr a _ e m (c4 Q) I s⟩
 |dead=>
  obtain rfl:=en.nil t;simp only[dI,h5,and_true] at d;subst d;intro i a e f;obtain⟨k,n,_⟩:=gw f;simp[aY] at n
 |refs ag x=>
  simp only[dI,uA,h5] at h d;obtain⟨rfl,_⟩:=h;obtain⟨rfl,_⟩:=d;intro i a e f;have M:∀(u:Nat->Nat×Nat) i,(aP B (x.map λq=>.fl (u q).1 (u q).2))[i]?=(x[i]?).map λq=>PV.fl (u q).1 (u q).2:=λu i=>by
   rw[db,n2,ec]
   rfl
  have c:((aP B (x.map λq=>.fl (l q).1 (l q).2))[i]?.bind λk=>k.cells[a]?)=c5 e:=f;rw[M] at c;cases A:x[i]? with
  |none=>rw[A] at c;cases c
  |some q=>
   rw[A] at c;cases a with
   |succ a=>simp[PV.cells] at c
   |zero=>
    have c:c5 (PV.fl (l q).1 (l q).2)=c5 e:=c;injection c with c
    subst c;refine⟨.fl (j q).1 (j q).2,?_,λm s=>O q m s⟩
    show((aP B (x.map λq=>.fl (j q).1 (j q).2))[i]?.bind λk=>k.cells[0]?)=_
    rw[M,A]
    rfl
def Pj{ρ ρ':Nat->Nat×Nat}:∀{os:List (Nat×List Nat×OP)} {e:List (TV B.D)} {q0:Nat},en B (rS os) e->
 ∃f i,(∀b,lM ρ q0 os (e++b)=(f,b))/\(∀b,lM ρ' q0 os (e++b)=(i,b))/\f.length=os.length/\i.length=os.length/\
  ∀a:Nat,a<os.length->∃d g j h,f[a]?=c5 j/\i[a]?=c5 h/\en B d.bX g/\(oN B.flat B.el os=true->uT B.flat B.el d=true)/\
   (∀b,dI ρ 0 (ρ (q0+a)).2 d (g++b)=(j,b))/\(∀b,dI ρ' 0 (ρ' (q0+a)).2 d (g++b)=(h,b))
 |[],e,q0,c=>by
  obtain rfl:=en.nil c;exact⟨[],[],λ_=>rfl,λ_=>rfl,rfl,rfl,λa k=>by simp at k⟩
 |E::os,e,q0,c=>by
  obtain⟨v,F,rfl,l,p⟩:=en.split c;obtain⟨j,h,n,m,_⟩:=Iz (ρ:=ρ) (ρ':=ρ') 0 (ρ q0).2 0 (ρ' q0).2 l;obtain⟨f,i,y,t,q,s,u⟩:=Pj (os:=os) (q0:=q0+1) p;refine⟨j::f,h::i,λb=>by simp only[lM];rw[dv,n,y],λb=>by simp only[lM];rw[dv,m,t],by simp[q],by simp[s],λa k=>?_⟩
  cases a with
  |zero=>exact⟨E.2.2,v,j,h,rfl,rfl,l,λc=>(fu c).1,n,m⟩
  |succ a=>
   obtain⟨d,g,A,z,o,x,w,r,D,C⟩:=u a (by simpa using k);refine⟨d,g,A,z,by simpa using o,by simpa using x,w,λc=>r (fu c).2,?_,?_⟩
   .rw[show q0+(a+1)=q0+1+a by omega];exact D
   .rw[show q0+(a+1)=q0+1+a by omega];exact C
def OR(u:cU P B){g m:Gh}{n s:List aO}{h:World}{f l:Nat->Nat×Nat}(y:∀q v,VR g n h (.ptr (f q).1 (f q).2 0 0) v->VR m s h (.ptr (l q).1 (l q).2 0 0) v)(w:∀q v,VR g n h (.fl (f q).1 (f q).2) v->VR m s h (.fl (l q).1 (l q).2) v):
 ∀{j:List (Nat×CP)} {e:List (TV B.D)},en B (vu j) e->((∀b,g.F b->m.F b)\/tJ B.flat j=true)->E8 B g m n s h ((gR f j e).map (·.2)) ((gR l j e).map (·.2))
 |[],e,d,_=>⟨rfl,by simp[gR,aP],by simp[gR,aP]⟩
 |p::j,e,d,x=>by
  obtain⟨E,H,rfl,C,A⟩:=en.split d;obtain⟨I,G,F,D,z⟩:=Qy u y w p.2 E C (x.imp id λd=>(fu d).1);have r:=OR u y w A (x.imp id λd=>(fu d).2);simp only[gR,F,D,hz];refine⟨by simp[aP,r.len],λi o t v c a k=>?_,λi o t v c a k=>?_⟩
  .cases i with
   |zero=>simp[aP] at c a;subst c;subst a;exact z.vr v k
   |succ i=>exact r.vr i o t v (by simpa[aP] using c) (by simpa[aP] using a) k
  .cases i with
   |zero=>simp[aP] at c a;subst c;subst a;exact z.vi v k
   |succ i=>exact r.vi i o t v (by simpa[aP] using c) (by simpa[aP] using a) k
def al8{g k:Gh}{h j:List aO}{e:World}{a c:List (Nat×TV B.D)}(d:E8 B g k h j e (a.map (·.2)) (c.map (·.2))){v:Value}(f:VR g h e (pv B (kR a)) v):VR k j e (pv B (kR c)) v:=by
 have s:c.length=a.length:=by
  have:=d.len;simpa[db] using this
 have bu:∀(a c:List (Nat×TV B.D)),E8 B g k h j e (a.map (·.2)) (c.map (·.2))->VR g h e (pv B (.bu (a.map (·.2)))) v->VR k j e (pv B (.bu (c.map (·.2)))) v:=λa c d f=>by
  obtain⟨t,rfl,r,o⟩:=VR.Db f;refine .bu _ t (by rw[<-r];exact d.len) λi q n u l=>?_
  have m:i<(aP B (a.map (·.2))).length:=by have:=c9 l;omega
  exact d.vr i _ q n (c4 m) u (o i _ n (c4 m) l)
 match a,c,s with
 |[],[],_=>exact bu [] [] d f
 |[p],[w],_=>exact d.vr 0 _ _ v rfl rfl f
 |z::b::a,y::x::c,_=>exact bu _ _ d f
end
def rH:∀(b a:List Rf),bL (b++a)=bL b++bL a
 |[],a=>rfl
 | .bG i::b,a=>by simp[bL,rH b a]
 | .new::b,a=>by simp[bL,rH b a]
 | .gone::b,a=>by simp[bL,rH b a]
 | .bad::b,a=>by simp[bL,rH b a]
def uM:∀{ids:List Rf} {i:Nat},i∈bL ids->∃q,nth ids q=c5 (.bG i)
 | .bG c::ids,i,a=>by
  rcases dd.1 a with rfl |a
  .exact⟨0,rfl⟩
  .obtain⟨q,b⟩:=uM a;exact⟨q+1,b⟩
 | .new::ids,i,a=>by obtain⟨q,b⟩:=uM (ids:=ids) a;exact⟨q+1,b⟩
 | .gone::ids,i,a=>by obtain⟨q,b⟩:=uM (ids:=ids) a;exact⟨q+1,b⟩
 | .bad::ids,i,a=>by obtain⟨q,b⟩:=uM (ids:=ids) a;exact⟨q+1,b⟩
def Ql:∀{n:Nat} {ids:List Rf},kA n ids=true->∀q,q<n->∃i,nth ids q=c5 (.bG i)
 |0,_,_,q,a=>by omega
 |n+1,.bG i::b,a,0,_=>⟨i,rfl⟩
 |n+1,.bG i::b,a,q+1,c=>Ql (n:=n) (ids:=b) a q (by omega)
 |n+1,[],a,_,_=>by simp[kA] at a
 |n+1,.new::_,a,_,_=>by simp[kA] at a
 |n+1,.gone::_,a,_,_=>by simp[kA] at a
 |n+1,.bad::_,a,_,_=>by simp[kA] at a
section
variable {D:Nat->Type}{H:List (Ob D)}
def JU:∀{n:Nat} {ids:List Rf} {os:List (Ob D)},kA n ids=true->n<=os.length->(iF H (ids.take n) (os.take n)).map (·.1)=bL (ids.take n)/\∀q i b,q<n->nth ids q=c5 (.bG i)->os[q]?=c5 b->(i,(⟨dJ H i,b.aF,b.bd⟩:Ob D))∈iF H (ids.take n) (os.take n)
 |0,_,_,_,_=>⟨by simp[iF,bL],λq i b a=>by omega⟩
 |n+1,.bG i::f,b::os,a,e=>by
  obtain⟨h,j⟩:=JU (n:=n) (ids:=f) (os:=os) a (by simpa using e);refine⟨by simp[iF,bL,h],λq k g l c d=>?_⟩
  cases q with
  |zero=>
   simp only[nth,ee,Rf.bG.injEq,kc] at c d;subst c;subst d;simp[iF]
  |succ q=>
   simp only[List.take_succ_cons,iF,dd];exact .inr (j q k g (by omega) c (by simpa using d))
 |n+1,.bG i::f,[],a,e=>by simp at e
 |n+1,[],_,a,_=>by simp[kA] at a
 |n+1,.new::_,_,a,_=>by simp[kA] at a
 |n+1,.gone::_,_,a,_=>by simp[kA] at a
 |n+1,.bad::_,_,a,_=>by simp[kA] at a
def tm:∀{ids:List Rf},(∀i,i∈bL ids->∃a,nth H i=c5 a)->(jL H ids).map (·.1)=bL ids/\∀q i a,nth ids q=c5 (.bG i)->nth H i=c5 a->(i,(⟨a.st+1,a.aF+1,.dead⟩:Ob D))∈jL H ids
 |[],_=>⟨rfl,λq i a d=>by simp[nth] at d⟩
 | .bG j::g,d=>by
  obtain⟨l,h⟩:=d j (by simp[bL]);obtain⟨e,f⟩:=tm (ids:=g) λi k=>d i (by simp[bL,k])
  refine⟨by simp[jL,h,bL,e],λq i a b c=>?_⟩
  simp only[jL,h];cases q with
  |zero=>
   simp only[nth,ee,Rf.bG.injEq] at b;subst b;rw[h] at c;injection c with c
   subst c;simp
  |succ q=>exact c7 _ (f q i a b c)
 | .new::g,d=>by
  obtain⟨e,f⟩:=tm (ids:=g) d;exact⟨e,λq i a b c=>by cases q with |zero=>simp[nth] at b |succ q=>exact f q i a b c⟩
 | .gone::g,d=>by
  obtain⟨e,f⟩:=tm (ids:=g) d;exact⟨e,λq i a b c=>by cases q with |zero=>simp[nth] at b |succ q=>exact f q i a b c⟩
 | .bad::g,d=>by
  obtain⟨e,f⟩:=tm (ids:=g) d;exact⟨e,λq i a b c=>by cases q with |zero=>simp[nth] at b |succ q=>exact f q i a b c⟩
def Jy:∀{bs:Nat} {os:List (Ob D)},(news bs os).map (·.1)=o9 bs os.length/\∀(a:Nat) (c:Ob D),os[a]?=c5 c->(bs+a,c)∈news bs os
 |bs,[]=>⟨rfl,λa c b=>by simp at b⟩
 |bs,f::os=>by
  obtain⟨d,e⟩:=Jy (bs:=bs+1) (os:=os);refine⟨by simp[news,d,q7],λa c b=>?_⟩
  cases a with
  |zero=>simp at b;subst b;simp[news]
  |succ a=>
   have:=e a c (by simpa using b);rw[show bs+(a+1)=bs+1+a by omega];exact c7 _ this
end
def gE{D:Nat->Type}(H:List (Ob D))(a d:Nat)(c:List Rf)(b:List (Ob D)):List (Nat×Ob D):=
 aX (iF H (tk a c) (tk a b)) (aX (jL H (drop a c)) (news d (drop a b)))
section
variable {D:Nat->Type}{H:List (Ob D)}
def afH{c:Type}(a:List c)(b q:Nat):nth (a.drop b) q=nth a (b+q):=by
 rw[cJ,cJ,hK]
def agp{a bs:Nat}{ids:List Rf}{os:List (Ob D)}(t:kA a ids=true)(B:a<=os.length)(G:(bL ids).Nodup)(m:∀i,i∈bL ids->∃c,nth H i=c5 c)(A:∀i,i∈bL ids->i<bs)
 (C:∀d,a+d<os.length->∃c,nth H (bs+d)=c5 c):
 (∀q i c,q<a->nth ids q=c5 (.bG i)->os[q]?=c5 c->nth (b8 H (gE H a bs ids os)) i=c5 ⟨dJ H i,c.aF,c.bd⟩)/\
 (∀q i c,a<=q->nth ids q=c5 (.bG i)->nth H i=c5 c->nth (b8 H (gE H a bs ids os)) i=c5 ⟨c.st+1,c.aF+1,.dead⟩)/\
 (∀d c,os[a+d]?=c5 c->nth (b8 H (gE H a bs ids os)) (bs+d)=c5 c)/\
 (∀i,i∉bL ids->(i<bs\/bs+(os.length -a)<=i)->nth (b8 H (gE H a bs ids os)) i=nth H i):=by
 have n:bL ids=bL (ids.take a)++bL (ids.drop a):=by rw[<-rH,gx]
 obtain⟨u,K⟩:=JU (H:=H) (os:=os) t B;obtain⟨w,x⟩:=tm (H:=H) (ids:=ids.drop a) λi e=>m i (by rw[n];exact j5 _ e)
 obtain⟨I,J⟩:=Jy (bs:=bs) (os:=os.drop a);have r:(gE H a bs ids os).map (·.1)=bL ids++o9 bs (os.length -a):=by
  unfold gE;rw[bK,bK,kK,kK,drop_eq,drop_eq,o4,o4,u,w,I,n,dv,ih]
 have s:((gE H a bs ids os).map (·.1)).Nodup:=by
  rw[r,List.nodup_append];refine⟨G,List.nodup_range',λL v b o y=>?_⟩
  subst y;have:=A L v;have:=(m6.1 o).1;omega
 obtain⟨j,F⟩:=I5 (ch:=gE H a bs ids os) (H:=H) s;have h:∀p,p∈iF H (ids.take a) (os.take a)\/p∈jL H (ids.drop a)\/p∈news bs (os.drop a)->p∈gE H a bs ids os:=λp E=>by
  unfold gE;rw[bK,bK,kK,kK,drop_eq,drop_eq,c6,c6];exact E
 have lt:∀{i c},nth H i=c5 c->i<H.length:=λ{i c} g=>by rw[cJ] at g;exact c9 g
 refine⟨λq i c l e f=>?_,λq i c l e f=>?_,λd c f=>?_,λi e o=>?_⟩
 .obtain⟨z,k⟩:=m i (gV e);exact j _ _ (h _ (.inl (K q i c l e f))) (lt k)
 .exact j _ _ (h _ (.inr (.inl (x (q -a) i c (by rw[afH,show a+(q -a)=q by omega];exact e) f)))) (lt f)
 .obtain⟨z,k⟩:=C d (c9 f);exact j _ _ (h _ (.inr (.inr (J d c (by rw[hK];exact f))))) (lt k)
 .refine F i ?_
  rw[r,c6,m6];rintro(g |g)
  .exact e g
  .omega
end
section
variable {P:Program}{B:Tb}
open Classical in
def aeK(aa:cU P B){c:aq B}(aH:Fits P B c){Ea:En B.D}{H:List (Ob B.D)}{ids:List Rf}{bf:List (TV B.D)}{a4:bi B.D c.par.bX}{ax:bi B.D c.az.bX}{bs:Nat}{rs:En B.D}{os:List (Ob B.D)}
 (b1:leaves c.par ⟨Ea,H⟩ ids=c5 bf) (ci:eJ B c.par.bX bf (rQ B c.par.bX a4)) (aT:c.F a4=c5 ax) (bC:nI B (gu H ids c.low bs) c.az ax=⟨rs,os⟩)
 (cu:zc (aX (eW H c.par.dF ids) (gK ⟨Ea,H⟩ c.par.dE))=true\/(oN B.flat B.el c.az.dF=true/\tJ B.flat c.az.dE=true))
 (bM:kA c.low ids=true) (ct:c.low<=os.length) (bO:∀i,i∈bL ids->i<bs) (be:∀e,c.low+e<os.length->nth H (bs+e)=c5 xt)
 {g:Gh} {w:World} {as:List Value} (ah:bF g (av B H) w) (b7:as.length=c.na) (bb:∀ao,VR g (av B H) w (pv B (lk Ea ao)) (as.getD ao undef)):
 Calls P c.cO as.toArray w λt Q=>∃v g',t= .returned v/\bF g' (av B (b8 H (gE H c.low bs ids os))) Q/\Bml.GStep (av B H).length g (av B H) w g' (av B (b8 H (gE H c.low bs ids os))) Q/\
  VR g' (av B (b8 H (gE H c.low bs ids os))) Q (pv B (kR rs)) v:=by
 let aI:=aX (eW H c.par.dF ids) (gK ⟨Ea,H⟩ c.par.dE)
 let fz:Nat->Prop:=λi=>i∈aI/\∀q,eQ ids q≠c5 i
 obtain⟨bB,bN,ca,cl⟩:=PQ aa b1 ci ah (fz:=fz) (λi a=>a.2) (λi d cv=>⟨d,λq j=>cv (gV (qS j))⟩);refine(aH.calls a4 ax aT _ w as b7 ca λao=>cl ao _ (bb ao)).mono ?_
 rintro t Q ⟨v,y,rfl,ae,M,a0⟩;have a1:∀i,i∈bL ids->∃L,nth H i=c5 L:=λi d=>by
  obtain⟨q,j⟩:=uM d;obtain⟨_,L,_,X,_⟩:=bN.bG q i j;exact⟨L,X⟩
 obtain⟨bK,bt,bS,ba⟩:=agp (os:=os) (bs:=bs) bM ct bB a1 bO λe E=>⟨_,be e E⟩
 generalize b2:b8 H (gE H c.low bs ids os)=H2 at bK bt bS ba⊢;have co:H2.length=H.length:=by rw[<-b2,qy]
 have cg:=NA (B:=B) c.az.bX ax;obtain⟨cG,bp,b0,u1,u2⟩:=en.split cg;obtain⟨J,b5,cs,cd,cN,cM,bR⟩:=Pj (ρ:=λq=>(q,0)) (ρ':=gu H ids c.low bs) (q0:=0) u1;have cB:cz B c.az ax=⟨gR (λq=>(q,0)) c.az.dE bp,J⟩:=by
  unfold cz nI;rw[b0,cs]
 have cm:rs=gR (gu H ids c.low bs) c.az.dE bp/\os=b5:=by
  unfold nI at bC;rw[b0,cd] at bC;injection bC with u p
  exact⟨u.symm,p.symm⟩
 obtain⟨rfl,rfl⟩:=cm;rw[cB] at ae M a0
 replace ae:bF y (av B J) Q:=ae
 replace M:Bml.GStep c.low (dj g (eQ ids) fz) (av B (cz B c.par a4).H) w y (av B J) Q:=M
 replace a0:VR y (av B J) Q (pv B (kR (gR (λq=>(q,0)) c.az.dE bp))) v:=a0
 have cI:J.length=os.length:=by omega
 have aZ:∀q b h,(dj g (eQ ids) fz).β q=c5 (b,h)->∃i,nth ids q=c5 (.bG i)/\g.β i=c5 (b,h):=λq b h a=>by
  have k:(eQ ids q).bind g.β=c5 (b,h):=a;cases aF:eQ ids q with
  |none=>rw[aF] at k;cases k
  |some i=>rw[aF] at k;exact⟨i,qS aF,k⟩
 let ag:Nat->Prop:=λi=>∃q,q<c.low/\nth ids q=c5 (.bG i)
 let aJ:Nat->Prop:=λi=>bs<=i/\c.low+(i -bs)<os.length
 let bU:Nat->Prop:=λb=>∃i h,fz i/\g.β i=c5 (b,h)
 let V:Gh:={F:=λb=>y.F b/\¬bU b,β:=λi=>if a:ag i then y.β a.choose else if i∈bL ids then ea else if aJ i then y.β (c.low+(i -bs)) else g.β i}
 have ak:∀q i,q<c.low->nth ids q=c5 (.bG i)->V.β i=y.β q:=λq i j d=>by
  have a:ag i:=⟨q,j,d⟩;show(if a:ag i then y.β a.choose else _)=_
  rw[dif_pos a,ES bB a.choose_spec.2 d]
 have am:∀q i,c.low<=q->nth ids q=c5 (.bG i)->V.β i=ea:=λq i j d=>by
  have a:¬ag i:=λ⟨D,u,p⟩=>by have:=ES bB p d;omega
  show(if a:ag i then y.β a.choose else if i∈bL ids then ea else _)=_
  rw[dif_neg a,if_pos (gV d)]
 have bX:∀e,bs+e∉bL ids:=λe a=>by have:=bO _ a;omega
 have al:∀e,c.low+e<os.length->V.β (bs+e)=y.β (c.low+e):=λe E=>by
  have a:¬ag (bs+e):=λ⟨D,u,p⟩=>bX e (gV p)
  have p:aJ (bs+e):=⟨by omega,by rw[show bs+e -bs=e by omega];exact E⟩;show(if a:ag (bs+e) then y.β a.choose else if bs+e∈bL ids then ea else if aJ (bs+e) then y.β (c.low+(bs+e -bs)) else _)=_
  rw[dif_neg a,if_neg (bX e),if_pos p,show bs+e -bs=e by omega]
 have ai:∀i,i∉bL ids->(i<bs\/bs+(os.length -c.low)<=i)->V.β i=g.β i:=λi d l=>by
  have a:¬ag i:=λ⟨D,u,p⟩=>d (gV p)
  have p:¬aJ i:=λ⟨u,p⟩=>by omega
  show(if a:ag i then y.β a.choose else if i∈bL ids then ea else if aJ i then y.β (c.low+(i -bs)) else g.β i)=_
  rw[dif_neg a,if_neg d,if_neg p]
 have aj:∀i,(∃q,q<c.low/\nth ids q=c5 (.bG i))\/(∃q,c.low<=q/\nth ids q=c5 (.bG i))\/(∃e,c.low+e<os.length/\i=bs+e)\/(i∉bL ids/\(i<bs\/bs+(os.length -c.low)<=i)):=λi=>by
  by_cases d:i∈bL ids
  .obtain⟨q,j⟩:=uM d;rcases hI q c.low with a |a
   .exact .inl ⟨q,a,j⟩
   .exact .inr (.inl ⟨q,a,j⟩)
  .by_cases a:bs<=i/\i<bs+(os.length -c.low)
   .exact .inr (.inr (.inl ⟨i -bs,by omega,by omega⟩))
   .exact .inr (.inr (.inr ⟨d,by omega⟩))
 have bq:∀q b h,y.β q=c5 (b,h)->w.heap.size<=b\/∃i o,i∈bL ids/\g.β i=c5 (b,o):=λq b h a=>by
  rcases M.oZ q b h a with a |⟨D,o,a⟩
  .exact .inl a
  .obtain⟨i,d,l⟩:=aZ D b o a;exact .inr ⟨i,o,gV d,l⟩
 have bE:∀q i,q<c.low->nth ids q=c5 (.bG i)->∃op r m f U,J[q]?=c5 m/\os[q]?=c5 f/\en B op.bX r/\(oN B.flat B.el c.az.dF=true->uT B.flat B.el op=true)/\(∀x,dI (λq=>(q,0)) 0 0 op (r++x)=(m,x))/\(∀x,dI (gu H ids c.low bs) 0 U.aF op (r++x)=(f,x))/\
  nth H i=c5 U/\nth H2 i=c5 ⟨dJ H i,f.aF,f.bd⟩/\m.aF=0/\f.aF=U.aF/\(aY B f).ty=(aY B m).ty/\(aY B f).sz=(aY B m).sz/\(aY B f).es.length=(aY B m).es.length:=λq i j d=>by
  obtain⟨op,r,m,f,z,Z,O,S,I,C⟩:=bR q (by omega);obtain⟨U,a2⟩:=a1 i (gV d);rw[e6] at I C;have bm:(gu H ids c.low bs q).2=U.aF:=by
   unfold gu;rw[show j8 q c.low=true from hM j,d];simp only[cond_true,a2]
  rw[bm] at C;obtain⟨ay,aw,bI,bd,bo,a9,aE,ar,aB⟩:=Iz (B:=B) (ρ:=λq=>(q,0)) (ρ':=gu H ids c.low bs) 0 0 0 U.aF O;obtain rfl:ay=m:=by have N:=bI [];have b:=I [];rw[N] at b;exact(eE b).1
  obtain rfl:aw=f:=by have N:=bd [];have b:=C [];rw[N] at b;exact(eE b).1
  exact⟨op,r,ay,aw,U,z,Z,O,S,I,C,a2,bK q i aw j d Z,bo,a9,aE,ar,aB⟩
 have bz:∀e,c.low+e<os.length->∃op r m f,J[c.low+e]?=c5 m/\os[c.low+e]?=c5 f/\en B op.bX r/\(oN B.flat B.el c.az.dF=true->uT B.flat B.el op=true)/\(∀x,dI (λq=>(q,0)) 0 0 op (r++x)=(m,x))/\(∀x,dI (gu H ids c.low bs) 0 1 op (r++x)=(f,x))/\
  nth H2 (bs+e)=c5 f/\m.aF=0/\f.aF=1/\(aY B f).ty=(aY B m).ty/\(aY B f).sz=(aY B m).sz/\(aY B f).es.length=(aY B m).es.length:=λe E=>by
  obtain⟨op,r,m,f,z,Z,O,S,I,C⟩:=bR (c.low+e) (by omega);rw[e6] at I C;have bm:(gu H ids c.low bs (c.low+e)).2=1:=by
   unfold gu;have:j8 (c.low+e) c.low=false:=by
    cases l:j8 (c.low+e) c.low with
    |false=>rfl
    |true=>have:=e4 l;omega
   rw[this];rfl
  rw[bm] at C;obtain⟨ay,aw,bI,bd,bo,a9,aE,ar,aB⟩:=Iz (B:=B) (ρ:=λq=>(q,0)) (ρ':=gu H ids c.low bs) 0 0 0 1 O;obtain rfl:ay=m:=by have N:=bI [];have b:=I [];rw[N] at b;exact(eE b).1
  obtain rfl:aw=f:=by have N:=bd [];have b:=C [];rw[N] at b;exact(eE b).1
  exact⟨op,r,ay,aw,z,Z,O,S,I,C,bS e aw Z,bo,a9,aE,ar,aB⟩
 have bA:∀i b h,g.β i=c5 (b,h)->i<H.length/\b<w.heap.size/\¬g.F b:=λi b h a=>by
  have d:=ah.m8 i b h a;have n:i<H.length:=by rwa [qL] at d
  refine⟨n,ah.qD a,?_⟩
  have:=(ah.obj i _ (c4 d)).mem;rw[a] at this;exact this.1
 have cC:∀b,g.F b->¬bU b:=λb l ⟨i,h,_,a⟩=>(bA i b h a).2.2 l
 have bZ:Bml.GStep (av B H).length g (av B H) w V (av B H2) Q:=by
  refine⟨M.os,M.tape,M.output,M.size,λb l=>⟨M.F b (.inl l),cC b l⟩,λb l=>M.jh b (.inl l),λb l a5=>M.rest b l λq h a=>?_,λb l=>?_,λi b h l=>?_,λi L d X=>?_⟩
  .obtain⟨i,_,p⟩:=aZ q b h a;exact a5 i h p
  .rcases M.oY b l.1 with a |a |⟨q,h,a⟩
   .rcases a with a |⟨i,h,u,p⟩
    .exact .inl a
    .exact absurd ⟨i,h,u,p⟩ l.2
   .exact .inr (.inl a)
   .obtain⟨i,_,p⟩:=aZ q b h a;exact .inr (.inr ⟨i,h,p⟩)
  .rcases aj i with⟨q,j,d⟩ |⟨q,j,d⟩ |⟨e,E,rfl⟩ |⟨d,T⟩
   .rw[ak q i j d] at l;exact(bq q b h l).imp id λ⟨i,o,_,a⟩=>⟨i,o,a⟩
   .rw[am q i j d] at l;cases l
   .rw[al e E] at l;exact(bq _ b h l).imp id λ⟨i,o,_,a⟩=>⟨i,o,a⟩
   .rw[ai i d T] at l;exact .inr ⟨i,h,l⟩
  .obtain⟨bl,R,rfl⟩:=oU X;rcases aj i with⟨q,j,n⟩ |⟨q,j,n⟩ |⟨e,E,rfl⟩ |⟨n,T⟩
   .obtain⟨op,r,m,f,U,z,Z,O,S,I,C,K,W,af,aV,aC,ad,ab⟩:=bE q i j n;rw[R] at K;injection K with K
    subst K;refine⟨_,df W,by rw[e7,e7,aV];exact ef _,λ_=>?_⟩
    obtain⟨aF,L,au,a3,cA,cb,cq,cx⟩:=bN.bG q i n;rw[R] at a3;injection a3 with a3
    subst a3;obtain⟨cO,aO,cL,ck⟩:=M.dF q _ j (df cA);have b9:(av B J)[q]?=c5 (aY B m):=df (by rw[cJ];exact z);rw[b9] at aO;injection aO with aO
    subst aO;obtain⟨b4,ce,cf⟩:=ck (by rw[e7,e7,af,cb]);refine⟨?_,?_,?_⟩
    .show(aY B ⟨dJ H i,f.aF,f.bd⟩).sz=_
     rw[show aY B ⟨dJ H i,f.aF,f.bd⟩=aY B f from rfl,ad,b4,cq]
    .show(aY B ⟨dJ H i,f.aF,f.bd⟩).es.length=_
     rw[show aY B ⟨dJ H i,f.aF,f.bd⟩=aY B f from rfl,ab,ce,cx]
    .rw[ak q i j n,cf];show(eQ ids q).bind g.β=_
     rw[aF];rfl
   .have:=bt q i bl j n R;exact⟨_,df this,by rw[e7,e7];exact Nat.le_succ _,λt=>by rw[e7,e7] at t;exact absurd t (Nat.succ_ne_self _)⟩
   .obtain⟨op,r,m,f,z,Z,O,S,I,C,K,W,af,_⟩:=bz e E;rw[be e E] at R;injection R with R
    subst R;exact⟨_,df K,by rw[e7];exact l2 _,λt=>by rw[e7,e7,af] at t;cases t⟩
   .exact⟨_,df (by rw[ba i n T];exact R),ef _,λ_=>⟨rfl,rfl,ai i n T⟩⟩
 have bP:(∀b,y.F b->V.F b)\/(oN B.flat B.el c.az.dF=true/\tJ B.flat c.az.dE=true):=cu.imp (λa5 b l=>⟨l,λ⟨i,h,u,_⟩=>by
  have p:i∈aI:=u.1;have aG:aI=[]:=by
   cases cc:aI with
   |nil=>rfl
   |cons N J=>rw[show aX (eW H c.par.dF ids) (gK ⟨Ea,H⟩ c.par.dE)=aI from rfl,cc] at a5;cases a5
  rw[aG] at p;cases p⟩) id
 have cr:∀q,(∃i,q<c.low/\nth ids q=c5 (.bG i))\/c.low<=q:=λq=>by
  rcases hI q c.low with a |a
  .obtain⟨i,d⟩:=Ql bM q a;exact .inl ⟨i,a,d⟩
  .exact .inr a
 have conv:∀q:Nat,∀m,(av B J)[q]?=c5 m->m.aF=0/\∃i f,gu H ids c.low bs q=(i,f.aF)/\(av B H2)[i]?=c5 f/\f.sz=m.sz/\f.es.length=m.es.length/\V.β i=y.β q:=λq m u=>by
  obtain⟨cK,aU,rfl⟩:=oU u;rw[cJ] at aU;rcases cr q with⟨i,j,d⟩ |j
  .obtain⟨op,r,ay,f,U,z,Z,O,S,I,C,K,W,af,aV,aC,ad,ab⟩:=bE q i j d;rw[aU] at z;injection z with z
   subst z;refine⟨by rw[e7,af],i,_,?_,df W,ad,ab,ak q i j d⟩
   unfold gu;rw[show j8 q c.low=true from hM j,d];simp only[cond_true,K,e7,aV]
  .have cH:q<J.length:=c9 aU;have E:c.low+(q -c.low)<os.length:=by omega
   obtain⟨op,r,ay,f,z,Z,O,S,I,C,K,W,af,aC,ad,ab⟩:=bz (q -c.low) E;rw[show c.low+(q -c.low)=q by omega,aU] at z;injection z with z
   subst z;refine⟨by rw[e7,W],bs+(q -c.low),_,?_,df K,ad,ab,by rw[al _ E,show c.low+(q -c.low)=q by omega]⟩
   unfold gu;have:j8 q c.low=false:=by
    cases l:j8 q c.low with
    |false=>rfl
    |true=>have:=e4 l;omega
   rw[this];simp only[cond_false,e7,af]
 have bJ:∀q v,VR y (av B J) Q (.ptr q 0 0 0) v->VR V (av B H2) Q (.ptr (gu H ids c.low bs q).1 (gu H ids c.low bs q).2 0 0) v:=λq v a=>by
  cases a with
  |aW a=>cases a
  |ptr _ _ _ _ m N X bb cw=>
   obtain⟨h0,i,f,bk,bw,bx,a7,br⟩:=conv q m X;obtain⟨u,b,h,l,rfl⟩:=cw h0.symm;rw[bk];exact .ptr i _ 0 0 f _ bw (ef _) λ_=>⟨by rw[a7];exact u,b,h,by rw[br];exact l,by rw[bx]⟩
 have bV:∀q v,VR y (av B J) Q (.fl q 0) v->VR V (av B H2) Q (.fl (gu H ids c.low bs q).1 (gu H ids c.low bs q).2) v:=λq v a=>by
  cases a with
  |aW a=>cases a
  |fl _ _ m _ X bb u cy=>
   obtain⟨h0,i,f,bk,bw,bx,a7,br⟩:=conv q m X;rw[bk];refine .fl i _ f _ bw (ef _) u λ_=>?_
   have bY:=cy h0.symm;unfold SL at bY⊢;rw[bx,a7,br];exact bY
 have bW:∀q op r m (f:Ob B.D) aS aR,J[q]?=c5 m->en B op.bX r->(oN B.flat B.el c.az.dF=true->uT B.flat B.el op=true)->(∀x,dI (λq=>(q,0)) 0 0 op (r++x)=(m,x))->(∀x,dI (gu H ids c.low bs) aS aR op (r++x)=(f,x))->
  (aY B f).ty=(aY B m).ty->(aY B f).sz=(aY B m).sz->(aY B f).es.length=(aY B m).es.length->∀i,V.β i=y.β q->qT V (av B H2) Q i (aY B f):=λq op r m f aS aR z O S I C aE ar aB i ch=>by
  obtain⟨bn,a8,ac⟩:=ae.obj q _ (df (by rw[cJ];exact z));have cj:=af9 aa (H:=av B J) (H':=av B H2) (g:=y) (g':=V) (w:=Q) bJ bV O (bP.imp id λa=>S a.1) I C;refine⟨by rw[ar];exact bn,aeL aa (op:=op) (ms:=r) I C a8,?_⟩
  rw[ch];cases l:y.β q with
  |none=>
   rw[l] at ac;exact dT (by rw[aB,ac];rfl)
  |some bv=>
   obtain⟨b,h⟩:=bv;rw[l] at ac;obtain⟨bD,cells,aM,bc,bH,a6,bh⟩:=ac;refine⟨λa=>bD a.1,cells,by rw[aE];exact aM,by rw[ar];exact bc,bH,by rw[aB];exact a6,λN e cD aH=>?_⟩
   obtain⟨bj,b6,cn⟩:=cj N e cD aH;obtain⟨aQ,u,p,aG⟩:=bh N e bj b6;exact⟨aQ,by rw[ar];exact u,p,cn aQ aG⟩
 refine⟨v,V,rfl,⟨λb l=>ae.fb b l.1,λi A b h o a k=>?_,λi b h a=>?_,λi L X=>?_⟩,bZ,?_⟩
 .
  have bG:∀i,i∉bL ids->(i<bs\/bs+(os.length -c.low)<=i)->∀b h,g.β i=c5 (b,h)->∀q o,y.β q≠c5 (b,o):=λi d _ b h l q o j=>by
   rcases bq q b o j with a |⟨A,C2,u,p⟩
   .have:=(bA i b h l).2.1;omega
   .obtain rfl:=ah.inj i A b h C2 l p;exact d u
  rcases aj i with⟨q,j,d⟩ |⟨q,j,d⟩ |⟨e,E,rfl⟩ |⟨d,T⟩
  .rw[ak q i j d] at a;rcases aj A with⟨D,Y,n⟩ |⟨D,Y,n⟩ |⟨aK,aL,rfl⟩ |⟨n,az⟩
   .rw[ak D A Y n] at k;obtain rfl:=ae.inj q D b h o a k;rw[d] at n;injection n with n
    injection n
   .rw[am D A Y n] at k;cases k
   .rw[al aK aL] at k;have:=ae.inj q _ b h o a k;omega
   .rw[ai A n az] at k;exact absurd a (bG A n az b o k q h)
  .rw[am q i j d] at a;cases a
  .rw[al e E] at a;rcases aj A with⟨D,Y,n⟩ |⟨D,Y,n⟩ |⟨aK,aL,rfl⟩ |⟨n,az⟩
   .rw[ak D A Y n] at k;have:=ae.inj _ D b h o a k;omega
   .rw[am D A Y n] at k;cases k
   .rw[al aK aL] at k;have:=ae.inj _ _ b h o a k;omega
   .rw[ai A n az] at k;exact absurd a (bG A n az b o k _ h)
  .rw[ai i d T] at a;rcases aj A with⟨D,Y,n⟩ |⟨D,Y,n⟩ |⟨aK,aL,rfl⟩ |⟨n,az⟩
   .rw[ak D A Y n] at k;exact absurd k (bG i d T b h a D o)
   .rw[am D A Y n] at k;cases k
   .rw[al aK aL] at k;exact absurd k (bG i d T b h a _ o)
   .rw[ai A n az] at k;exact ah.inj i A b h o a k
 .rw[qL,co];rcases aj i with⟨q,j,d⟩ |⟨q,j,d⟩ |⟨e,E,rfl⟩ |⟨d,T⟩
  .obtain⟨L,X⟩:=a1 i (gV d);rw[cJ] at X;exact c9 X
  .rw[am q i j d] at a;cases a
  .have:=be e E;rw[cJ] at this;exact c9 this
  .rw[ai i d T] at a;exact(bA i b h a).1
 .obtain⟨bl,R,rfl⟩:=oU X;rcases aj i with⟨q,j,d⟩ |⟨q,j,d⟩ |⟨e,E,rfl⟩ |⟨d,T⟩
  .obtain⟨op,r,m,f,U,z,Z,O,S,I,C,K,W,af,aV,aC,ad,ab⟩:=bE q i j d;rw[R] at W;injection W with W
   subst W;exact bW q op r m f 0 U.aF z O S I C aC ad ab i (ak q i j d)
  .obtain⟨U,a2⟩:=a1 i (gV d);have:=bt q i U j d a2;rw[R] at this;injection this with this
   subst this;refine⟨qb,λN t G=>by simp[aY] at G,?_⟩
   rw[am q i j d]
   rfl
  .obtain⟨op,r,m,f,z,Z,O,S,I,C,K,W,af,aC,ad,ab⟩:=bz e E;rw[R] at K;injection K with K
   subst K;exact bW (c.low+e) op r m bl 0 1 z O S I C aC ad ab _ (al e E)
  .rw[ba i d T] at R;obtain⟨bn,a8,ac⟩:=ah.obj i _ (df R);refine⟨bn,a8,?_⟩
   rw[ai i d T];cases l:g.β i with
   |none=>rw[l] at ac;exact ac
   |some bv=>
    obtain⟨b,h⟩:=bv;rw[l] at ac;obtain⟨bD,cells,aM,bc,bH,a6,bh⟩:=ac;have bQ:∀q o,(dj g (eQ ids) fz).β q≠c5 (b,o):=λq o a=>by
     obtain⟨A,u,p⟩:=aZ q b o a;obtain rfl:=ah.inj i A b h o l p;exact d (gV u)
    refine⟨λaT=>?_,cells,(M.rest b (nN aM) bQ).trans aM,bc,bH,a6,λN e bj aH=>?_⟩
    .rcases M.oY b aT.1 with a |a |⟨q,o,a⟩
     .rcases a with a |⟨A,o,u,p⟩
      .exact bD a
      .exact aT.2 ⟨A,o,u,p⟩
     .have:=nN aM;omega
     .exact bQ q o a
    .obtain⟨aQ,u,p,aG⟩:=bh N e bj aH;exact⟨aQ,u,p,aG.nZ bZ⟩
 .exact al8 (OR aa bJ bV u2 (bP.imp id λa=>a.2)) a0
where
 aeL (aa:cU P B) {ρ ρ':Nat->Nat×Nat} {s v aS aR:Nat} {op:OP} {ms:List (TV B.D)} {L au:Ob B.D} (a:∀x,dI ρ s v op (ms++x)=(L,x)) (k:∀x,dI ρ' aS aR op (ms++x)=(au,x))
  (hw:∀(i:Nat) (t:PV),(aY B L).es[i]?=c5 t->t.cells.length=(aY B L).sz):∀(i:Nat) (t:PV),(aY B au).es[i]?=c5 t->t.cells.length=(aY B au).sz:=by
  have a:=a [];have k:=k [];rw[ft] at a k;cases op with
  |refs r aN=>
   simp only[dI,uA,h5] at a k;obtain⟨rfl,_⟩:=a;obtain⟨rfl,_⟩:=k;have bT:∀(aD:Nat->Nat×Nat) i,(aP B (aN.map λq=>.fl (aD q).1 (aD q).2))[i]?=(aN[i]?).map λq=>PV.fl (aD q).1 (aD q).2:=λaD i=>by
    rw[db,n2,ec]
    rfl
   intro i t G;have G:(aP B (aN.map λq=>.fl (ρ' q).1 (ρ' q).2))[i]?=c5 t:=G;rw[bT] at G;cases j:aN[i]? with
   |none=>rw[j] at G;cases G
   |some q=>
    rw[j] at G;injection G with G
    subst G;exact hw i (.fl (ρ q).1 (ρ q).2) (by show(aP B (aN.map λq=>.fl (ρ q).1 (ρ q).2))[i]?=_;rw[bT,j];rfl)
  |aap r an=>
   refine HK aa au λan ap aA t=>?_
   cases ms with
   |nil=>
    simp only[dI] at k;obtain⟨rfl,_⟩:=eE k;cases t
   |cons J bf=>cases J <;> (simp only[dI] at k;obtain⟨rfl,_⟩:=eE k;cases t)
  |box ao cp=>
   refine HK aa au λan ap aA t=>?_
   simp only[dI] at k;obtain⟨rfl,_⟩:=eE k;cases t
  |dead=>
   refine HK aa au λan ap aA t=>?_
   simp only[dI] at k;obtain⟨rfl,_⟩:=eE k;cases t
 HK (aa:cU P B) (L:Ob B.D) (hnh:∀an ap aA,L.bd≠ .hole an ap aA):∀(i:Nat) (t:PV),(aY B L).es[i]?=c5 t->t.cells.length=(aY B L).sz:=λi t G=>by
  obtain⟨cF,cE,b3⟩:=L;cases b3 with
  |aap r ap=>
   obtain⟨ax,_,rfl⟩:=ey.1 (ej G);exact aa.wid r ax
  |box ao cp=>
   match i,G with
   |0,G=>
    simp only[aY,kc,ee] at G;subst G;simp[aY,PV.cells,db]
  |dead=>simp[aY] at G
  |hole an ap aA=>exact absurd rfl (hnh an ap aA)
end
section
variable {P:Program}{B:Tb}{H H':List (Ob B.D)}
def rT{i v:Nat}(a:nth H' i=nth H i):aK H' i v=aK H i v:=by unfold aK;rw[a]
def R5{c:List Nat}:∀(a:List (TV B.D)),(∀i,i∈iB a->nth H' i=nth H i)->qf H' c a=qf H c a
 |[],_=>rfl
 |d::a,b=>by
  simp only[qf];rw[R5 a λi e=>b i (by simp only[iB,bK,c6];exact .inr e)]
  congr 1
  cases d with
  |fl q v=>simp only[ml];rw[rT (b q (by simp[iB,refs,bK]))]
  |_=>rfl
def Ki:∀(a:List Nat),(∀i,i∈a->nth H' i=nth H i)->kY H' a=kY H a
 |[],_=>rfl
 |r::a,b=>by
  unfold kY;rw[b r (by simp),Ki a λi c=>b i (c7 _ c)]
mutual
def H6{h:List Nat}:∀(c:TV B.D),(∀i,jN H (refs c) i->nth H' i=nth H i)->kJ H' h c=kJ H h c
 | .any,_=>rfl
 | .z0,_=>rfl
 | .fS,_=>rfl
 | .bg,_=>rfl
 | .dB,_=>rfl
 | .int ..,_=>rfl
 | .bool _,_=>rfl
 | .str _,_=>rfl
 | .row ..,_=>rfl
 | .rv ..,_=>rfl
 | .vp ..,_=>rfl
 | .ptr ..,_=>rfl
 | .bu _,_=>rfl
 | .jC _,_=>rfl
 | .fl q v,a=>by
  simp only[kJ];rw[rT (a q (.one (by simp[refs])))]
  split
  .rfl
  .rename_i n g j;obtain⟨k,m⟩:=fx j;rw[R5 g λi b=>a i ?_];unfold jN;rw[bK,c6];exact .inr (yx.2 ⟨q,k,v,n,g,by simp[refs],m,b⟩)
  .rfl
 | .sl q v o len,a=>by simp only[kJ];rw[rT (a q (.one (by simp[refs])))]
 | .agg d,a=>by simp only[kJ];rw[v8 d a]
 | .fn f d l,a=>by
  simp only[kJ];rw[v8 d λi b=>a i (b.mono λr e=>by simp only[refs,bK,c6];exact .inl e),v8 l λi b=>a i (b.mono λr e=>by simp only[refs,bK,c6];exact .inr e)]
def v8{e:List Nat}:∀(a:List (TV B.D)),(∀i,jN H (iB a) i->nth H' i=nth H i)->jS H' e a=jS H e a
 |[],_=>rfl
 |f::a,d=>by
  simp only[jS];rw[H6 f λi b=>d i (b.mono λr c=>by simp only[iB,bK,c6];exact .inl c),v8 a λi b=>d i (b.mono λr c=>by simp only[iB,bK,c6];exact .inr c)]
end
mutual
def Mh{t:List Rf}{r:List Nat}(k:∀i,i∈bL t->nth H' i=nth H i):∀(p:CP) (c:TV B.D) (d:List (TV B.D)),eR H t r p c=c5 d->(∀i,i∈jn H p c->nth H' i=nth H i)->eR H' t r p c=c5 d/\jn H' p c=jn H p c
 | .any,c,d,a,_=>⟨a,rfl⟩
 | .v s,c,d,a,h=>by
  simp only[eR] at a⊢;have x:∀i,jN H (refs c) i->nth H' i=nth H i:=h;rw[H6 c x];refine⟨a,?_⟩
  simp only[jn];rw[Ki (refs c) λi l=>x i (.one l)]
 | .p q,c,d,a,E=>by
  refine⟨?_,rfl⟩
  simp only[eR] at a⊢
  split at a
  .rename_i i w
   split at a
   .rename_i L m z n j;obtain⟨g,e⟩:=a8 a;obtain rfl:=beq_eq g;rw[rT (k i (gV j)),n,j];simp only[hQ,cond_true];exact e
   .cases a
  .cases a
 | .r q,c,d,a,E=>by
  refine⟨?_,rfl⟩
  simp only[eR] at a⊢
  split at a
  .rename_i i w
   split at a
   .rename_i s M z n j;obtain⟨g,e⟩:=a8 a;obtain rfl:=beq_eq g;rw[rT (k i (gV j)),n,j];simp only[hQ,cond_true];exact e
   .rename_i s M T z n j;obtain⟨g,e⟩:=a8 a;obtain rfl:=beq_eq g;rw[rT (k i (gV j)),n,j];simp only[hQ,cond_true];exact e
   .cases a
  .exact a
  .exact a
  .cases a
 | .q o,c,d,a,h=>by
  simp only[eR] at a⊢
  split at a
  .rename_i i w;have l:nth H' i=nth H i:=h i (by simp[jn])
   split at a
   .rename_i L m n;obtain⟨U,A⟩:=fx n;rw[rT l,n];cases y:has r i with
    |true=>rw[y] at a;cases a
    |false=>
     rw[y] at a;obtain⟨g,e⟩:=a8 a;obtain⟨v,u⟩:=pY k o m d e λC O=>h C (by simp only[jn,A,dd];exact .inr O)
     simp only[g,cond_true,cond_false];refine⟨v,?_⟩
     simp only[jn,l,A,u]
   .cases a
  .rename_i m;obtain⟨g,e⟩:=a8 a;obtain⟨v,u⟩:=pY k o m d e h;simp only[g,cond_true];exact⟨v,u⟩
  .cases a
 | .f V o J,c,d,a,h=>by
  simp only[eR] at a⊢
  split at a
  .rename_i f m Q;obtain⟨N,D⟩:=a8 a;obtain⟨R,G,g,e,rfl⟩:=iK D;obtain⟨K,I⟩:=pY k o m R g λi l=>h i (by simp only[jn,bK,c6];exact .inl l)
   obtain⟨F,S⟩:=pY k J Q G e λi l=>h i (by simp only[jn,bK,c6];exact .inr l)
   refine⟨by rw[N];simp[K,F,cat],by simp only[jn,I,S]⟩
  .cases a
 | .g o,c,d,a,h=>by
  simp only[eR] at a⊢
  split at a
  .rename_i m;exact pY k o m d a h
  .cases a
 | .b b,c,d,a,_=>⟨a,rfl⟩
 | .i W s,c,d,a,_=>⟨a,rfl⟩
 | .z,c,d,a,_=>⟨a,rfl⟩
 | .ns,c,d,a,_=>⟨a,rfl⟩
def pY{e:List Rf}{h:List Nat}(g:∀i,i∈bL e->nth H' i=nth H i):∀(b:List CP) (c:List (TV B.D)) (d:List (TV B.D)),fg H e h b c=c5 d->(∀i,i∈gJ H b c->nth H' i=nth H i)->fg H' e h b c=c5 d/\gJ H' b c=gJ H b c
 |[],[],d,a,_=>⟨a,rfl⟩
 |m::b,r::c,d,a,j=>by
  simp only[fg] at a⊢;obtain⟨s,o,l,k,rfl⟩:=iK a;obtain⟨q,p⟩:=Mh g m r s l λi f=>j i (by simp only[gJ,bK,c6];exact .inl f)
  obtain⟨n,t⟩:=pY g b c o k λi f=>j i (by simp only[gJ,bK,c6];exact .inr f)
  exact⟨by simp[q,n,cat],by simp only[gJ,p,t]⟩
 |[],_::_,d,a,_=>by simp[fg] at a
 |_::_,[],d,a,_=>by simp[fg] at a
end
def Bu{u:List Rf}{x:List Nat}(n:∀i,i∈bL u->nth H' i=nth H i):∀{j:List (Nat×List Nat×OP)} {d:List Rf} {k:List (TV B.D)},(∀i,i∈bL d->nth H' i=nth H i)->iP H u x j d=c5 k->(∀i,i∈eW H j d->nth H' i=nth H i)->
 iP H' u x j d=c5 k/\eW H' j d=eW H j d/\∀i,i∈bL d->∃F,nth H i=c5 F
 |[],[],k,_,e,_=>⟨e,rfl,by simp[bL]⟩
 |(J,N,G)::j,i::d,k,p,e,o=>by
  simp only[iP] at e⊢;obtain⟨y,L,b,r,rfl⟩:=iK e;have t:∀c,c∈bL d->nth H' c=nth H c:=λc a=>p c (by cases i <;> simp[bL,a])
  cases G with
  |aap I K=>
   obtain⟨g,m,f⟩:=Bu n t r λc a=>o c (by simpa[eW] using a)
   cases i with
   |bG q=>
    have h:=p q (by simp[bL]);simp only[dn,h] at b⊢;refine⟨by rw[b,g];rfl,by simpa[eW] using m,λc a=>?_⟩
    rcases dd.1 a with rfl |a
    .split at b
     .exact⟨_,by assumption⟩
     .cases b
    .exact f c a
   |new=>
    refine⟨?_,by simpa[eW] using m,λc a=>f c (by simpa[bL] using a)⟩
    simp only[dn] at b⊢;rw[b,g];rfl
   |gone=>simp[dn] at b
   |bad=>simp[dn] at b
  |box O A=>
   cases i with
   |bG q=>
    have h:=p q (by simp[bL]);simp only[dn,h] at b⊢
    split at b
    .rename_i M D l;obtain⟨s,w⟩:=a8 b;obtain⟨v,C⟩:=pY n A D y w λc a=>o c (by simp only[eW,l,bK,c6];exact .inl a)
     obtain⟨g,m,f⟩:=Bu n t r λc a=>o c (by simp only[eW,l,bK,c6];exact .inr a)
     refine⟨by rw[s,g];simp[v,cat],by simp only[eW,h,l,C,m],λc a=>?_⟩
     rcases dd.1 a with rfl |a
     .exact⟨_,l⟩
     .exact f c a
    .cases b
   |new=>simp[dn] at b
   |gone=>simp[dn] at b
   |bad=>simp[dn] at b
  |dead=>cases i <;> simp[dn] at b
  |refs I E=>
   cases i with
   |bG q=>
    have h:=p q (by simp[bL]);simp only[dn,h] at b⊢
    split at b
    .rename_i Q z l;obtain⟨s,w⟩:=a8 b;obtain⟨v,_⟩:=pY n (iQ E) z y w λc a=>by rw[Fq] at a;cases a
     obtain⟨g,m,f⟩:=Bu n t r λc a=>o c (by simpa[eW] using a)
     refine⟨by rw[s,g];simp[v,cat],by simpa[eW] using m,λc a=>?_⟩
     rcases dd.1 a with rfl |a
     .exact⟨_,l⟩
     .exact f c a
    .cases b
   |new=>simp[dn] at b
   |gone=>simp[dn] at b
   |bad=>simp[dn] at b
 |[],_::_,k,_,e,_=>by simp[iP] at e
 |_::_,[],k,_,e,_=>by simp[iP] at e
def N0{e:List Rf}{j:List Nat}{b:En B.D}(h:∀i,i∈bL e->nth H' i=nth H i):∀{a:List (Nat×CP)} {d:List (TV B.D)},oz ⟨b,H⟩ e j a=c5 d->(∀i,i∈gK ⟨b,H⟩ a->nth H' i=nth H i)->
 oz ⟨b,H'⟩ e j a=c5 d/\gK ⟨b,H'⟩ a=gK ⟨b,H⟩ a
 |[],d,c,_=>⟨c,rfl⟩
 |p::a,d,c,g=>by
  simp only[oz] at c⊢;obtain⟨q,s,k,l,rfl⟩:=iK c;obtain⟨m,o⟩:=Mh h p.2 _ q k λi f=>g i (by simp only[gK,bK,c6];exact .inl f)
  obtain⟨n,r⟩:=N0 h l λi f=>g i (by simp only[gK,bK,c6];exact .inr f)
  exact⟨by simp[m,n,cat],by simp only[gK,o,r]⟩
def NS{p:bY}{c:En B.D}{a:List Rf}{g:List (TV B.D)}(b:leaves p ⟨c,H⟩ a=c5 g)(f:∀i,i∈aX (bL a) (aX (eW H p.dF a) (gK ⟨c,H⟩ p.dE))->nth H' i=nth H i):
 leaves p ⟨c,H'⟩ a=c5 g/\aX (eW H' p.dF a) (gK ⟨c,H'⟩ p.dE)=aX (eW H p.dF a) (gK ⟨c,H⟩ p.dE)/\∀i,i∈bL a->∃q,nth H i=c5 q:=by
 unfold leaves at b⊢;obtain⟨k,b⟩:=a8 b;obtain⟨h,b⟩:=a8 b;obtain⟨u,t,o,r,rfl⟩:=iK b;have e:∀i,i∈bL a->nth H' i=nth H i:=λi d=>f i (by simp only[bK,c6];exact .inl d)
 obtain⟨n,m,j⟩:=Bu e e o λi d=>f i (by simp only[bK,c6];exact .inr (.inl d))
 obtain⟨l,s⟩:=N0 e r λi d=>f i (by simp only[bK,c6];exact .inr (.inr d))
 refine⟨?_,by rw[m,s],j⟩
 rw[k,h];show cat (iP H' a (bL a) p.dF a) (oz ⟨c,H'⟩ a (bL a) p.dE)=_
 rw[n,l]
 rfl
def aeG{a:List Rf}{low bs:Nat}(c:∀i,i∈bL a->nth H' i=nth H i):gu H' a low bs=gu H a low bs:=by
 funext q
 unfold gu;cases j8 q low with
 |false=>rfl
 |true=>
  simp only[cond_true];cases b:nth a q with
  |none=>rfl
  |some r=>
   cases r with
   |bG i=>simp only[c i (gV b)]
   |new=>rfl
   |gone=>rfl
   |bad=>rfl
def Xs{d:List Rf}{low bs:Nat}{os:List (Ob B.D)}(l:∀i,i∈bL d->nth H' i=nth H i):gE H' low bs d os=gE H low bs d os:=by
 have k:bL d=bL (d.take low)++bL (d.drop low):=by rw[<-rH,gx]
 have b:∀(a:List Rf) (os:List (Ob B.D)),(∀i,i∈bL a->nth H' i=nth H i)->iF H' a os=iF H a os:=λa=>by
  induction a with
  |nil=>intro os _;rfl
  |cons h a e=>
   intro os c;cases h with
   |bG i=>
    cases os with
    |nil=>rfl
    |cons n os=>
     simp only[iF,dJ,c i (by simp[bL])];rw[e os λg f=>c g (by simp[bL,f])]
   |new=>cases os <;> rfl
   |gone=>cases os <;> rfl
   |bad=>cases os <;> rfl
 have m:∀(a:List Rf),(∀i,i∈bL a->nth H' i=nth H i)->jL H' a=jL H a:=λa=>by
  induction a with
  |nil=>intro _;rfl
  |cons h a e=>
   intro c;cases h with
   |bG i=>
    simp only[jL,c i (by simp[bL])];rw[e λg f=>c g (by simp[bL,f])]
   |new=>exact e c
   |gone=>exact e c
   |bad=>exact e c
 unfold gE;rw[kK,drop_eq,b _ _ λi j=>l i (by rw[k];exact oi _ j),m _ λi j=>l i (by rw[k];exact j5 _ j)]
end
section
variable {P:Program}{B:Tb}{R:Type}{r:R}
def Dz{d:Nat->Type}:∀(c:List (TV d)) (a b:Nat),lk (fi a c) (a+b)=(c[b]?).getD .any
 |[],_,_=>rfl
 |f::c,a,0=>by simp[fi,lk,hQ]
 |f::c,a,b+1=>by
  have:fe a (a+(b+1))=false:=by
   cases e:fe a (a+(b+1)) with
   |false=>rfl
   |true=>have:=beq_eq e;omega
  simp only[fi,lk,this,cond_false];rw[show a+(b+1)=a+1+b by omega,Dz c (a+1) b];simp
def QD{c:Nat->Type}:∀(a:List (TV c)) (b:Nat),(fi b a).length=a.length
 |[],_=>rfl
 |d::a,b=>by simp[fi,QD a]
def ZT{g:Gh}{d:List aO}{e:World}{c:List (TV B.D)}{b:List Value}(h:xB g d e (aP B c) b)(a:Nat):VR g d e (pv B (lk (fi 0 c) a)) (b.getD a undef):=by
 have f:=Dz c 0 a;rw[e6] at f;rw[f];cases j:c[a]? with
 |none=>exact .any _
 |some k=>
  have l:=c9 j;have i:a<b.length:=by rw[<-h.1,db,l3];exact l
  have:=h.2 a (pv B k) b[a] (EL j) (c4 i);rw[h8,c4 i];exact this
def Z3(ae:cU P B){x:List (aq B)}(ab:∀b,b∈x->Fits P B b){t:Nat}{c:List (TV B.D)}{H:List (Ob B.D)}{G:cr B.D->Option R}(a:nz B t ⟨fi 0 c,H⟩ G x=c5 r):
 ∃k,G k=c5 r/\iZ H k/\∃b,b∈x/\b.cO=t/\∀(H':List (Ob B.D)),(∀i,i∈aX k.rd (eV k.wr)->nth H' i=nth (aX H (dx k.nw)) i)->∀g w n,bF g (av B H') n->xB g (av B H') n (aP B c) w->
  Calls P t w.toArray n λy q=>∃A p v o,y= .returned A/\(v=pv B k.val/\o=av B (b8 H' k.wr))/\bF p o q/\VR p o q v A/\Bml.GStep (av B H').length g (av B H') n p o q:=by
 induction x with
 |nil=>simp[nz] at a
 |cons b x K=>
  have next:nz B t ⟨fi 0 c,H⟩ G x=c5 r->∃k,G k=c5 r/\iZ H k/\∃z,z∈b::x/\z.cO=t/\∀(H':List (Ob B.D)),(∀i,i∈aX k.rd (eV k.wr)->nth H' i=nth (aX H (dx k.nw)) i)->∀g w n,bF g (av B H') n->xB g (av B H') n (aP B c) w->
   Calls P t w.toArray n λy q=>∃A p v o,y= .returned A/\(v=pv B k.val/\o=av B (b8 H' k.wr))/\bF p o q/\VR p o q v A/\Bml.GStep (av B H').length g (av B H') n p o q:=λa=>by
   obtain⟨k,u,F,z,C,ar⟩:=K (λz aD=>ab z (c7 _ aD)) a;exact⟨k,u,F,z,c7 _ C,ar⟩
  simp only[nz] at a;cases J:(bif fe b.cO t then fe (len (fi 0 c)) b.na else false) with
  |false=>rw[J] at a;exact next a
  |true=>
   rw[J] at a;obtain⟨E,ad⟩:=fu J;have E:=beq_eq E;simp only[cond_true] at a
   split at a
   .rename_i aJ s;unfold Nv at a;obtain⟨S,a⟩:=a8 a;obtain⟨L,a⟩:=a8 a;obtain⟨T,a⟩:=a8 a;obtain⟨A,a,ap⟩:=Ae a;obtain⟨aE,am,a⟩:=ei.1 a;generalize aL:nQ (D:=B.D) ⟨fi 0 c,H⟩ b.par.dF=ids at s S L T a;generalize aC:nI B (gu H ids b.low (len H)) b.az aE=aw at a;obtain⟨rs,os⟩:=aw;obtain⟨ax,aA⟩:=a8 a;have W:b.low<=os.length:=by rw[<-eu];exact e4 ax
    have aB:zc (aX (eW H b.par.dF ids) (gK ⟨fi 0 c,H⟩ b.par.dE))=true\/(oN B.flat B.el b.az.dF=true/\tJ B.flat b.az.dE=true):=by
     cases aF:zc (aX (eW H b.par.dF ids) (gK ⟨fi 0 c,H⟩ b.par.dE)) with
     |true=>exact .inl rfl
     |false=>
      rw[aF] at S;exact .inr (fu S)
    obtain⟨_,_,Q⟩:=NS (H':=H) s λ_ _=>rfl
    have Z:(bL ids).Nodup:=by
     unfold leaves at s;obtain⟨_,s⟩:=a8 s;obtain⟨Z,_⟩:=a8 s;exact(tw _).1 Z
    have M:∀i,i∈bL ids->i<len H:=λi d=>by
     obtain⟨e,h⟩:=Q i d;rw[cJ] at h;rw[eu];exact c9 h
    have U:(len (drop b.low os))=os.length -b.low:=by rw[eu,drop_eq,ih]
    have O:bL ids=bL (ids.take b.low)++bL (ids.drop b.low):=by rw[<-rH,gx]
    obtain⟨au,aK⟩:=JU (H:=H) (os:=os) L W;obtain⟨an,aM⟩:=tm (H:=H) (ids:=ids.drop b.low) λi d=>Q i (by rw[O];exact j5 _ d)
    obtain⟨aG,af⟩:=Jy (bs:=len H) (os:=os.drop b.low);refine⟨_,aA,?_,b,by simp,E,?_⟩
    .intro i j l;have l:(i,j)∈gE H b.low (len H) ids os:=l;unfold gE at l;rw[bK,bK,kK,kK,drop_eq,drop_eq,c6,c6] at l;show i<H.length+len (drop b.low os)/\_
     rw[U];rcases l with l |l |l
     .have d:i∈bL ids:=by
       rw[O];refine oi _ ?_;rw[<-au];exact hY (f:=(·.1)) l
      have:=M i d;rw[eu] at this;refine⟨by omega,λe h=>?_⟩
      have:j.st=dJ H i:=Nh _ _ _ _ l;rw[this];unfold dJ;rw[h];exact l1 _
     .have d:i∈bL ids:=by
       rw[O];refine j5 _ ?_;rw[<-an];exact hY (f:=(·.1)) l
      have:=M i d;rw[eu] at this;refine⟨by omega,λe h=>?_⟩
      obtain⟨aI,I,ac⟩:=s9 _ _ _ l;rw[h] at I;injection I with I
      subst I;rw[ac];exact l1 _
     .have d:i∈o9 (len H) (os.drop b.low).length:=by rw[<-aG];exact hY (f:=(·.1)) l
      have:=m6.1 d;rw[ih,eu] at this;refine⟨by omega,λe h=>?_⟩
      rw[cJ] at h;have:=c9 h;omega
    .intro H' X g w n l aa;have V:∀i,i∈bL ids\/i∈aX (eW H b.par.dF ids) (gK ⟨fi 0 c,H⟩ b.par.dE)->nth H' i=nth (aX H (dx (len (drop b.low os)))) i:=λi d=>X i (by
      show i∈aX (aX (bL ids) (aX (eW H b.par.dF ids) (gK ⟨fi 0 c,H⟩ b.par.dE))) _
      rw[bK,bK,c6,c6];exact .inl d)
     have Y:∀i e,nth H i=c5 e->nth (aX H (dx (len (drop b.low os)))) i=c5 e:=λi e h=>Dy h
     have N:∀i,i∈bL ids->nth H' i=nth H i:=λi d=>by
      obtain⟨e,h⟩:=Q i d;rw[V i (.inl d),Y i e h,h]
     obtain⟨ak,ag,_⟩:=NS (H':=H') s λi d=>by
      rw[bK,c6] at d;rcases d with d |d
      .exact N i d
      .obtain⟨e,h⟩:=Ni T i d;rw[V i (.inr d),Y i e h,h]
     have aj:=aeG (low:=b.low) (bs:=len H) N;have ah:=Xs (low:=b.low) (bs:=len H) (os:=os) N;have aH:=aeK ae (ab b (by simp)) (Ea:=fi 0 c) (H:=H') (ids:=ids) (bs:=len H) (rs:=rs) (os:=os) ak ap am (by rw[aj];exact aC) (by rw[ag];exact aB) L W M (λm ao=>by
      have ai:len H+m∈eV (gE H b.low (len H) ids os):=by
       have az:(os.drop b.low)[m]?=c5 os[b.low+m]:=by rw[hK];exact c4 ao
       have:=af m _ az;have:(len H+m,os[b.low+m])∈gE H b.low (len H) ids os:=by
        unfold gE;rw[bK,bK,kK,kK,drop_eq,drop_eq,c6,c6];exact .inr (.inr this)
       exact Z4 this
      have:=X (len H+m) (by
       show len H+m∈aX _ (eV (gE H b.low (len H) ids os))
       rw[bK,c6];exact .inr ai)
      rw[this];exact PK (by show m<len (drop b.low os);rw[U];omega)) l (as:=w) (by
       have u:=beq_eq ad;rw[eu,QD] at u;rw[<-aa.1,db,l3,u]) (ZT aa)
     rw[<-E];refine aH.mono ?_
     rintro y q ⟨v,p,al,u,F,C⟩;rw[ah] at u F C;exact⟨v,p,_,_,al,⟨rfl,rfl⟩,u,C,F⟩
   .exact next a
where
 Z4 {D:Nat->Type} {c:List (Nat×Ob D)} {i:Nat} {e:Ob D} (a:(i,e)∈c):i∈eV c:=by
  induction c with
  |nil=>cases a
  |cons ay c K=>
   rcases dd.1 a with y |a
   .simp[eV, <-y]
   .simp[eV,K a]
 Nh {D:Nat->Type} {H:List (Ob D)}:∀(c:List Rf) (os:List (Ob D)) (i:Nat) (j:Ob D),(i,j)∈iF H c os->j.st=dJ H i
  | .bG m::c,e::os,i,j,a=>by
   simp only[iF,dd,h5] at a;rcases a with⟨rfl,rfl⟩ |a
   .rfl
   .exact Nh c os i j a
  |[],_,_,_,a=>by simp[iF] at a
  | .bG m::c,[],_,_,a=>by simp[iF] at a
  | .new::c,_,_,_,a=>by simp[iF] at a
  | .gone::c,_,_,_,a=>by simp[iF] at a
  | .bad::c,_,_,_,a=>by simp[iF] at a
 s9 {D:Nat->Type} {H:List (Ob D)}:∀(c:List Rf) (i:Nat) (j:Ob D),(i,j)∈jL H c->∃e,nth H i=c5 e/\j.st=e.st+1
  | .bG m::c,i,j,a=>by
   simp only[jL] at a
   split at a
   .rename_i e h;simp only[dd,h5] at a;rcases a with⟨rfl,rfl⟩ |a
    .exact⟨e,h,rfl⟩
    .exact s9 c i j a
   .exact s9 c i j a
  |[],_,_,a=>by simp[jL] at a
  | .new::c,i,j,a=>s9 c i j a
  | .gone::c,i,j,a=>s9 c i j a
  | .bad::c,i,j,a=>s9 c i j a
 Ni {D:Nat->Type} {H:List (Ob D)}:∀{c:List Nat},here H c=true->∀i,i∈c->∃e,nth H i=c5 e
  |[],_,i,d=>by cases d
  |ay::c,a,i,d=>by
   simp only[here] at a
   split at a
   .rename_i e h;rcases dd.1 d with rfl |d
    .exact⟨e,h⟩
    .exact Ni a i d
   .cases a
end
end Go.X
namespace Go.Bml
open Go
section
variable {P:Program}{nt:Nat}{E:Env}{H:List aO}{d:Option Nat}{ty:TypeId}{pos:String}{aft:Array Edge}{x y:Operand}{t:TypeId}
def aiA{b c:List PV}{a:Nat}(j:a+c.length<=b.length)(i e:Nat):abk (b.take a++c++b.drop (a+c.length)) i e=if i<a then abk b i e else if i<a+c.length then abk c (i -a) e else abk b i e:=by
 have h:(b.take a).length=a:=by simp;omega
 unfold abk;rw[dv]
 by_cases f:i<a
 .rw[if_pos f,dt (by omega),eo f]
 .rw[if_neg f,dk (by omega),h]
  by_cases g:i<a+c.length
  .rw[if_pos g,dt (by omega)]
  .rw[if_neg g,dk (by omega),hK]
   congr 2
   omega
def bF.put{g:Gh}{m:World}{r b C off:Nat}{o:aO}{a:List PV}{j:List Value}{aK:Array Value}(Y:bF g H m)(M:H[r]?=c5 o)(J:g.β r=c5 (b,C))(R:m.heap[b]?=c5 (.cells aK o.ty (0,0)))
 (W:gI g H m o.sz a j) (ag:∀(i:Nat) (e:PV),a[i]?=c5 e->e.cells.length=o.sz) (ah:off+a.length<=o.es.length):
 GStep H.length g H m (g.push r (c5 (b,C))) (H.set r ⟨o.ty,o.sz,o.es.take off++a++o.es.drop (off+a.length),o.aF⟩) (m.setRow b (aK.toList.take (off*o.sz)++j++aK.toList.drop (off*o.sz+j.length)).toArray)/\
 bF (g.push r (c5 (b,C))) (H.set r ⟨o.ty,o.sz,o.es.take off++a++o.es.drop (off+a.length),o.aF⟩) (m.setRow b (aK.toList.take (off*o.sz)++j++aK.toList.drop (off*o.sz+j.length)).toArray):=by
 have G:=Y.obj r o M;have X:=G.mem;rw[J] at X;obtain⟨_,aj,B,U,ai,ad,Z⟩:=X;rw[R] at B;injection B with B
 injection B with B _ _
 subst B;have Q:j.length=a.length*o.sz:=W.1;have an:off*o.sz+j.length<=aK.size:=by
  rw[U,Q, <-j9];exact gb _ (by omega)
 have T:(o.es.take off++a++o.es.drop (off+a.length)).length=o.es.length:=by simp;omega
 generalize K:(aK.toList.take (off*o.sz)++j++aK.toList.drop (off*o.sz+j.length)).toArray=s;have ac:s.size=aK.size:=by
  rw[<-K];simp only[List.size_toArray,e5,hq,ih,Array.length_toList];omega
 have S:(aK.toList.take (off*o.sz)).length=off*o.sz:=by simp;omega
 have ab:∀k,k<j.length->s[off*o.sz+k]?=j[k]? :=λk N=>by
  rw[<-K,gy,dv,dk (by omega),S,dt (by omega)]
  congr 1
  omega
 have O:∀q,q<off*o.sz\/off*o.sz+j.length<=q->s[q]?=aK[q]? :=λq I=>by
  rw[<-K,gy,dv];rcases I with I |I
  .rw[dt (by omega),eo I,j6]
  .rw[dk (by omega),S,dk (by omega),hK,j6]
   congr 1
   omega
 refine Y.set (r:=r) (o:=o) (o':=⟨o.ty,o.sz,o.es.take off++a++o.es.drop (off+a.length),o.aF⟩) (p:=c5 (b,C)) M rfl rfl rfl (by simp)
  (λV al af=>setRow_other m b V s (λe=>af C (by rw[e];exact J))) (ef _) (λ_=>⟨rfl,T,J.symm⟩)
  (λV ak h=>by injection h with h;injection h with w u;subst w;exact .inl ⟨C,J⟩) G.pos
  (λi e he=>?_) ?_
 .have am:(o.es.take off).length=off:=by simp;omega
  simp only at he;rw[dv] at he
  by_cases w:i<off
  .rw[dt (by omega),eo w] at he;exact G.width i e he
  .rw[dk (by omega)] at he
   by_cases u:i - (o.es.take off).length<a.length
   .rw[dt u] at he;exact ag _ e he
   .rw[dk (by omega),hK] at he;exact G.width _ e he
 .refine⟨s,setRow_heap m b aK s o.ty (0,0) R,by rw[ac,U],ai,by rw[T];exact ad,λi D c n=>?_⟩
  show ∃l,s[i*o.sz+D]?=c5 l/\l.oneCell'=true/\VR g H m c l
  simp only at n;rw[aiA ah] at n
  split at n
  .rename_i w;obtain⟨l,A,u,F⟩:=Z i D c n;obtain⟨ae,aa,ap⟩:=gw n;have ao:=G.width i ae aa;have:(i+1)*o.sz<=off*o.sz:=gb _ w;rw[j9,qq] at this;exact⟨l,(O _ (.inl (by omega))).trans A,u,F⟩
  .rename_i w
   split at n
   .rename_i u;obtain⟨l,A,F,L⟩:=W.2 _ _ c n;refine⟨l,?_,F,L⟩
    have N:=(e0.1 A).1;rw[show i*o.sz+D=off*o.sz+((i -off)*o.sz+D) by rw[<-Nat.add_assoc, <-j9];congr 2;omega,ab _ N];exact A
   .rename_i u;obtain⟨l,A,F,L⟩:=Z i D c n;have:(off+a.length)*o.sz<=i*o.sz:=gb _ (by omega);rw[j9, <-Q] at this;exact⟨l,(O _ (.inr (by omega))).trans A,F,L⟩
def al0{g:Gh}{w:World}{b:Value}{z:PV}{a n:Nat}(u:kP b=z)(v:z.cells.length=a)(J:z.cells.all PV.one=true):gI g H w a (hB n z) (ez b.cells n).toList/\∀e∈(ez b.cells n).toList,e.oneCell'=true:=by
 have D:VR g H w z b:=u▸ .aW (AE _ _ _);obtain⟨I,C⟩:=D.tZ J (λvs=>u▸Hl b vs);have h:b.cells.size=a:=by simp at I;omega
 have B:∀c,c<n*a->(ez b.cells n).toList[c]?=b.cells[c%a]? :=λc f=>by
  have r:0<a:=m3 λo=>by rw[o] at f;omega
  have p:c%a<b.cells.size:=by rw[h];exact Nat.mod_lt _ r
  rw[j6];unfold ez;rw[Array.getElem?_map,Array.getElem?_range,if_pos (by rw[h];exact f)];simp only[l4,h];rw[getElem!_def,h9 p]
 have K:(ez b.cells n).toList.length=n*a:=by simp[ez,h]
 refine⟨⟨by rw[K,j7],λi k G j=>?_⟩,λe m=>?_⟩
 .obtain⟨L,j⟩:=Rq j;obtain⟨e,m,l,s⟩:=C k G j;have q:k<a:=by rw[<-v];exact(e0.1 j).1
  refine⟨e,?_,l,s⟩
  have p:i*a+k<n*a:=by
   have:(i+1)*a<=n*a:=gb _ (by omega);rw[j9,qq] at this;omega
  rw[B _ p,Nat.mul_comm,Nat.mul_add_mod,Nat.mod_eq_of_lt q];exact m
 .obtain⟨c,f,rfl⟩:=oo m;have A:c<n*a:=by omega
  have r:0<a:=m3 λo=>by rw[o] at A;omega
  have q:c%a<z.cells.length:=by rw[v];exact Nat.mod_lt _ r
  obtain⟨e,F,l,s⟩:=C _ _ (c4 q);have:=B c A;rw[F,c4 f] at this;injection this with this
  rw[this];exact l
def aog{b:Act}{a:World}:(execOp b.eval ⟨d,.call {callee:=.builtin .clear,args:=#[x],argTypes:=#[t]},ty,pos,aft,ea⟩).run P a=
 ((j1 #[t] ty #[b.eval x]).run P a).andThen λv c=>.ok (.value v) c:=by
 simp[execOp,resolve,invoke,builtin]
def ou{r:Nat}{a:aO}(c:H[r]?=c5 a):H.set r a=H:=by
 refine p6 λi=>?_
 by_cases b:i=r
 .subst b;rw[ev (e0.1 c).1,c]
 .rw[eH (Ne.symm b)]
def Wy{r v off len:Nat}{o:aO}{c:Value}{z:PV}(W:PE E x= .sl r v off len)(A:ek H r o)(V:o.aF=v)(I:dU P t=c5 o.ty)(L:dV P o.ty=c5 c)(K:kP c=z)(D:z.cells.length=o.sz)(Z:z.cells.all PV.one=true):
 fJ P ⟨d,.call {callee:=.builtin .clear,args:=#[x],argTypes:=#[t]},ty,pos,aft,ea⟩ E H λab H1=>ab= .bu []/\H1=H.set r ⟨o.ty,o.sz,o.es.take off++hB len z++o.es.drop (off+len),o.aF⟩:=by
 intro g nt k w u ai ae M;have Q:=lh (W▸u.e.eval x) A V;obtain⟨U,l⟩:=id Q;have B:H[r]?=c5 o:=A;have ac:∃a h,(j1 #[t] ty #[k.eval x]).run P w= .ok (.tuple #[]) a/\GStep H.length g H w h (H.set r ⟨o.ty,o.sz,o.es.take off++hB len z++o.es.drop (off+len),o.aF⟩) a/\
  bF h (H.set r ⟨o.ty,o.sz,o.es.take off++hB len z++o.es.drop (off+len),o.aF⟩) a:=by
  have zero:len=0->(∃e cap,k.eval x= .slice e 0 cap)->∃a h,(j1 #[t] ty #[k.eval x]).run P w= .ok (.tuple #[]) a/\GStep H.length g H w h (H.set r ⟨o.ty,o.sz,o.es.take off++hB len z++o.es.drop (off+len),o.aF⟩) a/\
   bF h (H.set r ⟨o.ty,o.sz,o.es.take off++hB len z++o.es.drop (off+len),o.aF⟩) a:=by
   rintro rfl ⟨e,cap,f⟩;have j:(j1 #[t] ty #[k.eval x]).run P w= .ok (.tuple #[]) w:=by
    rw[f];cases e <;> simp[j1,run_underlying (gD I)]
   have O:(⟨o.ty,o.sz,o.es.take off++hB 0 z++o.es.drop (off+0),o.aF⟩:aO)=o:=by simp
   rw[O,ou B];exact⟨w,g,j,GStep.refl _ _ _ _,u.m⟩
  cases s:g.β r with
  |none=>
   rw[s] at l;obtain⟨_,h0,e,f⟩:=l;subst h0;exact zero rfl ⟨e,0,f⟩
  |some p=>
   obtain⟨b,ag⟩:=p;rw[s] at l;obtain⟨cap,e,f,ad,R,_⟩:=l
   by_cases h0:len=0
   .subst h0;exact zero rfl ⟨e,cap,f⟩
   .rw[R h0] at f;have aa:=(u.m.obj r o A);have G:=aa.mem;rw[s] at G;obtain⟨_,aK,F,X,ak,af,al⟩:=G;obtain⟨J,N⟩:=al0 (g:=g) (H:=H) (w:=w) (n:=len) K D Z;have S:(ez c.cells len).toList.length=len*o.sz:=by rw[J.1,j7]
    have T:off*o.sz+0+(ez c.cells len).toList.length<=aK.size:=by
     rw[X,S,hS, <-j9];exact gb _ (by omega)
    have C:=run_storeCells_at P b (off*o.sz) o.ty (ez c.cells len).toList 0 aK w F T N;simp only[hS] at C;have j:(j1 #[t] ty #[k.eval x]).run P w= .ok (.tuple #[]) (w.setRow b (aK.toList.take (off*o.sz)++(ez c.cells len).toList++aK.toList.drop (off*o.sz+(ez c.cells len).toList.length)).toArray):=by
     rw[f];obtain⟨aj,rfl⟩:∃n,len=n+1:=⟨len -1,by omega⟩;simp[j1,run_underlying (gD I),Ey L,C]
    obtain⟨m,q⟩:=u.m.put B s F J (λi ah Y=>by have:=ej Y;rw[k0 this];exact D) (off:=off) (by simpa using U);rw[j7] at m q;exact⟨_,_,j,m,q⟩
 obtain⟨a,h,j,m,q⟩:=ac;unfold r5;rw[aog,j];exact M (.tuple #[]) a h (.bu []) _ ⟨rfl,rfl⟩ (.aW (.bu [] [] rfl (by simp))) q m
def Yo{a:Act}{b:World}:(execOp a.eval ⟨d,.call {callee:=.builtin .copy,args:=#[x,y],argTypes:=#[t,t]},ty,pos,aft,ea⟩).run P b=
 ((k6 #[t,t] ty #[a.eval x,a.eval y]).run P b).andThen λv c=>.ok (.value v) c:=by
 simp[execOp,resolve,invoke,builtin]
def aem{g:Gh}{v:World}{a b:Nat}{e:List PV}{m:List Value}(j:gI g H v a e m)(w:∀(i:Nat) (h:PV),e[i]?=c5 h->h.cells.length=a)(A:b<=e.length):gI g H v a (e.take b) (m.take (b*a))/\∀f∈m.take (b*a),f.oneCell'=true:=by
 have r:b*a<=e.length*a:=gb _ A;refine⟨⟨by rw[hq,hq,j.1,o6 r,o6 A],λi q k c=>?_⟩,λf n=>?_⟩
 .have z:i<b:=by
   obtain⟨h,o,_⟩:=gw c;have:=(e0.1 o).1;simp at this;omega
  have u:abk e i q=c5 k:=by
   unfold abk at c⊢;rw[eo z] at c;exact c
  obtain⟨f,n,l,B⟩:=j.2 i q k u;obtain⟨h,o,K⟩:=gw u;have L:=w i h o;have:(i+1)*a<=b*a:=gb _ z;rw[j9,qq] at this;exact⟨f,by rw[eo (by omega)];exact n,l,B⟩
 .obtain⟨D,C,rfl⟩:=oo n;have s:D<b*a:=by simp at C;omega
  have J:0<a:=m3 λj=>by rw[j] at s;omega
  obtain⟨F,G,I⟩:=Jv J (Nat.lt_of_lt_of_le s r);obtain⟨k,c⟩:=Gg w F G;obtain⟨f,p,l,_⟩:=j.2 _ _ k c;rw[I] at p;rw[List.getElem_take];have:=(e0.1 p).2;rw[this];exact l
def US{r v off len:Nat}{o:aO}{p:PV}{a:List PV}(ar:PE E x= .sl r v off len)(z:ek H r o)(ao:o.aF=v)(av:PE E y=p)(ac:lE H p o.sz a)(S:dU P t=c5 o.ty)(J:cH P o.ty=c5 o.sz):
 fJ P ⟨d,.call {callee:=.builtin .copy,args:=#[x,y],argTypes:=#[t,t]},ty,pos,aft,ea⟩ E H λaA H1=>aA= .int .i64 ((min len a.length:Nat):Int)/\H1=H.set r ⟨o.ty,o.sz,o.es.take off++a.take len++o.es.drop (off+(a.take len).length),o.aF⟩:=by
 intro g nt m e n aL aE aa;have ag:=lh (ar▸n.e.eval x) z ao;obtain⟨aJ,s⟩:=id ag;have T:=n.m.obj r o z;have af:=T.pos;have w:H[r]?=c5 o:=z;obtain⟨V,ak,aI,Q,ad⟩:=ac.real n.m (av▸n.e.eval y) af;have aC:∃f l,(k6 #[t,t] ty #[m.eval x,m.eval y]).run P e= .ok (goInt ((min len a.length:Nat):Int)) f/\GStep H.length g H e l (H.set r ⟨o.ty,o.sz,o.es.take off++a.take len++o.es.drop (off+(a.take len).length),o.aF⟩) f/\
  bF l (H.set r ⟨o.ty,o.sz,o.es.take off++a.take len++o.es.drop (off+(a.take len).length),o.aF⟩) f:=by
  have ay:Nat.min a.length len=min len a.length:=rb _ _;have zero:min len a.length=0->(∃j cap,m.eval x= .slice j len cap)->∃f l,(k6 #[t,t] ty #[m.eval x,m.eval y]).run P e= .ok (goInt ((min len a.length:Nat):Int)) f/\GStep H.length g H e l (H.set r ⟨o.ty,o.sz,o.es.take off++a.take len++o.es.drop (off+(a.take len).length),o.aF⟩) f/\
   bF l (H.set r ⟨o.ty,o.sz,o.es.take off++a.take len++o.es.drop (off+(a.take len).length),o.aF⟩) f:=by
   rintro h0 ⟨j,cap,k⟩;have Y:a.take len=[]:=dT (by rw[hq];exact h0);have L:(⟨o.ty,o.sz,o.es.take off++a.take len++o.es.drop (off+(a.take len).length),o.aF⟩:aO)=o:=by rw[Y];simp
   refine⟨e,g,?_,by rw[L,ou w];exact GStep.refl _ _ _ _,by rw[L,ou w];exact n.m⟩
   rw[h0];rw[k,Q];cases j <;> cases ak <;> simp[k6,run_underlying (gD S),r4,run_sizeOf J,ay,h0,p0,loadCells,loadCellsFrom,storeCells]
  cases u:g.β r with
  |none=>
   rw[u] at s;obtain⟨_,h0,j,k⟩:=s;subst h0;exact zero (by simp) ⟨j,0,k⟩
  |some q=>
   obtain⟨b,aH⟩:=q;rw[u] at s;obtain⟨cap,j,k,aD,ae,_⟩:=s
   by_cases h0:min len a.length=0
   .exact zero h0 ⟨j,cap,k⟩
   .have al:len≠0:=by omega
    have am:a≠[]:=λaq=>by rw[aq] at h0;simp at h0
    rw[ae al] at k;obtain⟨G,h,rfl,aw,aB⟩:=ad.resolve_left am;have R:=T.mem;rw[u] at R;obtain⟨_,aK,N,au,aM,aG,aN⟩:=R;have ai:a.take len=a.take (min len a.length):=by
     rw[List.take_eq_take_iff];omega
    rw[ai];generalize az:min len a.length=c at*;have aF:c<=len:=by omega
    have O:c<=a.length:=by omega
    obtain⟨U,ab⟩:=aem aw V O;have M:(h.take (c*o.sz)).length=c*o.sz:=by rw[U.1,hq,o6 O]
    have an:off*o.sz+0+(h.take (c*o.sz)).length<=aK.size:=by
     rw[au,M,hS, <-j9];exact gb _ (by omega)
    have I:=run_storeCells_at P b (off*o.sz) o.ty (h.take (c*o.sz)) 0 aK e N an ab;simp only[hS] at I;have W:(loadCells G (c*o.sz)).run P e= .ok (h.take (c*o.sz)).toArray e:=by
     have:=run_loadCells_list (P:=P) e G (h.take (c*o.sz)) λK ah B=>aB K ah (by
      have ax:K<c*o.sz:=by have:=(e0.1 B).1;omega
      rw[eo ax] at B;exact B)
     rw[M] at this;exact this
    have C:(k6 #[t,t] ty #[m.eval x,m.eval y]).run P e= .ok (goInt c) (e.setRow b (aK.toList.take (off*o.sz)++h.take (c*o.sz)++aK.toList.drop (off*o.sz+(h.take (c*o.sz)).length)).toArray):=by
     rw[k,Q];have aj:Nat.min a.length len=c:=by rw[<-az];exact rb _ _
     simp[k6,run_underlying (gD S),r4,run_sizeOf J,aj,p0,W,I]
    have Z:(a.take c).length=c:=by rw[hq];omega
    obtain⟨A,D⟩:=n.m.put w u N U (λi ap F=>by
     have X:i<c:=by have:=(e0.1 F).1;omega
     rw[eo X] at F;exact V i ap F) (off:=off) (by rw[Z];omega)
    exact⟨_,_,C,A,D⟩
 obtain⟨f,l,C,A,D⟩:=aC;unfold r5;rw[Yo,C];exact aa (goInt ((min len a.length:Nat):Int)) f l (.int .i64 ((min len a.length:Nat):Int)) _ ⟨rfl,rfl⟩ (.aW (VI.int .i64 _)) D A
def apT{B:Op}{r v len:Nat}{o:aO}(e:cM P ⟨d,B,ty,pos,aft,ea⟩ E H (.sl r v 0 len))(k:ek H r o)(N:o.aF=v):
 fJ P ⟨d,B,ty,pos,aft,ea⟩ E H λW H1=>W= .fl r (v+1)/\H1=H.set r ⟨o.ty,o.sz,o.es.take len,v+1⟩:=by
 intro g nt X n s ab Y G;obtain⟨x,L,C⟩:=e g nt X n s;have J:=lh C k N;obtain⟨aa,h⟩:=id J;have u:=s.m.obj r o k;have w:H[r]?=c5 o:=k;have R:(o.es.take len).length=len:=by simp;omega
 obtain⟨K,M⟩:=s.m.set (r:=r) (o:=o) (o':=⟨o.ty,o.sz,o.es.take len,v+1⟩) (w':=n) (p:=g.β r) w rfl rfl rfl (ef _) (λ_ _ _=>rfl) (by simp;omega) (λe=>by simp at e;omega) (λb m e=>.inl ⟨m,e⟩) u.pos
  (λi A a=>by
   have q:i<len:=by have:=(e0.1 a).1;simp at this;omega
   simp only at a;rw[eo q] at a;exact u.width i A a)
  (by
   have j:=u.mem;cases c:g.β r with
   |none=>
    rw[c] at j;show o.es.take len=[]
    rw[show o.es=[] from j];simp
   |some p=>
    obtain⟨b,m⟩:=p;rw[c] at j;obtain⟨_,cells,O,Q,T,Z,V⟩:=j;refine⟨cells,O,Q,T,by simp;omega,λi F I f=>V i F I ?_⟩
    obtain⟨A,a,_⟩:=gw f;have q:i<len:=by have:=(e0.1 a).1;simp at this;omega
    unfold abk at f⊢;simp only at f;rw[eo q] at f;exact f)
 unfold r5;rw[L];have z:x.oneCell'=true/\SL (g.push r (g.β r)) ⟨o.ty,o.sz,o.es.take len,v+1⟩ r 0 (o.es.take len).length x:=by
  unfold SL;rw[Gh.kg,R];cases c:g.β r with
  |none=>
   rw[c] at h;obtain⟨_,h0,l,a⟩:=h;exact⟨by rw[a];rfl,by simp,rfl,h0,l,a⟩
  |some p=>
   obtain⟨b,m⟩:=p;rw[c] at h;obtain⟨cap,l,a,D,S,U⟩:=h;exact⟨by rw[a];rfl,by simp,cap,l,a,D,S,U⟩
 exact G x n _ (.fl r (v+1)) _ ⟨rfl,rfl⟩ (.fl r (v+1) _ x (ev (e0.1 w).1) (ef _) z.1 λ_=>z.2) M K
end
end Go.Bml
namespace Go.X
open Go Go.Aml Go.Bml
section
variable {P:Program}{B:Tb}{R:Type}{r:R}
def D0(c:TV B.D)(q v b a d:Nat):Prop:=(c= .fl q v/\b=0/\a=d)\/c= .sl q v b a
def MJ{j:List (Ob B.D)}{k:TV B.D}{i:Nat->Nat->Nat->Nat->(b:Nat)->List (B.D b)->Option R}(a:B4 B j k i=c5 r):
 ∃q v f e b c d,nth j q=c5 ⟨d,v,.aap b c⟩/\D0 (B:=B) k q v f e c.length/\i q v f e b c=c5 r:=by
 unfold B4 at a
 split at a
 .rename_i q v
  split at a
  .rename_i b c g;obtain⟨d,h⟩:=fx g;exact⟨q,v,0,_,b,c,d,h,.inl ⟨rfl,rfl,rfl⟩,a⟩
  .cases a
 .rename_i q v f e
  split at a
  .rename_i b c g;obtain⟨d,h⟩:=fx g;exact⟨q,v,f,e,b,c,d,h,.inr rfl,a⟩
  .cases a
 .cases a
def Lj{a:Option Nat}{b:Nat}(c:KK a b=true):a=c5 b:=by
 cases a with
 |none=>cases c
 |some d=>rw[beq_eq c]
def MH{n:Oper}{b:Env}{a:List aO}{i:Operand}{q g f:Nat}{ob:aO}{o:PV->List aO->Prop}(p:(PE b i= .fl q ob.aF/\g=0/\f=ob.es.length)\/PE b i= .sl q ob.aF g f)(l:ek a q ob)
 (c:∀e,PE e i= .sl q ob.aF g f->(∀k d h,kV a (PE b k) d h->kV a (PE e k) d h)->fJ P n e a o):fJ P n b a o:=by
 rcases p with⟨j,rfl,rfl⟩ |j
 .obtain⟨t,rfl,m⟩:=ri j;refine yP m l rfl (c _ ?_ λk d h s=>JM s m l)
  exact ni _ _ _
 .exact c b j λ_ _ _ c=>c
def Ln{d:En B.D}{e:Operand}{g:TV B.D}{q v c b h:Nat}{a:aO}(l:D0 (B:=B) g q v c b h)(f:PE (aU B d) e=pv B g)(k:a.aF=v)(m:a.es.length=h):
 (PE (aU B d) e= .fl q a.aF/\c=0/\b=a.es.length)\/PE (aU B d) e= .sl q a.aF c b:=by
 subst k;subst m;rcases l with⟨rfl,i,j⟩ |rfl
 .exact .inl ⟨f,i,j⟩
 .exact .inr f
def aiS(L:cU P B){t a q v off c k:Nat}{x y:Operand}{E:En B.D}{H:List (Ob B.D)}{b e:List (B.D a)}{m:List Nat}(z:D0 (B:=B) (pe E x) q v off c b.length)(g:nth H q=c5 ⟨k,v,.aap a b⟩)(F:yd B H (pe E y) a e m)
 (I:dU P t=c5 a) (s:cH P a=c5 (B.sz a)):
 gY P (.call {callee:=.builtin .copy,args:=#[x,y],argTypes:=#[t,t]}) E H ⟨.int .i64 ((min c e.length:Nat):Int),[(q,⟨dJ H q,v,.aap a (mg e off c b)⟩)],0,q::m⟩:=by
 have n:x∈(s3 {callee:=.builtin .copy,args:=#[x,y],argTypes:=#[t,t]}).operands/\y∈(s3 {callee:=.builtin .copy,args:=#[x,y],argTypes:=#[t,t]}).operands:=by simp[ma,oS]
 intro d ty pos aft p j f;have l:=df (f.lN (.inl (by simp)) g);have h:kV (av B j) (PE (aU B p) y) (B.sz a) (e.map (B.ty a).enc):=by rw[f.pe n.2];exact F j λi o D g=>f.lN (.inl (by simp[D])) g
 refine MH (ob:=aY B ⟨k,v,.aap a b⟩) (Ln z (f.pe n.1) rfl (by simp[aY])) l λK w u=>?_
 refine uL (x:=y) (u _ _ _ h) λG h A=>?_
 have C:=US (P:=P) (E:=G) (H:=av B j) (d:=d) (ty:=ty) (pos:=pos) (aft:=aft) (x:=x) (y:=y) (r:=q) (v:=v) (off:=off) (len:=c) (t:=t) (o:=aY B ⟨k,v,.aap a b⟩) (A x _ w (by simp)) l rfl rfl h I s;refine lI C ?_
 rintro v J ⟨rfl,rfl⟩;refine⟨by simp[pv],?_⟩
 rw[mc];simp[aY,mg,mb,oq]
def Uj(l:cU P B){t a q v off g h:Nat}{x:Operand}{E:En B.D}{H:List (Ob B.D)}{e:List (B.D a)}{z:Value}{j:B.D a}(C:D0 (B:=B) (pe E x) q v off g e.length)(w:nth H q=c5 ⟨h,v,.aap a e⟩)
 (Q:dU P t=c5 a) (s:dV P a=c5 z) (y:jj (dN (cv (D:=B.D) z))=true) (G:B.up a (cv z)=c5 j):
 gY P (.call {callee:=.builtin .clear,args:=#[x],argTypes:=#[t]}) E H ⟨.bu [],[(q,⟨dJ H q,v,.aap a (iG j off g e)⟩)],0,[q]⟩:=by
 have N:x∈(s3 {callee:=.builtin .clear,args:=#[x],argTypes:=#[t]}).operands:=by simp[ma,oS]
 obtain⟨T,n⟩:=l.up a _ j G;have L:(pv B (cv z)).cells.length=B.sz a:=by rw[n.cells.1,l.wid]
 intro d ty pos aft S J p;have k:=df (p.lN (.inl (by simp)) w);refine MH (ob:=aY B ⟨h,v,.aap a e⟩) (Ln C (p.pe N) rfl (by simp[aY])) k λK u _=>?_
 have M:=Wy (P:=P) (E:=K) (H:=av B J) (d:=d) (ty:=ty) (pos:=pos) (aft:=aft) (x:=x) (r:=q) (v:=v) (off:=off) (len:=g) (t:=t) (o:=aY B ⟨h,v,.aap a e⟩) u k rfl Q s (DK B z).symm L (by rw[l5];exact oK y);have A:jB ⟨a,B.sz a,((aY B ⟨h,v,.aap a e⟩).es.take off++hB g (pv B (cv z))++(aY B ⟨h,v,.aap a e⟩).es.drop (off+g)),v⟩ ⟨a,B.sz a,(iG j off g e).map (B.ty a).enc,v⟩:=by
  refine jB.of (by simp[aY,iG]) (λi X b f c=>?_) λi V I=>?_
  .simp only[aY,iG,o4,mb,oq,List.map_replicate, <-dv] at f c
   by_cases m:i<(List.take off (List.map (B.ty a).enc e)++hB g (pv B (cv z))).length
   .rw[dt m] at f;rw[dt (by simpa using m)] at c
    by_cases O:i<(List.take off (List.map (B.ty a).enc e)).length
    .rw[dt O] at f c;rw[f] at c;injection c with c
     subst c;exact .refl _
    .rw[dk (by omega)] at f c;rw[k0 (ej f),k0 (ej c)];exact n
   .rw[dk (by omega)] at f;rw[dk (by simpa using m)] at c;simp only[e5,j7] at f c;rw[f] at c;injection c with c
    subst c;exact .refl _
  .obtain⟨F,_,rfl⟩:=ey.1 (ej I);exact l.wid a F
 refine lI (tu M (c9 k) A (.refl _)) ?_
 rintro W U ⟨rfl,rfl⟩;refine⟨rfl,?_⟩
 rw[mc]
 rfl
def ao6{t:TypeId}{x:Operand}{hi:Option Operand}{E:En B.D}{H:List (Ob B.D)}{c:cr B.D->Option R}(h:shrink B P E H t (pe E x) hi c=c5 r):
 ∃n,c n=c5 r/\iZ H n/\gY P (.slice t x ea hi ea) E H n:=by
 unfold shrink at h
 split at h
 .rename_i q v N
  split at h
  .rename_i e i Q;obtain⟨D,p⟩:=fx Q;obtain⟨y,K⟩:=a8 h;obtain⟨b,M,C⟩:=fq K;obtain⟨X,j,I⟩:=ei.1 C;obtain⟨_,T,V,rfl⟩:=Kt j;refine⟨_,I,pz p,λd ty pos aft f L A=>?_⟩
   have w:∀z,z∈(Op.slice t x ea hi ea).operands->PE (aU B f) z=pv B (pe E z):=λz F=>A.pe F
   have k:=df (A.lN (.inl (by simp)) p);have ops:∀a,hi=c5 a->∀c e,pe E a= .int c e->PE (aU B f) a= .int c e:=λa j c e o=>by
    rw[w a (by subst j;simp[ma]),o];rfl
   obtain⟨g,rfl,u⟩:=ri (show PE (aU B f) x= .fl q v by rw[w x (by simp[ma]),N];rfl);refine yP u k rfl ?_
   have G:PE ((g,PV.sl q v 0 i.length)::aU B f) (.tmp g)= .sl q v 0 i.length:=ni _ _ _;have J:∀a,hi=c5 a->∀c e,pe E a= .int c e->PE ((g,PV.sl q v 0 i.length)::aU B f) a= .int c e:=λa j c e o=>by
    have m:=ops a j c e o
    by_cases s:a= .tmp g
    .subst s;rw[show PE (aU B f) (.tmp g)= .fl q v from u] at m;cases m
    .rw[wD a s];exact m
   have:=SC (P:=P) (E:=(g,PV.sl q v 0 i.length)::aU B f) (H:=av B L) (d:=d) (ty:=ty) (pos:=pos) (aft:=aft) (gd:=ea) (t:=t) (x:=.tmp g) (lo:=ea) (hi:=hi) (l:=0) (h:=b.toNat) G k rfl (mh y).1 (mh y).2 rfl (wk (by simpa[aY] using M) (by omega) J) (by omega) (by simp[aY];omega);rw[e6,s5] at this;have O:=apT this k rfl;have S:(aY B ⟨D,v,.aap e i⟩).es.length=i.length:=by simp[aY]
   rw[S];refine lI O ?_
   rintro W U ⟨rfl,rfl⟩;refine⟨rfl,?_⟩
   rw[mc];simp[aY,mb]
  .cases h
 .cases h
end
section
variable {P:Program}{B:Tb}{R:Type}{r:R}
def iW{f:Op}{e:En B.D}{a:List (Ob B.D)}{d:List Nat}{v:TV B.D}{c:cr B.D->Option R}(h:c ⟨v,[],0,d⟩=c5 r)(g:fW P f e a d v):∃b,c b=c5 r/\iZ a b/\gY P f e a b:=
 ⟨_,h,S6,g.sound⟩
def anM{g:Op}{f:En B.D}{a:List (Ob B.D)}{e:cr B.D->Option R}(d:∃v b,e ⟨v,[],0,b⟩=c5 r/\fW P g f a b v):∃c,e c=c5 r/\iZ a c/\gY P g f a c:=by
 obtain⟨v,b,h,d⟩:=d;exact iW h d
def ML{e:En B.D}{d:List Operand}{f:TV B.D}(a:fB e d=[f]):∃c,d=[c]/\pe e c=f:=by
 match d,a with
 |[c],a=>exact⟨c,rfl,by simpa[fB] using a⟩
 |[],a=>cases a
 |c::b::d,a=>simp[fB] at a
def GZ{e:En B.D}{d:List Operand}{f g:TV B.D}(a:fB e d=[f,g]):∃c b,d=[c,b]/\pe e c=f/\pe e b=g:=by
 match d,a with
 |[c,b],a=>exact⟨c,b,rfl,by simpa[fB] using a⟩
 |[],a=>cases a
 |[c],a=>simp[fB] at a
 |c::b::h::d,a=>simp[fB] at a
def oy{a:Type}{c:Array a}{b:List a}(d:c.toList=b):c=b.toArray:=by
 rw[<-d,hU]
def OQ{f:Type}:∀(e d:List f) {c:f},c∈nf e d->c∈e\/c∈d
 |[],_,_,a=>.inr a
 |b::e,d,c,a=>by
  rcases OQ e (b::d) a with a |a
  .exact .inl (c7 _ a)
  .rcases dd.1 a with rfl |a
   .exact .inl j3
   .exact .inr a
def MI(C:cU P B){G:List (aq B)}(s:∀h,h∈G->Fits P B h){j:Nat}{cs ds:List (TV B.D)}{fo:Operand}{args:Array Operand}{ci:Array TypeId}{E:En B.D}{H:List (Ob B.D)}{n:cr B.D->Option R}
 (M:pv B (pe E fo)= .fn j (aP B cs) (aP B ds)) (A:nz B j ⟨fi 0 (aX cs (aX (fB E args.toList) ds)),H⟩ n G=c5 r):
 ∃b,n b=c5 r/\iZ H b/\gY P (.call {callee:=.value fo,args:=args,argTypes:=ci}) E H b:=by
 obtain⟨b,u,t,h,I,N,Q⟩:=Z3 C s A;refine⟨b,u,t,λd ty pos aft m k l=>?_⟩
 have q:∀a,a=fo\/a∈args->a∈(s3 {callee:=.value fo,args:=args,argTypes:=ci}).operands:=λa c=>by
  simp only[ma,oS];rcases c with rfl |c
  .simp
  .simp[c]
 have e:=WB (P:=P) (E:=aU B m) (H:=av B k) (d:=d) (ty:=ty) (pos:=pos) (aft:=aft) (fo:=fo) (as:=args.toList) (ci:=ci) (f:=j) (cs:=aP B cs) (ds:=aP B ds) (K:=λv K=>v=pv B b.val/\K=av B (b8 k b.wr))
  (by rw[l.pe (q fo (.inl rfl)),M]) (by rw[<-N];exact(s h I).Q6) (λg J z O o=>by
   have p:aP B cs++args.toList.map (PE (aU B m))++aP B ds=aP B (aX cs (aX (fB E args.toList) ds)):=by
    rw[<-DE (E:=E) λa c=>l.pe (q a (.inr (hX.1 c)))];simp[bK,db]
   rw[p] at o;refine(Q k (λi D=>l.h i D) g J z O o).mono ?_
   rintro p S ⟨a,L,v,K,y,w,x,e,F⟩;exact⟨a,L,v,K,y,w,x,e,F⟩)
 rw[hU] at e;exact e
def aaE(m:cU P B){G:List (aq B)}(al:∀d,d∈G->Fits P B d){ab:Bool}{w:En B.D}{H:List (Ob B.D)}{T:Op}{aa:cr B.D->Option R}(a:step B P G ab w H T aa=c5 r):
 ∃aj,aa aj=c5 r/\iZ H aj/\gY P T w H aj:=by
 cases T with
 |move g=>exact iW a anB
 |assign g=>exact iW a aqt
 |pick d j b=>
  simp only[step] at a
  split at a
  .rename_i b h;exact iW a (akp h)
  .cases a
 |binOp T t g D yt=>
  simp only[step] at a;obtain⟨v,e,n⟩:=afA (H:=H) (yt:=yt) a;exact iW e n
 |unOp T t g=>
  simp only[step] at a;obtain⟨v,e,n⟩:=amY (P:=P) (t:=t) (H:=H) a;exact iW e n
 |convert aO aK g=>
  simp only[step] at a
  split at a
  .rename_i b A j c aD;obtain⟨n,e⟩:=a8 a;exact iW e (aip c aD n)
  .cases a
 |extract g i=>
  simp only[step] at a
  split at a
  .rename_i cs c;obtain⟨v,K,e⟩:=fq a;exact iW e (ahW c K)
  .cases a
 |nilCheck g=>
  simp only[step] at a
  split at a
  .rename_i q v i L c;exact iW a (Gw (.inl ⟨q,v,i,L,rfl⟩) c)
  .rename_i cs L c;exact iW a (Gw (.inr (.inl ⟨cs,L,rfl⟩)) c)
  .rename_i f cs ds c;exact iW a (Gw (.inr (.inr ⟨f,cs,ds,rfl⟩)) c)
  .cases a
 |field t g f=>
  simp only[step] at a
  split at a
  .rename_i cs aA ak c y;obtain⟨v,K,e⟩:=fq a;exact iW e (aex c y K)
  .cases a
 |fieldAddr t g f=>
  simp only[step] at a
  split at a
  .rename_i aA ak y
   split at a
   .rename_i o n
    split at a
    .rename_i q v i L c;exact iW a (R3 y n (.inl ⟨q,v,i,L,c,rfl⟩))
    .rename_i cs L c;exact iW a (R3 y n (.inr ⟨cs,L,c,rfl⟩))
    .cases a
   .cases a
  .cases a
 |indexAddr t g i=>exact anM (amg m a)
 |index t g i=>exact anM (ame a)
 |load t g=>exact anM (PD m a)
 |store t g D=>exact amr m a
 |slice t g W ai am=>
  cases am with
  |none=>
   simp only[step] at a;cases ab with
   |false=>exact anM (aqA a)
   |true=>
    cases W with
    |none=>exact ao6 a
    |some W=>cases a
  |some am=>
   cases W with
   |some W=>cases ai <;> simp[step] at a
   |none=>
    cases ai with
    |none=>simp[step] at a
    |some ai=>exact anM (VT m a)
 |box t g=>
  simp only[step] at a;obtain⟨p,a⟩:=a8 a;obtain⟨k,e⟩:=a8 a;exact⟨_,e,xO,W5 p k⟩
 |alloc t=>
  simp only[step] at a
  split at a
  .rename_i z s;obtain⟨p,a⟩:=a8 a;obtain⟨k,e⟩:=a8 a;exact⟨_,e,xO,ac4 s p k⟩
  .cases a
 |build t au=>
  simp only[step] at a
  split at a
  .rename_i z aM s aE;obtain⟨p,a⟩:=a8 a;obtain⟨C,F,a⟩:=fq a;obtain⟨cs,y,e⟩:=fq a;exact iW e (agn s aE p F y)
  .cases a
 |buildSlice t C au=>
  simp only[step] at a
  split at a
  .rename_i o u;obtain⟨k,a⟩:=a8 a;obtain⟨I,a⟩:=a8 a;obtain⟨Y,a⟩:=a8 a
   split at a
   .rename_i X c;obtain⟨p,a⟩:=a8 a;exact(aaJ m u c p k I Y).sound a
   .exact aco m a u k I Y
  .cases a
 |makeSlice t C d=>
  simp only[step] at a;obtain⟨av,a⟩:=a8 a
  split at a
  .rename_i o aP A u F
   split at a
   .rename_i z az s M;obtain⟨p,a⟩:=a8 a;obtain⟨k,a⟩:=a8 a;obtain⟨aF,ac,a⟩:=fq a;obtain⟨X,c,a⟩:=ei.1 a;exact(aoF m av F u s M p k ac c).sound a
   .cases a
  .cases a
 |makeFunc fn j d=>
  cases fn with
  |func f=>exact iW a W8
  |_=>simp[step] at a
 |call d=>
  obtain⟨callee,args,Z⟩:=d;cases callee with
  |value f=>
   simp only[step] at a
   split at a
   .rename_i V cs ds y;refine MI m (G:=bif ab then nf G [] else G) (λd h=>al d ?_) (by rw[y];rfl) a
    cases ab with
    |false=>exact h
    |true=>exact(OQ G [] h).resolve_right q8
   .rename_i aR y;obtain⟨V,rfl,a⟩:=ei.1 a;have aI:∀C,sV B V ⟨fi 0 (fB w args.toList),H⟩ aa C=c5 r->(∀d,d∈C->Fits P B d)->∃d,d∈C/\nz B V ⟨fi 0 (fB w args.toList),H⟩ aa [d]=c5 r:=λC=>by
     induction C with
     |nil=>intro a;simp[sV] at a
     |cons j C an=>
      intro a F;simp only[sV] at a;cases h0:(bif fe (len (fi 0 (fB w args.toList))) j.na then(leaves j.par ⟨fi 0 (fB w args.toList),H⟩ (nQ ⟨fi 0 (fB w args.toList),H⟩ j.par.dF)).isSome else false) with
      |false=>
       rw[h0] at a;obtain⟨d,h,k⟩:=an a λd h=>F d (c7 _ h)
       exact⟨d,c7 _ h,k⟩
      |true=>
      rw[h0] at a;simp only[cond_true] at a;cases ad:fe V j.cO with
      |true=>
       rw[ad] at a;exact⟨j,by simp,by rw[beq_eq ad];exact a⟩
      |false=>
       rw[ad] at a;obtain⟨d,h,k⟩:=an a λd h=>F d (c7 _ h)
       exact⟨d,c7 _ h,k⟩
    obtain⟨d,h,k⟩:=aI G a al;refine MI m (G:=[d]) (cs:=[]) (ds:=[]) (λaQ aG=>by rw[List.mem_singleton.1 aG];exact al d h) (by rw[y];rfl) ?_
    rw[aX,bK,ft];exact k
   .cases a
  |invoke _ _=>simp[step] at a
  |builtin b=>
   cases b <;> simp only[step] at a <;> first |(cases a;done) |skip
   case len=>
    split at a
    .rename_i g t c u
     split at a
     .rename_i o O;obtain⟨j,l,ah⟩:=ML c;have l:args=#[j]:=oy l;subst l;have h:Z=#[t]:=oy u;subst h;subst ah;exact anM (Vw m O a)
     .cases a
    .cases a
   case min=>
    obtain⟨v,K,e⟩:=fq a;obtain⟨g,D,j,b,A,o,af,c,Q,U,rfl⟩:=Nx K;exact iW e (adE rfl af c Q U)
   case max=>
    obtain⟨v,K,e⟩:=fq a;obtain⟨g,D,j,b,A,o,af,c,Q,U,rfl⟩:=Nx K;exact iW e (alY rfl af c Q U)
   case append=>
    split at a
    .rename_i aJ g t aB c u;obtain⟨ae,x⟩:=a8 a;clear a;obtain rfl:=beq_eq ae
     split at x
     .rename_i o O
      split at x
      .rename_i az M;obtain⟨N,x⟩:=a8 x;obtain⟨j,b,l,E,S⟩:=GZ c;have l:args=#[j,b]:=oy l;subst l;have h:Z=#[t,t]:=oy u;subst h;subst S;cases ao:SG B H (pe w b) with
       |true=>
        rw[ao,cond_true, <-E] at x;exact agG m x O M N
       |false=>
       rw[ao,cond_false] at x;obtain⟨aH,ax,a,n⟩:=Rz x
       split at a
       .obtain⟨ap,s,a⟩:=ei.1 a;exact(MY m (.inl E) n O M N s).sound a
       .obtain⟨ap,s,a⟩:=ei.1 a;exact(MY m (.inr E) n O M N s).sound a
       .rename_i q v
        split at a
        .rename_i A X h;obtain⟨aL,J⟩:=fx h;obtain⟨aN,aw,a⟩:=fq a;obtain⟨rfl,rfl⟩:=AG aw;obtain⟨ap,s,e⟩:=ei.1 a;exact⟨_,e,pz J,YX m E J n O M N s⟩
        .cases a
       .cases a
      .cases x
     .cases x
    .cases a
   case clear=>
    split at a
    .rename_i g t c u;obtain⟨q,v,ak,aC,o,X,ay,J,n,p⟩:=MJ a;obtain⟨ag,k⟩:=a8 p;obtain⟨_,I⟩:=a8 k
     split at I
     .rename_i z s;obtain⟨F,Y⟩:=a8 I;obtain⟨aF,ac,e⟩:=fq Y;obtain⟨j,l,ah⟩:=ML c;have l:args=#[j]:=oy l;subst l;have h:Z=#[t]:=oy u;subst h;subst ah;exact⟨_,e,pz J,Uj m n J (Lj ag) s F ac⟩
     .cases I
    .cases a
   case copy=>
    split at a
    .rename_i g D t aB c u;obtain⟨ae,h0⟩:=a8 a;obtain rfl:=beq_eq ae;obtain⟨q,v,ak,aC,o,X,ay,J,n,p⟩:=MJ h0;obtain⟨ag,k⟩:=a8 p;obtain⟨N,I⟩:=a8 k;obtain⟨aH,ax,e,Q⟩:=Rz I;obtain⟨ar,_⟩:=qY N;obtain⟨j,b,l,E,S⟩:=GZ c;have l:args=#[j,b]:=oy l;subst l;have h:Z=#[t,t]:=oy u;subst h;subst E;subst S;exact⟨_,e,pz J,aiS m n J Q (Lj ag) ar⟩
    .cases a
 |_=>simp[step] at a
where
 Nx {f:Int->Int->Int} {args:Array Operand} {w:En B.D} {v:TV B.D} (a:Dm B f (fB w args.toList)=c5 v):∃g D j b A o,args=#[g,D]/\pe w g= .int j A/\pe w D= .int b o/\fV j b=true/\v= .int j (f A o):=by
  unfold Dm at a
  split at a
  .rename_i j A b o c;obtain⟨U,a⟩:=a8 a;injection a with a
   obtain⟨g,D,l,E,S⟩:=GZ c;exact⟨g,D,j,b,A,o,oy l,E,S,U,a.symm⟩
  .cases a
end
section
variable {P:Program}{B:Tb}{R:Type}{r:R}
def H8{a:Type}{b:List a}{i:Nat}{d:a}(c:nth b i=c5 d):i<b.length:=by
 rw[cJ] at c;exact c9 c
def SE{f:Type}:∀{ch:List (Nat×f)} {b e:List f} {i:Nat},nth b i=nth e i->nth (b8 b ch) i=nth (b8 e ch) i
 |[],_,_,_,a=>a
 |p::ch,b,e,i,a=>by
  refine SE (ch:=ch) ?_
  rw[iL,iL,cJ,cJ];rw[cJ,cJ] at a
  by_cases d:p.1=i
  .subst d;cases c:b[p.1]? with
   |none=>
    rw[c] at a;rw[ga (by rw[h6];exact m4.1 c),ga (by rw[h6];exact m4.1 a.symm)]
   |some g=>
    rw[c] at a;rw[ev (c9 c),ev (c9 a.symm)]
  .rw[eH d,eH d];exact a
def Mu{d:Type}:∀{c b:List (Nat×d)} {a:List d},b8 a (aX c b)=b8 (b8 a c) b
 |[],_,_=>rfl
 |p::c,b,a=>by simp only[aX,b8];exact Mu
def Rn{e:Nat->Type}{b c:List (Ob e)}:∀{a:List Nat},(∀i,i∈a->nth b i=nth c i)->gU b a=gU c a
 |[],_=>rfl
 |q::a,d=>by
  simp only[gU];rw[d q (by simp),Rn λi f=>d i (by simp[f])]
def FG{m:Nat->Type}{X:List (Ob m)}:∀{fr:List Nat} {Z:List (Ob m)},Z.length=X.length->(∀i,i∈fr->nth Z i=nth X i\/∃c,nth X i=c5 c/\nth Z i=c5 ⟨c.st+1,c.aF+1,.dead⟩)->
 (∀i,i∈fr->∀c,nth X i=c5 c->nth (b8 Z (gU X fr)) i=c5 ⟨c.st+1,c.aF+1,.dead⟩)/\(∀i,i∉fr->nth (b8 Z (gU X fr)) i=nth Z i)
 |[],Z,_,_=>⟨λi a=>(q8 a).elim,λi _=>rfl⟩
 |q::fr,Z,l,n=>by
  simp only[gU];cases f:nth X q with
  |none=>
   obtain⟨k,g⟩:=FG (X:=X) (fr:=fr) (Z:=Z) l λi a=>n i (by simp[a])
   refine⟨λi a c d=>?_,λi a=>g i λb=>a (by simp[b])⟩
   rcases dd.1 a with rfl |a
   .rw[f] at d;cases d
   .exact k i a c d
  |some e=>
   have p:q<Z.length:=by rw[l];exact H8 f
   have h:∀i,nth (me Z q ⟨e.st+1,e.aF+1,.dead⟩) i=if q=i then c5 ⟨e.st+1,e.aF+1,.dead⟩ else nth Z i:=λi=>by
    rw[iL,cJ,cJ]
    by_cases b:q=i
    .subst b;rw[if_pos rfl,ev p]
    .rw[if_neg b,eH b]
   obtain⟨k,g⟩:=FG (X:=X) (fr:=fr) (Z:=me Z q ⟨e.st+1,e.aF+1,.dead⟩) (by rw[iL,h6,l]) λi a=>by
    rw[h]
    by_cases b:q=i
    .subst b;exact .inr ⟨e,f,by rw[if_pos rfl]⟩
    .rw[if_neg b];exact n i (by simp[a])
   refine⟨λi a c d=>?_,λi a=>?_⟩
   .by_cases j:i∈fr
    .exact k i j c d
    .rcases dd.1 a with rfl |a
     .rw[b8,g i j,h,if_pos rfl];rw[f] at d;injection d with d
      rw[d]
     .exact absurd a j
   .have o:q≠i:=λb=>a (by simp[b])
    rw[b8,g i λb=>a (by simp[b]),h,if_neg o]
def lX(b:List Nat)(a:Nat)(q:Nat):Option Nat:=bif has b q then ea else bif j8 q a then c5 q else ea
def u7{b:List Nat}{e q i:Nat}(a:lX b e q=c5 i):i=q/\q∉b/\q<e:=by
 unfold lX at a;cases d:has b q with
 |true=>rw[d] at a;cases a
 |false=>
  rw[d] at a;simp only[cond_false] at a;cases c:j8 q e with
  |false=>rw[c] at a;cases a
  |true=>
   rw[c] at a;injection a with a
   exact⟨a.symm,nA d,e4 c⟩
def KI{a:List Nat}{b q:Nat}(e:q∉a)(d:q<b):lX a b q=c5 q:=by
 unfold lX;have g:has a q=false:=by
  cases f:has a q with
  |false=>rfl
  |true=>exact absurd ((oO a q).1 f) e
 have c:j8 q b=true:=hM d;rw[g,c]
 rfl
def apa{g:Gh}{X:List (Ob B.D)}{l:World}(E:bF g (av B X) l)(fr:List Nat)(W:∀i,i∈fr->i<X.length)(G:Nat):
 bF (dj g (lX fr X.length) (λi=>i∈fr)) (av B (b8 X (gU X fr))) l/\
 (∀e p,VR g (av B X) l e p->VR (dj g (lX fr X.length) (λi=>i∈fr)) (av B (b8 X (gU X fr))) l e p)/\
 Bml.GStep G g (av B X) l (dj g (lX fr X.length) (λi=>i∈fr)) (av B (b8 X (gU X fr))) l:=by
 obtain⟨Q,J⟩:=FG (X:=X) (fr:=fr) (Z:=X) rfl λi _=>.inl rfl
 have A:(b8 X (gU X fr)).length=X.length:=qy _ _;have y:∀q c,(av B X)[q]?=c5 c->∃d,(av B (b8 X (gU X fr)))[q]?=c5 d/\((q∈fr/\c.aF<d.aF/\d.es=[]/\d.sz=1)\/(q∉fr/\d=c)):=λq c n=>by
  obtain⟨I,t,rfl⟩:=oU n
  by_cases u:q∈fr
  .refine⟨_,df (Q q u I t),.inl ⟨u,?_,rfl,rfl⟩⟩
   rw[e7];exact l1 _
  .exact⟨_,df (by rw[J q u];exact t),.inr ⟨u,rfl⟩⟩
 have C:∀e p,VR g (av B X) l e p->VR (dj g (lX fr X.length) (λi=>i∈fr)) (av B (b8 X (gU X fr))) l e p:=λe p o=>by
  refine VR.re (f:=λr v=>∃c,(av B X)[r]?=c5 c/\v<=c.aF) (g':=dj g (lX fr X.length) (λi=>i∈fr)) (λb M=>Or.inl M) (λr v c _ n N=>?_) o o.wf
  obtain⟨d,j,s⟩:=y r c n;rcases s with⟨a,F,_⟩ |⟨a,rfl⟩
  .exact⟨d,j,by omega,λm=>by omega⟩
  .refine⟨_,j,N,λm=>⟨m,rfl,rfl,?_⟩⟩
   have h:=c9 n;rw[qL] at h;show(lX fr X.length r).bind g.β=g.β r
   rw[KI a h]
   rfl
 refine⟨?_,C,?_⟩
 .refine bF.re E (λi O q k=>?_) (λq V i o H=>?_) (λq i o=>?_) λq d j=>?_
  .obtain⟨m,a,_⟩:=u7 k;subst m;exact a O
  .rw[<-(u7 o).1, <-(u7 H).1]
  .rw[qL,A];exact(u7 o).2.2
  .have h:=c9 j;rw[qL,A] at h;have x:(av B X)[q]?=c5 ((av B X)[q]'(by rw[qL];exact h)):=c4 _;obtain⟨Y,w,s⟩:=y q _ x;rw[j] at w;injection w with w
   subst w;rcases s with⟨a,_,D,T⟩ |⟨a,rfl⟩
   .refine⟨by rw[T];exact qb,λi m z=>by rw[D] at z;simp at z,λ_=>D,λi k=>?_⟩
    exact absurd a (u7 k).2.1
   .have t:=E.obj q _ x;refine⟨t.pos,t.width,λk=>?_,λi k=>?_⟩
    .rw[KI a h] at k;cases k
    .obtain⟨m,_,_⟩:=u7 k;subst m;exact⟨_,x,rfl,rfl,rfl,λi U e S=>⟨e,S,λK L=>C e K L⟩⟩
 .refine GStep.re λq c _ n=>?_
  obtain⟨d,j,s⟩:=y q c n;have h:=c9 n;rw[qL] at h;rcases s with⟨a,F,_⟩ |⟨a,rfl⟩
  .exact⟨d,j,by omega,λm=>by omega⟩
  .exact⟨_,j,ef _,λ_=>⟨KI a h,rfl,rfl⟩⟩
def SN{g:Nat->Type}{e:Nat}{d:List (Nat×Ob g)}:∀{b:List Nat},Jd e d b=true->∀i,i∈b->e<=i/\i∈eV d
 |[],_,i,a=>by cases a
 |q::b,h,i,a=>by
  obtain⟨f,c⟩:=fu h;obtain⟨c,j⟩:=fu c;rcases dd.1 a with rfl |a
  .exact⟨e4 f,(oO _ _).1 c⟩
  .exact SN j i a
def KW{d:Nat->Type}{f:List (Ob d)}:∀{b:List Nat} {i:Nat} {e:Ob d},(i,e)∈gU f b->i∈b
 |[],_,_,a=>by cases a
 |q::b,i,e,a=>by
  simp only[gU] at a
  split at a
  .rcases dd.1 a with c |a
   .injection c with c _
    simp[c]
   .exact c7 _ (KW a)
  .exact c7 _ (KW a)
def QB{c:Type}:∀{a b:List (Nat×c)},eV (aX a b)=aX (eV a) (eV b)
 |[],_=>rfl
 |p::a,b=>by simp only[aX,eV,QB]
def T1{d:Nat->Type}{c:List (Ob d)}:∀{b:List Nat} {i:Nat},i∈eV (gU c b)->i∈b
 |[],_,a=>by cases a
 |q::b,i,a=>by
  simp only[gU] at a
  split at a
  .simp only[eV,dd] at a;rcases a with e |a
   .simp[e]
   .exact c7 _ (T1 a)
  .exact c7 _ (T1 a)
def Zj(Q:cU P B){K:Op}{E:En B.D}{H:List (Ob B.D)}{a C:cr B.D}(f:Fs H a=c5 C)(x:iZ H a)(ad:gY P K E H a):iZ H C/\gY P K E H C:=by
 unfold Fs at f;obtain⟨ar,f⟩:=a8 f;obtain⟨N,f⟩:=a8 f;injection f with f
 subst f;have s:=SN ar;refine⟨λi O d=>?_,?_⟩
 .have d:(i,O)∈aX a.wr (gU (behind H a) (refs a.val)):=d;rw[bK,c6] at d;rcases d with d |d
  .exact x i O d
  .have b:=KW d;obtain⟨n,w⟩:=s i b;have F:∃e,(i,e)∈a.wr:=F1 w;obtain⟨e,k⟩:=F;refine⟨(x i e k).1,λaz af=>?_⟩
   have:=H8 af;rw[eu] at n;omega
 .intro ab ap ae aw L c J g aa U ah am al W Y;have y:Ag K (aX a.rd (eV a.wr)) E L (aX H (dx a.nw)) c:=⟨J.e,λi b=>J.h i (by
   show i∈aX a.rd (eV (aX a.wr _))
   rw[bK,c6] at b⊢;rcases b with b |b
   .exact .inl b
   .exact .inr (by rw[QB,bK,c6];exact .inl b)),J.le⟩
  refine ad ab ap ae aw L c y g aa U ah am al W λG T ao v ax ag j d ac=>?_
  obtain⟨rfl,rfl⟩:=ag;have o:∀i,i∈refs a.val->nth (behind H a) i=nth (b8 c a.wr) i:=λi b=>by
   unfold behind;refine SE ?_
   have:=y.h i (by rw[bK,c6];exact .inr (s i b).2);exact this.symm
  have an:∀i,i∈refs a.val->i<(b8 c a.wr).length:=λi b=>by
   rw[qy];have n:=y.h i (by rw[bK,c6];exact .inr (s i b).2);obtain⟨e,k⟩:=F1 (s i b).2;have w:=(x i e k).1;have F:i<(aX H (dx a.nw)).length:=by rw[bK,e5,qV];exact w
   have au:nth (aX H (dx a.nw)) i=c5 ((aX H (dx a.nw))[i]):=by rw[cJ];exact c4 F
   rw[au] at n;exact H8 n
  obtain⟨ai,ay,X⟩:=apa d (refs a.val) an (av B c).length;refine Y G T _ (pv B (G0 (behind H a) a.val)) (av B (b8 (b8 c a.wr) (gU (b8 c a.wr) (refs a.val)))) ⟨rfl,?_⟩ ?_ ai (ac.trans X)
  .show av B _=av B (b8 c (aX a.wr (gU (behind H a) (refs a.val))))
   rw[Mu,Rn o]
  .have ak:kY (b8 c a.wr) (refs a.val)=[]:=by
    rw[Ki (H:=behind H a) (refs a.val) λi b=>(o i b).symm];cases t:kY (behind H a) (refs a.val) with
    |nil=>rfl
    |cons U q=>rw[t] at N;cases N
   have u:∀i,jN (b8 c a.wr) (refs a.val) i->i∈refs a.val:=λi b=>by
    unfold jN at b
    rwa [ak,bK,ft] at b
   have aq:∀m:TV B.D,(∀i,i∈refs m->i∈refs a.val)->kJ (behind H a) [] m=kJ (b8 c a.wr) [] m:=λm I=>H6 m λi b=>o i (u i (b.mono I))
   have V:∀l:List (TV B.D),(∀i,i∈iB l->i∈refs a.val)->jS (behind H a) [] l=jS (b8 c a.wr) [] l:=λl I=>v8 l λi b=>o i (u i (b.mono I))
   unfold G0
   split
   .rename_i z A;rw[V z λi b=>by rw[A];exact b];rw[A] at j;have j:VR ao (av B (b8 c a.wr)) T (.bu (aP B z)) G:=j;obtain⟨S,rfl,t,Z⟩:=j.Db;have M:=pH (kept:=[]) (src:=lX (refs a.val) (b8 c a.wr).length) (fz:=λi=>i∈refs a.val) Q d z S (λi b _=>u i (by rw[A];exact b)) t Z;exact .aW (.bu _ S (by rw[M.1];exact t) M.2)
   .rw[aq a.val λi b=>b];exact .aW (Jt (kept:=[]) (src:=lX (refs a.val) (b8 c a.wr).length) (fz:=λi=>i∈refs a.val) Q d a.val G (λi b _=>u i b) j)
where
 F1 {D:Nat->Type}:∀{q:List (Nat×Ob D)} {i:Nat},i∈eV q->∃e,(i,e)∈q
  |[],_,h=>by cases h
  |p::q,i,h=>by
   simp only[eV,dd] at h;rcases h with aj |h
   .exact⟨p.2,by rw[aj];simp⟩
   .obtain⟨e,k⟩:=F1 h;exact⟨e,c7 _ k⟩
def aaq(k:cU P B){m:List (aq B)}(t:∀g,g∈m->Fits P B g){p f:Bool}{i:En B.D}{c:List (Ob B.D)}{l:Op}{e:cr B.D->Option R}(j:zM B P m p f i c l e=c5 r):
 ∃a,e a=c5 r/\iZ c a/\gY P l i c a:=by
 unfold zM at j;obtain⟨a,b,d,h⟩:=aaE k t j;cases f with
 |false=>exact⟨a,b,d,h⟩
 |true=>
  obtain⟨q,s,b⟩:=fq b;obtain⟨o,n⟩:=Zj k s d h;exact⟨q,b,o,n⟩
end
section
variable {P:Program}{B:Tb}{R:Type}{r:R}
def qo{b:Nat->Type}(d:Oper)(a:St b):Option (cr b)->St b
 |some c=>⟨gr a.E d.dst c.val,behind a.H c⟩
 |none=>⟨gr a.E d.dst (.bu []),a.H⟩
def fG{d:Nat->Type}(a:List Oper)(b:Oper):Option (cr d)->Lg
 |some c=>rV a b c
 |none=>xo a b
def tQ{c:Nat->Type}(f:List Oper)(h:Oper)(g:En c)(p:Bool->TV c->Prop):Prop:=∃d e b a,h.guard=c5 (d,e)/\nth f d=c5 b/\b.dst=c5 a/\p e (lk g a)
def Ij(P:Program)(B:Tb)(f:List Oper)(c:Oper)(a:St B.D):Option (cr B.D)->Prop
 |some d=>(c.guard=ea\/tQ f c a.E λe v=>v= .bool e)/\gY P c.op a.E a.H d/\iZ a.H d/\∀i,i∈d.rd->i<a.H.length
 |none=>tQ f c a.E λe v=>v= .bu []\/∃b,v= .bool b/\b≠e
def l6(P:Program)(B:Tb)(d:List Oper):List Oper->St B.D->List (Option (cr B.D))->St B.D->Prop
 |[],a,[],b=>b=a
 |e::g,a,c::f,b=>Ij P B d e a c/\l6 P B d g (qo e a c) f b
 |_,_,_,_=>False
def mF{d:Nat->Type}(a:List Oper):List Oper->List (Option (cr d))->List Lg
 |e::f,c::b=>fG a e c::mF a f b
 |_,_=>[]
def SI{c:Nat}:∀{b:List Nat},Dp c b=true->∀i,i∈b->i<c
 |[],_,i,a=>by cases a
 |g::b,f,i,a=>by
  obtain⟨d,e⟩:=fu f;rcases dd.1 a with rfl |a
  .exact e4 d
  .exact SI e i a
def qg(A:cU P B){q:List (aq B)}(F:∀s,s∈q->Fits P B s){p:List Nat}{c:List Oper}{l:List Lg->St B.D->Option R}:∀{g:List Oper} {i:Nat} {k:List Lg} {a:St B.D},ops B P q p c l i g k a=c5 r->
 ∃h f,l6 P B c g a h f/\l ((mF c g h).reverse++k) f=c5 r
 |[],i,k,a,d=>⟨[],a,rfl,d⟩
 |e::g,i,k,a,d=>by
  simp only[ops] at d;have go:∀(m:e.guard=ea\/tQ c e a.E λo v=>v= .bool o),(zM B P q (has p i) (has p (i+1000)) a.E a.H e.op λj=>bif Dp (len a.H) j.rd then
   bif zL i c then match j.val with
    | .bool s=>cond s (ops B P q p c l (i+1) g (rV c e j::k) ⟨gr a.E e.dst (.bool true),behind a.H j⟩) (ops B P q p c l (i+1) g (rV c e j::k) ⟨gr a.E e.dst (.bool false),behind a.H j⟩)
    |_=>ea
   else ops B P q p c l (i+1) g (rV c e j::k) ⟨gr a.E e.dst j.val,behind a.H j⟩
   else ea)=c5 r->∃h f,l6 P B c (e::g) a h f/\l ((mF c (e::g) h).reverse++k) f=c5 r:=λm d=>by
   obtain⟨j,n,I,J⟩:=aaq A F d;obtain⟨M,n⟩:=a8 n;have H:∀i,i∈j.rd->i<a.H.length:=λi L=>by rw[<-eu];exact SI M i L
   have next:ops B P q p c l (i+1) g (rV c e j::k) ⟨gr a.E e.dst j.val,behind a.H j⟩=c5 r->∃h f,l6 P B c (e::g) a h f/\l ((mF c (e::g) h).reverse++k) f=c5 r:=λd=>by
    obtain⟨h,f,y,w⟩:=qg A F d;refine⟨c5 j::h,f,⟨⟨m,J,I,H⟩,y⟩,?_⟩
    simp only[mF,fG,p7,dv,o8];exact w
   cases G:zL i c with
   |false=>rw[G] at n;exact next n
   |true=>
    rw[G] at n;simp only[cond_true] at n
    split at n
    .rename_i s N;refine next ?_
     rw[N];cases s <;> exact n
    .cases n
  have skip:(tQ c e a.E λo v=>v= .bu []\/∃b,v= .bool b/\b≠o)->ops B P q p c l (i+1) g (xo c e::k) ⟨gr a.E e.dst (.bu []),a.H⟩=c5 r->∃h f,l6 P B c (e::g) a h f/\l ((mF c (e::g) h).reverse++k) f=c5 r:=λm d=>by
   obtain⟨h,f,y,w⟩:=qg A F d;refine⟨ea::h,f,⟨m,y⟩,?_⟩
   simp only[mF,fG,p7,dv,o8];exact w
  split at d
  .rename_i m;exact go (.inl m) d
  .rename_i x o m
   split at d
   .rename_i z D
    split at d
    .rename_i C E
     split at d
     .rename_i b t;cases u:Bool.xor b o with
      |true=>
       rw[u] at d;exact skip ⟨x,o,z,C,m,D,E,.inr ⟨b,t,λK=>by subst K;cases b <;> cases u⟩⟩ d
      |false=>
       rw[u] at d;refine go (.inr ⟨x,o,z,C,m,D,E,?_⟩) d
       rw[t];cases b <;> cases o <;> first |rfl |cases u
     .rename_i t;exact skip ⟨x,o,z,C,m,D,E,.inl t⟩ d
     .cases d
    .cases d
   .cases d
def Mc(b a:List (Ob B.D)):av B (aX b a)=av B b++av B a:=by rw[bK];simp[av]
def ab3{e n:Nat}{g:Gh}{d:Env}{a:List aO}{i:Act}{b:World}(f:Rel g e d a i b):∃c,Rel c e d (a++[⟨0,1,[],0⟩]) i b/\Bml.GStep n g a b c (a++[⟨0,1,[],0⟩]) b:=by
 obtain⟨h,j⟩:=f.m.T6 0 1 qb;exact⟨_,⟨j,f.e.step h⟩,h.every⟩
def G6{i n:Nat}{h:Env}{k:Act}{c:World}:∀(b:Nat) {g:Gh} {a:List aO},Rel g i h a k c->∃f,Rel f i h (a++av B (dx b)) k c/\Bml.GStep n g a c f (a++av B (dx b)) c
 |0,g,a,d=>⟨g,by simpa[dx,av] using d,by simpa[dx,av] using Bml.GStep.refl n g a c⟩
 |b+1,g,a,d=>by
  obtain⟨q,l,o⟩:=ab3 (n:=n) d;obtain⟨p,e,j⟩:=G6 b l;have m:a++[⟨0,1,[],0⟩]++av B (dx b)=a++av B (dx (b+1)):=by simp[dx,av,aY,xt]
  rw[m] at e j;exact⟨p,e,o.trans j⟩
def OT{e n:Nat}{b:Array Oper}{c:List Oper}{h:fE}{i:Env}{a:List (Ob B.D)}(j:Nat)(p:gp P e n b c h i (av B (aX a (dx j)))):gp P e n b c h i (av B a):=by
 intro g w m q l t;obtain⟨k,d,f⟩:=G6 (B:=B) (n:=n) j q;rw[<-Mc] at d f;exact p k w m d l λo u v s=>t o u v (eI.trans f s)
def Sf{d:Op}{c:List Nat}{b:En B.D}{a:List (Ob B.D)}:Ag d c b b a a:=⟨λ_ _=>rfl,λ_ _=>rfl,ef _⟩
def yW{nt n:Nat}{i:List Oper}{Q:fE}:∀{j:List Oper} {S:St B.D} {z:List (Option (cr B.D))} {h:St B.D},l6 P B i j S z h->(∀f,f∈j->fL nt f.dst=true)->Q .normal (aU B h.E) (av B h.H)->
 gp P nt n i.toArray j Q (aU B S.E) (av B S.H)
 |[],S,[],h,a,_,s=>by
  obtain rfl:h=S:=a;exact Of s
 |f::j,S,c::z,h,a,y,s=>by
  obtain⟨A,a⟩:=a;have t:=yW (nt:=nt) (n:=n) a (λf F=>y f (c7 _ F)) s;have q:=y f (by simp);obtain⟨e,E,u,o,w,gd⟩:=f;have C:∀{p:Bool->TV B.D->Prop},tQ i ⟨e,E,u,o,w,gd⟩ S.E p->∃g d c,gd=c5 (g,d)/\(i.toArray[g]?).bind (·.dst)=c5 c/\p d (lk S.E c):=λa=>by
   obtain⟨g,d,O,c,G,x,K,L⟩:=a;refine⟨g,d,c,G,?_,L⟩
   rw[cJ] at x;simp[x,K]
  cases c with
  |none=>
   obtain⟨g,d,c,rfl,m,l⟩:=C (p:=λd v=>v= .bu []\/∃b,v= .bool b/\b≠d) A;rcases l with l |⟨b,J,H⟩
   .refine MO m (by rw[ep,l];rfl) q ?_
    rw[show li (aU B S.E) e (.bu [])=aU B (gr S.E e (.bu [])) by rw[sx];rfl];exact t
   .refine Sk m (by rw[ep,J];rfl) H q ?_
    rw[show li (aU B S.E) e (.bu [])=aU B (gr S.E e (.bu [])) by rw[sx];rfl];exact t
  |some D=>
   obtain⟨k,I,N,M⟩:=A;have run:gp P nt n i.toArray (⟨e,E,u,o,w,ea⟩::j) Q (aU B S.E) (av B S.H):=by
    refine OT D.nw (Sz (I e u o w S.E (aX S.H (dx D.nw)) Sf) q ?_)
    rintro v T ⟨rfl,rfl⟩;rw[<-sx];exact t
   rcases k with k |k
   .obtain rfl:gd=ea:=k;exact run
   .obtain⟨g,d,c,rfl,m,l⟩:=C k;exact S7 m (by rw[ep,l];rfl) run
 |[],_,_::_,_,a,_,_=>a.elim
 |_::_,_,[],_,a,_,_=>a.elim
def alB{b:List (Ob B.D)}{a:cr B.D}:(behind b a).length=b.length+a.nw:=by
 unfold behind;rw[qy,bK,e5,qV]
def Fk{d:Type}:∀{b:List (Nat×d)} {a:List d} {i:Nat},(∀c,(i,c)∉b)->nth (b8 a b) i=nth a i
 |[],_,_,_=>rfl
 |p::b,a,i,e=>by
  rw[b8,Fk λc g=>e c (c7 _ g),cJ,cJ,iL,eH];intro f;exact e p.2 (by subst f;exact j3)
def RD{d:Type}:∀{ch:List (Nat×d)} {b:List d} {i:Nat} {c:d},nth (b8 b ch) i=c5 c->(i,c)∈ch\/nth b i=c5 c
 |[],_,_,_,a=>.inr a
 |p::ch,b,i,c,a=>by
  rcases RD (ch:=ch) a with a |a
  .exact .inl (c7 _ a)
  .rw[cJ,iL] at a
   by_cases f:p.1=i
   .subst f;rcases hI p.1 b.length with e |e
    .rw[ev e] at a;injection a with a
     subst a;exact .inl j3
    .rw[ga (by rw[h6];exact e)] at a;cases a
   .rw[eH f, <-cJ] at a;exact .inr a
def td{d:Nat->Type}(e:En d)(a:Option Nat)(v:TV d)(b:Nat):lk (gr e a v) b=if a=c5 b then v else lk e b:=by
 cases a with
 |none=>simp[gr]
 |some a=>
  simp only[gr,lk]
  by_cases c:a=b
  .subst c;simp[hQ]
  .have:fe a b=false:=by
    cases f:fe a b with
    |false=>rfl
    |true=>exact absurd (beq_eq f) c
   simp[this,c]
def ah1{k:List Nat}{s:List Oper}{c:Oper}{b:St B.D}{a:Option (cr B.D)}(j:Ij P B s c b a)(t:∀o,c.dst=c5 o->o∈k):Ext k b (qo c b a):=by
 have l:∀v a,a∉k->lk (gr b.E c.dst v) a=lk b.E a:=λv a f=>by
  rw[td,if_neg];intro m;exact f (t a m)
 cases a with
 |none=>exact⟨λa f=>l _ a f,ef _,λi p c j d=>by
  have d:nth b.H i=c5 c:=d;rw[j] at d;injection d with d;subst d;exact⟨ef _,λ_=>rfl⟩⟩
 |some g=>
  obtain⟨_,_,q,_⟩:=j;refine⟨λa f=>l _ a f,by show b.H.length<=(behind b.H g).length;rw[alB];omega,λi p c h0 h=>?_⟩
  have h:nth (b8 (aX b.H (dx g.nw)) g.wr) i=c5 c:=h;rcases RD h with e |e
  .have:=(q i c e).2 p h0;exact⟨by omega,λm=>by omega⟩
  .have:=Dy (n:=g.nw) h0;rw[this] at e;injection e with e
   subst e;exact⟨ef _,λ_=>rfl⟩
def Pe{i:List Nat}{j:List Oper}:∀{e:List Oper} {c:St B.D} {f:List (Option (cr B.D))} {d:St B.D},l6 P B j e c f d->(∀b,b∈e->∀g,b.dst=c5 g->g∈i)->Ext i c d
 |[],c,[],d,a,_=>by obtain rfl:d=c:=a;exact .refl _ _
 |b::e,c,l::f,d,a,h=>(ah1 a.1 (h b (by simp))).trans (Pe a.2 λb k=>h b (c7 _ k))
 |[],_,_::_,_,a,_=>a.elim
 |_::_,_,[],_,a,_=>a.elim
end
section
variable {P:Program}{B:Tb}
def gT{b:Nat->Type}:List Oper->List (Option (cr b))->Nat->St b->St b
 |e::f,d::c,i+1,a=>gT f c i (qo e a d)
 |_,_,_,a=>a
def wq{a:Nat->Type}:Option (cr a)->TV a
 |some b=>b.val
 |none=>.bu []
def jM{a:Nat->Type}:Option (cr a)->List (Nat×Ob a)
 |some b=>b.wr
 |none=>[]
def xL{b:Nat->Type}:Option (cr b)->Nat
 |some a=>a.nw
 |none=>0
def jH{c:Nat->Type}:List (Option (cr c))->Nat
 |[]=>0
 |b::a=>xL b+jH a
def gN{b:Nat->Type}(d:Nat->Bool):Nat->List Oper->List (Option (cr b))->En b->En b
 |c,g::h,f::e,a=>gN d (c+1) h e (if d c then gr a g.dst (wq f) else a)
 |_,_,_,a=>a
def eA{b:Nat->Type}(d:Nat->Bool):Nat->List (Option (cr b))->List (Ob b)->List (Ob b)
 |c,f::e,a=>eA d (c+1) e (if d c then b8 a (jM f) else a)
 |_,_,a=>a
def Td{d:Nat->Type}(b:Oper)(c:St d)(a:Option (cr d)):(qo b c a).E=gr c.E b.dst (wq a):=by cases a <;> rfl
def LO{j:List Oper}:∀{b:List Oper} {d:St B.D} {c:List (Option (cr B.D))} {e:St B.D},l6 P B j b d c e->
 c.length=b.length/\gT b c b.length d=e/\∀(i:Nat) (h:Oper),b[i]?=c5 h->∃f,c[i]?=c5 f/\Ij P B j h (gT b c i d) f
 |[],d,[],e,a=>⟨rfl,by have a:e=d:=a;rw[a];rfl,by simp⟩
 |h::b,d,f::c,e,a=>by
  obtain⟨k,l,p⟩:=LO a.2;refine⟨by simp[k],l,λi n g=>?_⟩
  cases i with
  |zero=>
   simp at g;subst g;refine⟨f,rfl,?_⟩
   have:=a.1;simpa[gT] using this
  |succ i=>
   obtain⟨m,q,o⟩:=p i n (by simpa using g);exact⟨m,by simpa using q,o⟩
 |[],_,_::_,_,a=>a.elim
 |_::_,_,[],_,a=>a.elim
def RW{f:Nat->Type}:∀{l:List Oper} {ts:List (Option (cr f))} {i:Nat} {S:St f} {e:Oper} {d:Option (cr f)},l[i]?=c5 e->ts[i]?=c5 d->gT l ts (i+1) S=qo e (gT l ts i S) d
 |g::l,b::ts,0,S,e,d,c,a=>by
  simp at c a;subst c;subst a;cases l <;> cases ts <;> rfl
 |g::l,b::ts,i+1,S,e,d,c,a=>by
  have:=RW (l:=l) (ts:=ts) (i:=i) (S:=qo g S b) (by simpa using c) (by simpa using a);exact this
 |[],_,_,_,_,_,c,_=>by simp at c
 |_::_,[],_,_,_,_,_,a=>by simp at a
def vg{k:Nat->Type}{m p:Nat->Bool}{c:Nat}:∀(i:List Oper) (a:Nat) (j:List (Option (cr k))) (d l:En k),(∀e g,i[e]?=c5 g->g.dst=c5 c->m (a+e)=p (a+e))->lk d c=lk l c->lk (gN m a i j d) c=lk (gN p a i j l) c
 |[],_,_,_,_,_,f=>by simpa[gN] using f
 |_::_,_,[],_,_,_,f=>by simpa[gN] using f
 |g::i,a,v::j,d,l,o,f=>by
  simp only[gN];refine vg i (a+1) j _ _ (λe q r h=>by
   have:=o (e+1) q (by simpa using r) h
   rwa [show a+(e+1)=a+1+e by omega] at this) ?_
  by_cases h:g.dst=c5 c
  .have h0:=o 0 g rfl h;simp only[hS] at h0;rw[h0]
   split
   .rw[td,td,if_pos h,if_pos h]
   .exact f
  .have n:∀(b:Bool) (d:En k),lk (if b=true then gr d g.dst (wq v) else d) c=lk d c:=λb d=>by
    split
    .rw[td,if_neg h]
    .rfl
   rw[n,n,f]
def IR{f:Nat->Type}{g:Nat->Bool}:∀(e:List Oper) (a:Nat) (d:List (Option (cr f))) (b:En f),(∀c,a<=c->g c=false)->gN g a e d b=b
 |[],_,_,_,_=>by simp[gN]
 |_::_,_,[],_,_=>by simp[gN]
 |j::e,a,v::d,b,h=>by
  simp only[gN];rw[h a (ef _)];exact IR e (a+1) d b λc i=>h c (by omega)
def Nt{e:Nat->Type}:∀(i a:Nat) (d:List Oper) (b:List (Option (cr e))) (c:St e),gN (λf=>c3 (f<a+i)) a d b c.E=(gT d b i c).E
 |0,a,d,b,c=>by
  rw[IR d a b c.E λf j=>by simp;omega];cases d <;> cases b <;> rfl
 |i+1,a,[],b,c=>by cases b <;> rfl
 |i+1,a,_::_,[],c=>rfl
 |i+1,a,h::d,g::b,c=>by
  simp only[gN,gT];rw[if_pos (by simp), <-Td];have:=Nt i (a+1) d b (qo h c g);rw[show a+1+i=a+(i+1) by omega] at this;exact this
def xq{d:Nat->Type}{e:Nat->Bool}:∀(a:List (Option (cr d))) (b:Nat) (c:List (Ob d)),(eA e b a c).length=c.length
 |[],_,_=>rfl
 |f::a,b,c=>by
  simp only[eA];rw[xq a (b+1)]
  split
  .exact qy _ _
  .rfl
def O2{c:Type}{b:List (Nat×c)}{i:Nat}{f:c}(a:(i,f)∈b):i∈eV b:=by
 induction b with
 |nil=>cases a
 |cons g b d=>
  rcases dd.1 a with e |a
  .simp[eV, <-e]
  .simp[eV,d a]
def Fu{f:Type}:∀{ch:List (Nat×f)} {a b:List f} {i:Nat},a.length=b.length->nth a i=nth b i->nth (b8 a ch) i=nth (b8 b ch) i
 |[],_,_,_,_,c=>c
 |p::ch,a,b,i,g,c=>by
  refine Fu (ch:=ch) (by rw[iL,iL,h6,h6,g]) ?_
  rw[cJ,cJ] at c;rw[cJ,cJ,iL,iL]
  by_cases e:p.1=i
  .subst e;rcases hI p.1 a.length with d |d
   .rw[ev d,ev (by omega)]
   .rw[ga (by rw[h6];exact d),ga (by rw[h6];omega)]
  .rw[eH e,eH e,c]
def vT{k:Nat->Type}{m q:Nat->Bool}{i:Nat}:∀(f:List (Option (cr k))) (c:Nat) (h j:List (Ob k)),h.length=j.length->(∀d e,f[d]?=c5 e->i∈eV (jM e)->m (c+d)=q (c+d))->nth h i=nth j i->nth (eA m c f h) i=nth (eA q c f j) i
 |[],_,_,_,_,_,g=>g
 |e::f,c,h,j,p,n,g=>by
  simp only[eA];have len:∀(b:Bool) (a:List (Ob k)),(if b=true then b8 a (jM e) else a).length=a.length:=λb a=>by
   split
   .exact qy _ _
   .rfl
  refine vT f (c+1) _ _ (by rw[len,len,p]) (λd s t l=>by
   have:=n (d+1) s (by simpa using t) l
   rwa [show c+(d+1)=c+1+d by omega] at this) ?_
  by_cases l:i∈eV (jM e)
  .have h0:=n 0 e rfl l;simp only[hS] at h0;rw[h0]
   split
   .exact Fu p g
   .exact g
  .have o:∀(b:Bool) (a:List (Ob k)),nth (if b=true then b8 a (jM e) else a) i=nth a i:=λb a=>by
    split
    .exact Fk λu r=>l (O2 r)
    .rfl
   rw[o,o,g]
def vP{e:Nat->Type}{f:Nat->Bool}:∀(d:List (Option (cr e))) (a:Nat) (b:List (Ob e)),(∀c,a<=c->f c=false)->eA f a d b=b
 |[],_,_,_=>rfl
 |h::d,a,b,g=>by
  simp only[eA];rw[g a (ef _)];exact vP d (a+1) b λc i=>g c (by omega)
def PZ{e:Type}:∀{c:List (Nat×e)} {a b:List e},(∀i d,(i,d)∈c->i<a.length)->b8 (aX a b) c=aX (b8 a c) b
 |[],_,_,_=>rfl
 |p::c,a,b,f=>by
  have g:me (aX a b) p.1 p.2=aX (me a p.1 p.2) b:=by
   rw[iL,iL,bK,bK,List.set_append_left _ _ (f p.1 p.2 j3)]
  rw[b8,g,PZ λi d h=>by rw[iL,h6];exact f i d (c7 _ h)]
  rfl
def MM{d:Nat->Type}(a b:Nat):(dx (a+b):List (Ob d))=aX (dx a) (dx b):=by
 induction a with
 |zero=>rw[e6];rfl
 |succ a c=>rw[show a+1+b=(a+b)+1 by omega];simp[dx,aX,c]
def QS{s:List Oper}:∀(i d:Nat) {f:List Oper} {b:St B.D} {a:List (Option (cr B.D))} {h:St B.D} {m:Nat},l6 P B s f b a h->i<=f.length->
 ∃j,eA (λp=>c3 (p<d+i)) d a (aX b.H (dx (m+jH a)))=aX (gT f a i b).H (dx (m+j))/\(∀g,a[i]?=c5 g->xL g<=j)/\(i=f.length->j=0)
 |0,d,[],b,[],h,m,c,_=>⟨0,by simp[eA,jH,gT],by simp,λ_=>rfl⟩
 |0,d,o::f,b,g::a,h,m,c,_=>⟨jH (g::a),by rw[vP _ _ _ λp w=>by simp;omega];rfl,λq k=>by
  simp at k;subst k;simp[jH],λc=>by simp at c⟩
 |i+1,d,o::f,b,g::a,h,m,c,n=>by
  obtain⟨j,t,r,u⟩:=QS i (d+1) (m:=m) c.2 (by simpa using n);refine⟨j,?_,λq k=>r q (by simpa using k),λl=>u (by simpa using l)⟩
  simp only[eA,gT];rw[if_pos (by simp), <-t,show d+1+i=d+(i+1) by omega]
  congr 1
  cases g with
  |none=>simp[jM,b8,qo,jH,xL]
  |some e=>
   have l:(m+jH (c5 e::a))=e.nw+(m+jH a):=by simp[jH,xL];omega
   rw[l,MM];show b8 (aX b.H (aX (dx e.nw) (dx (m+jH a)))) e.wr=aX (behind b.H e) (dx (m+jH a))
   rw[show aX b.H (aX (dx e.nw) (dx (m+jH a)))=aX (aX b.H (dx e.nw)) (dx (m+jH a)) by simp[bK]];rw[PZ λi o v=>by
    have:=(c.1.2.2.1 i o v).1;rw[bK,e5,qV];exact this]
   rfl
 |i+1,d,[],b,a,h,m,c,n=>by simp at n
 |_,_,[],_,_::_,_,_,c,_=>c.elim
 |_,_,_::_,_,[],_,_,c,_=>c.elim
def tD{b c:List Nat}{d:Nat}(a:d∈b)(e:d∈c):meets b c=true:=by
 induction b with
 |nil=>cases a
 |cons h b g=>
  simp only[meets];cases f:has c h with
  |true=>rfl
  |false=>
   rcases dd.1 a with rfl |a
   .exact absurd e (nA f)
   .exact g a
def Ny{g:List Oper}{k:Lg}{j:Nat}:∀{e:List Lg} {c i:Nat} {b:Lg},vK g k j c e=true->e[i]?=c5 b->mm k b=true->before g (len g) (c+i) j=true
 |[],_,_,_,_,a,_=>by simp at a
 |b::e,c,0,m,a,d,f=>by
  simp at d;subst d;simp only[vK] at a;obtain⟨h,_⟩:=fu a;rw[f] at h;exact h
 |b::e,c,i+1,m,a,d,f=>by
  simp only[vK] at a;obtain⟨_,l⟩:=fu a;have:=Ny l (by simpa using d) f;rw[show c+(i+1)=c+1+i by omega];exact this
def Jn{g:List Oper}:∀{f pre:List Lg} {c:Nat},n4 g pre c f=true->pre.length=c->∀i e d b,c<=i->(pre++f)[i]?=c5 e->(pre++f)[d]?=c5 b->d<i->mm e b=true->before g (len g) d i=true
 |[],pre,c,_,l,i,e,d,b,r,a,_,_,_=>by
  have:=c9 a;simp at this;omega
 |p::f,pre,c,k,l,i,e,d,b,r,a,h,q,j=>by
  simp only[n4] at k;obtain⟨m,n⟩:=fu k
  by_cases o:i=c
  .subst o;rw[dk (by omega)] at a;rw[show i -pre.length=0 by omega] at a;simp at a;subst a;rw[dt (by omega)] at h;have:=Ny m h j
   rwa [e6] at this
  .refine Jn (pre:=aX pre [p]) n (by simp[bK,l]) i e d b (by omega) ?_ ?_ q j
   .rw[bK,dv];exact a
   .rw[bK,dv];exact h
def IG{c:Edge}:∀{d:List Edge},c∈d->m1 .any c=true->c.on∈iw d
 |e::d,a,b=>by
  simp only[iw];rcases dd.1 a with rfl |a
  .rw[b];simp
  .cases m1 .any e with
   |true=>simp[IG a b]
   |false=>simpa using IG a b
 |[],a,_=>by cases a
def G3{h:Nat}:∀{f:List Edge},h∈iw f->∃b,b∈f/\m1 .any b=true/\b.on=h
 |g::f,a=>by
  simp only[iw] at a;cases e:m1 .any g with
  |true=>
   rw[e] at a;rcases dd.1 a with rfl |a
   .exact⟨g,by simp,e,rfl⟩
   .obtain⟨b,c,d⟩:=G3 a;exact⟨b,c7 _ c,d⟩
  |false=>
   rw[e] at a;obtain⟨b,c,d⟩:=G3 a;exact⟨b,c7 _ c,d⟩
 |[],a=>by cases a
def JZ{p:Nat->Bool}:∀{c:List Nat},oF p c=true->∃b,b∈c/\p b=true
 |e::c,a=>by
  simp only[oF] at a;cases d:p e with
  |true=>exact⟨e,by simp,d⟩
  |false=>
   rw[d] at a;obtain⟨b,f,g⟩:=JZ a;exact⟨b,c7 _ f,g⟩
 |[],a=>by cases a
def RV{p:Nat->Bool}:∀{e:List Nat},oF p e=false->∀b,b∈e->p b=false
 |f::e,a,b,d=>by
  simp only[oF] at a;cases c:p f with
  |true=>rw[c] at a;cases a
  |false=>
   rw[c] at a;rcases dd.1 d with rfl |d
   .exact c
   .exact RV a b d
def I7{h:List Oper}{c:Nat->Bool}(l:∀i b,h[i]?=c5 b->c i=true->∀e,e∈iw b.after.toList->c e=true):∀{f i d:Nat},before h f i d=true->c d=true->c i=true
 |0,_,_,a,_=>by simp[before] at a
 |f+1,i,d,a,o=>by
  simp only[before] at a
  split at a
  .rename_i b j;rw[cJ] at j;have k:=l d b j o;cases g:has (iw b.after.toList) i with
   |true=>exact k i ((oO _ _).1 g)
   |false=>
    rw[g] at a;obtain⟨e,m,n⟩:=JZ a;exact I7 l n (k e m)
  .cases a
def U6{e:List Oper}{c:Nat->Bool}(m:∀i b,e[i]?=c5 b->c i=true->∀a,a∈iw b.after.toList->c a=true){f i h:Nat}{b:Oper}(n:e[h]?=c5 b)(j:∀a,a∈iw b.after.toList->c a=true)(d:before e f i h=true):c i=true:=by
 cases f with
 |zero=>simp[before] at d
 |succ f=>
  simp only[before,cJ,n] at d;cases g:has (iw b.after.toList) i with
  |true=>exact j i ((oO _ _).1 g)
  |false=>
   rw[g] at d;obtain⟨a,k,l⟩:=JZ d;exact I7 m l (j a k)
def Ns:∀{g:List Oper} {c i:Nat} {f:Oper},m7 c g=true->g[i]?=c5 f->∀b,b∈iw f.after.toList->b<c+i
 |j::g,c,0,f,a,d,b,h=>by
  simp at d;subst d;simp only[m7] at a;cases e:oF (λb=>m5 c b) (iw j.after.toList) with
  |true=>rw[e] at a;cases a
  |false=>
   have:=RV e b h;rw[hS];rcases hI b c with a |a
   .exact a
   .rw[hM a] at this;cases this
 |j::g,c,i+1,f,a,d,b,h=>by
  simp only[m7] at a;cases e:oF (λb=>m5 c b) (iw j.after.toList) with
  |true=>rw[e] at a;cases a
  |false=>
   rw[e] at a;have:=Ns a (by simpa using d) b h;omega
 |[],_,_,_,_,d,_,_=>by simp at d
def vZ{f:Nat->Type}{all:List Oper}:∀{l:List Oper} {ts:List (Option (cr f))} {i:Nat} {e:Oper} {d:Option (cr f)},l[i]?=c5 e->ts[i]?=c5 d->(mF all l ts)[i]?=c5 (fG all e d)
 |g::l,b::ts,0,e,d,c,a=>by simp at c a;subst c;subst a;rfl
 |g::l,b::ts,i+1,e,d,c,a=>by
  have:=vZ (all:=all) (l:=l) (ts:=ts) (i:=i) (by simpa using c) (by simpa using a);simpa[mF] using this
 |[],_,_,_,_,c,_=>by simp at c
 |_::_,[],_,_,_,_,a=>by simp at a
def J8{c:Type}:∀(a b:List c),nf a b=a.reverse++b
 |[],_=>rfl
 |d::a,b=>by simp[nf,J8 a]
end
def countP_set{b i:Nat}{p q:Nat->Bool}(k:i<b)(h:p i=false)(f:q i=true)(c:∀a,a<b->a≠i->p a=q a):(gv b).countP q=(gv b).countP p+1:=by
 induction b with
 |zero=>omega
 |succ b g=>
  rw[List.range_succ,p4,p4]
  by_cases e:i=b
  .subst e;rw[List.countP_congr (l:=gv i) (p:=q) (q:=p) λa d=>by rw[c a (by have:=hL.1 d;omega) (by have:=hL.1 d;omega)]];simp[h,f]
  .rw[g (by omega) λa d j=>c a (by omega) j];have:=c b (by omega) (λc=>e c.symm);simp[List.countP_cons,this];omega
section
variable {P:Program}{B:Tb}
def LB{X nn:Nat}{d:List Oper}{Q:fE}{u am:St B.D}{e:List (Option (cr B.D))}(a2:l6 P B d d u e am)(bz:m7 0 d=true)(a8:n4 d [] 0 (mF d d e)=true)
 (bY:∀j,j∈d->fL X j.dst=true) (bA:Q .normal (aU B am.E) (av B am.H)):∀aw aC ag,Rel aw X (aU B u.E) (av B u.H) aC ag->∀W:Exit->Act->World->Prop,(∀y aa H,eI X nn aw (av B u.H) ag Q y aa H->W y aa H)->wpAny P .any d.toArray W d.toArray.size (hP d.toArray.size false) aC {ag with drawn:=ag.drawn+1}:=by
 intro aw aC ag b0 W b7;obtain⟨cc,aY,bi⟩:=LO a2
 let n:=d.length
 let H0:=aX u.H (dx (jH e))
 have bn:∀i,i<=n->∃K,eA (λa=>c3 (a<i)) 0 e H0=aX (gT d e i u).H (dx K)/\(∀o,e[i]?=c5 o->xL o<=K)/\(i=n->K=0):=λi J=>by
  obtain⟨K,x,z,aM⟩:=QS i 0 (m:=0) a2 J;rw[e6,e6,e6] at x;exact⟨K,x,z,aM⟩
 have aB:∀i,gN (λa=>c3 (a<i)) 0 d e u.E=(gT d e i u).E:=λi=>by
  have:=Nt i 0 d e u
  rwa [e6] at this
 let Inv:Array Bool->Act->World->Prop:=λbN h w=>bN.size=n/\(∀i j,d[i]?=c5 j->bN.getD i false=true->∀m,m∈iw j.after.toList->bN.getD m false=true)/\
  ∃g,Rel g X (aU B (gN (λa=>bN.getD a false) 0 d e u.E)) (av B (eA (λa=>bN.getD a false) 0 e H0)) h w/\Bml.GStep nn aw (av B u.H) ag g (av B (eA (λa=>bN.getD a false) 0 e H0)) w
 have b6:∀{g:Gh} {N:List aO} {h:Act} {w:World} {bo bk:En B.D},fI g N w X (aU B bo) h->(∀o,lk bk o=lk bo o)->fI g N w X (aU B bk) h:=λl y=>⟨l.defers,l.size,λo=>by rw[ep,y o, <-ep];exact l.at_ o⟩
 have bc:∀{bd bp:List (Ob B.D)},(∀i,nth bd i=nth bp i)->bd=bp:=λl=>p6 λi=>by rw[<-cJ, <-cJ,l i]
 have fin:∀bN h w,Inv bN h w->(∀i,i<n->bN.getD i false=true)->W .normal h w:=by
  rintro bN h w ⟨U,_,g,V,ay⟩ aq;have ad:eA (λa=>bN.getD a false) 0 e H0=am.H:=by
   obtain⟨K,x,_,aM⟩:=bn n (ef _);rw[aM rfl] at x;have:eA (λa=>bN.getD a false) 0 e H0=eA (λa=>c3 (a<n)) 0 e H0:=bc λi=>vT e 0 _ _ rfl (λa o p _=>by
    rw[e6];have:=c9 p;rw[aq a (by show a<d.length;omega)];simp;show a<d.length
    omega) rfl
   rw[this,x,aY];simp[dx,bK]
  have aK:∀o,lk am.E o=lk (gN (λa=>bN.getD a false) 0 d e u.E) o:=λo=>by
   rw[<-aY, <-aB];refine vg d 0 e _ _ (λa j p _=>?_) rfl
   rw[e6];have:=c9 p;rw[aq a this];simpa using this
  rw[ad] at V ay;exact b7 .normal h w ⟨_,_,g,bA,⟨V.m,b6 V.e aK⟩,ay⟩
 have bs:∀bN:Array Bool,bN.size=n->pc .any d.toArray bN=[]->∀i,i<n->bN.getD i false=true:=by
  intro bN U Y i
  induction i using o7 with
  |_ i Z=>
   intro J;cases E:bN.getD i false with
   |true=>rfl
   |false=>
    exfalso
    have G:d[i]?=c5 d[i]:=c4 J;have:i∈pc .any d.toArray bN:=by
     refine r0.2 ⟨hL.2 (by simpa using J),?_⟩
     have bR:bN.getD i true=false:=by
      have O:i<bN.size:=by omega
      simp[O] at E⊢;exact E
     simp only[bR,Bool.not_false,Bool.true_and,gy,G,l4,qa];rw[Array.all_eq_true];intro q bD;have aF:d[i].after[q]∈d[i].after:=q2 bD;cases bE:m1 .any d[i].after[q] with
     |false=>rfl
     |true=>
      have aA:=Ns bz G _ (IG (hX.2 aF) bE);rw[e6] at aA;simp[Z _ aA (by omega)]
    rw[Y] at this;cases this
 have step:∀bN h w i j,Inv bN h w->d[i]?=c5 j->bN.getD i false=false->(∀m,m∈iw j.after.toList->bN.getD m false=true)->∀af:Act->World->Prop,(∀aa H,Inv (bN.setIfInBounds i true) aa H->af aa H)->wpOp P d.toArray W i af h w:=by
  rintro bN h w i j ⟨U,aT,g,V,ay⟩ G ac ba af bt;have O:=c9 G;obtain⟨o,ae,aV⟩:=bi i j G;have a5:∀a s k,d[a]?=c5 k->e[a]?=c5 s->a<i->mm (fG d j o) (fG d k s)=true->bN.getD a false=true:=λa s k p R aH C=>by
   have E:=Jn a8 rfl i _ a _ (l2 _) (vZ G ae) (vZ p R) aH C;exact U6 aT G ba E
  have bl:∀a s k,d[a]?=c5 k->e[a]?=c5 s->i<a->mm (fG d k s) (fG d j o)=true->bN.getD a false=false:=λa s k p R aH C=>by
   have E:=Jn a8 rfl a _ i _ (l2 _) (vZ p R) (vZ G ae) aH C;cases b2:bN.getD a false with
   |false=>rfl
   |true=>
    have:=I7 aT E b2;rw[this] at ac;cases ac
  have ax:∀{h b:Lg},(∃c,c∈h.wr/\c∈b.rd)\/(∃c,c∈h.wr/\c∈b.wr)\/(∃c,c∈b.wr/\c∈h.rd)\/(∃c,c∈h.wt/\c∈b.rt)\/(∃c,c∈h.wt/\c∈b.wt)\/(∃c,c∈b.wt/\c∈h.rt)->mm h b=true:=λ{h b} l=>by
   unfold mm;rcases l with⟨c,x,z⟩ |⟨c,x,z⟩ |⟨c,x,z⟩ |⟨c,x,z⟩ |⟨c,x,z⟩ |⟨c,x,z⟩
   .rw[tD x z];rfl
   .rw[tD x z];cases meets h.wr b.rd <;> rfl
   .rw[tD x z];cases meets h.wr b.rd <;> cases meets h.wr b.wr <;> rfl
   .rw[tD x z];cases meets h.wr b.rd <;> cases meets h.wr b.wr <;> cases meets b.wr h.rd <;> rfl
   .rw[tD x z];cases meets h.wr b.rd <;> cases meets h.wr b.wr <;> cases meets b.wr h.rd <;> cases meets h.wt b.rt <;> rfl
   .rw[tD x z];cases meets h.wr b.rd <;> cases meets h.wr b.wr <;> cases meets b.wr h.rd <;> cases meets h.wt b.rt <;> cases meets h.wt b.wt <;> rfl
  have ao:∀(k:Oper) (s:Option (cr B.D)) (c:Nat),k.dst=c5 c->c∈(fG d k s).wt:=λk s c r=>by
   cases s <;> simp[fG,rV,xo,yI,r]
  have ar:∀(k:Oper) (s:Option (cr B.D)) (c:Nat),c∈eV (jM s)->c∈(fG d k s).wr:=λk s c r=>by
   cases s with
   |none=>cases r
   |some D=>exact r
  have a7:∀c,c∈(fG d j o).rt\/c∈(fG d j o).wt->∀a k,d[a]?=c5 k->k.dst=c5 c->bN.getD a false=c3 (a<i):=λc r a k p M=>by
   have bj:=c9 p;obtain⟨s,R,_⟩:=bi a k p;rcases q3 a i with l |l |l
   .have C:mm (fG d j o) (fG d k s)=true:=ax (by
     rcases r with r |r
     .exact .inr (.inr (.inr (.inr (.inr ⟨c,ao k s c M,r⟩))))
     .exact .inr (.inr (.inr (.inr (.inl ⟨c,r,ao k s c M⟩)))))
    rw[a5 a s k p R l C];simp[l]
   .subst l;rw[ac];simp
   .have C:mm (fG d k s) (fG d j o)=true:=ax (by
     rcases r with r |r
     .exact .inr (.inr (.inr (.inl ⟨c,ao k s c M,r⟩)))
     .exact .inr (.inr (.inr (.inr (.inl ⟨c,ao k s c M,r⟩)))))
    rw[bl a s k p R l C];simp;omega
  have a4:∀c,c∈(fG d j o).rd\/c∈(fG d j o).wr->∀a s,e[a]?=c5 s->c∈eV (jM s)->bN.getD a false=c3 (a<i):=λc r a s R T=>by
   have bj:a<d.length:=by have:=c9 R;omega
   have p:d[a]?=c5 d[a]:=c4 bj;rcases q3 a i with l |l |l
   .have C:mm (fG d j o) (fG d d[a] s)=true:=ax (by
     rcases r with r |r
     .exact .inr (.inr (.inl ⟨c,ar _ s c T,r⟩))
     .exact .inr (.inl ⟨c,r,ar _ s c T⟩))
    rw[a5 a s _ p R l C];simp[l]
   .subst l;rw[ac];simp
   .have C:mm (fG d d[a] s) (fG d j o)=true:=ax (by
     rcases r with r |r
     .exact .inl ⟨c,ar _ s c T,r⟩
     .exact .inr (.inl ⟨c,ar _ s c T,r⟩))
    rw[bl a s _ p R l C];simp;omega
  have aI:∀c,c∈(fG d j o).rt\/c∈(fG d j o).wt->lk (gN (λa=>bN.getD a false) 0 d e u.E) c=lk (gT d e i u).E c:=λc r=>by
   rw[<-aB];exact vg d 0 e _ _ (λa k p M=>by rw[e6];exact a7 c r a k p M) rfl
  obtain⟨K,aG,b5,_⟩:=bn i (Nat.le_of_lt O);have a9:∀c,c∈(fG d j o).rd\/c∈(fG d j o).wr->nth (eA (λa=>bN.getD a false) 0 e H0) c=nth (aX (gT d e i u).H (dx K)) c:=λc r=>by
   rw[<-aG];exact vT e 0 _ _ rfl (λa s p T=>by rw[e6];exact a4 c r a s p T) rfl
  have al:∀a,(bN.setIfInBounds i true).getD a false=if a=i then true else bN.getD a false:=λa=>by
   by_cases y:a=i
   .subst y;have:a<bN.size:=by omega
    simp[this]
   .simp[y,km (Ne.symm y)]
  have b9:∀A ok,d[A]?=c5 ok->(bN.setIfInBounds i true).getD A false=true->∀m,m∈iw ok.after.toList->(bN.setIfInBounds i true).getD m false=true:=λA ok ap x m a1=>by
   rw[al] at x⊢
   split
   .rfl
   .by_cases y:A=i
    .subst y;rw[G] at ap;injection ap with ap
     subst ap;exact ba m a1
    .rw[if_neg y] at x;exact aT A ok ap x m a1
  have bL:=RW (S:=u) G ae;have bV:∀c,lk (gN (λa=>(bN.setIfInBounds i true).getD a false) 0 d e u.E) c=if j.dst=c5 c then wq o else lk (gN (λa=>bN.getD a false) 0 d e u.E) c:=λc=>by
   by_cases M:j.dst=c5 c
   .rw[if_pos M];have:lk (gN (λa=>(bN.setIfInBounds i true).getD a false) 0 d e u.E) c=lk (gN (λa=>c3 (a<i+1)) 0 d e u.E) c:=vg d 0 e _ _ (λa k p aE=>by
     rw[e6,al]
     by_cases y:a=i
     .rw[if_pos y];simp;omega
     .rw[if_neg y,a7 c (.inr (ao j o c M)) a k p aE]
      by_cases l:a<i
      .simp[l];omega
      .have z:¬a<i+1:=by omega
       simp[l,z]) rfl
    rw[this,aB,bL,Td,td,if_pos M]
   .rw[if_neg M];refine vg d 0 e _ _ (λa k p aE=>?_) rfl
    rw[e6,al,if_neg];rintro rfl;rw[G] at p;injection p with p
    subst p;exact M aE
  have aF:eA (λa=>(bN.setIfInBounds i true).getD a false) 0 e H0=b8 (eA (λa=>bN.getD a false) 0 e H0) (jM o):=bc λc=>by
   by_cases r:c∈eV (jM o)
   .have bf:c∈(fG d j o).wr:=ar j o c r;have ad:nth (eA (λa=>(bN.setIfInBounds i true).getD a false) 0 e H0) c=nth (eA (λa=>c3 (a<i+1)) 0 e H0) c:=vT e 0 _ _ rfl (λa s p T=>by
     rw[e6,al]
     by_cases y:a=i
     .rw[if_pos y];simp;omega
     .rw[if_neg y,a4 c (.inr bf) a s p T]
      by_cases l:a<i
      .simp[l];omega
      .have z:¬a<i+1:=by omega
       simp[l,z]) rfl
    have aK:nth (eA (λa=>c3 (a<i+1)) 0 e H0) c=nth (b8 (eA (λa=>c3 (a<i)) 0 e H0) (jM o)) c:=by
     have ca:∀(e:List (Option (cr B.D))) (A i:Nat) (N:List (Ob B.D)) (o:Option (cr B.D)),e[i]?=c5 o->eA (λa=>c3 (a<A+i+1)) A e N=b8 (eA (λa=>c3 (a<A+i)) A e N) (jM o):=λe=>by
      induction e with
      |nil=>intro A i N o l;simp at l
      |cons t e Z=>
       intro A i N o l;cases i with
       |zero=>
        simp at l;subst l;simp only[eA];rw[if_pos (by simp),if_neg (by simp),vP e (A+1) _ λa p=>by simp;omega,vP e (A+1) _ λa p=>by simp;omega]
       |succ i=>
        simp only[eA];rw[if_pos (by simp;omega),if_pos (by simp)];have:=Z (A+1) i (b8 N (jM t)) o (by simpa using l);rw[show A+1+i+1=A+(i+1)+1 by omega,show A+1+i=A+(i+1) by omega] at this;exact this
     have:=ca e 0 i H0 o ae;rw[e6] at this;rw[this]
    rw[ad,aK];exact Fu (by rw[xq,xq]) (by rw[a9 c (.inr bf),aG])
   .rw[Fk λj aS=>r (O2 aS)];refine vT e 0 _ _ rfl (λa s p T=>?_) rfl
    rw[e6,al,if_neg];rintro rfl;rw[ae] at p;injection p with p
    subst p;exact r T
  have bT:fL X j.dst=true:=bY j (ej G);have done:∀(ab:Gh) (c:Value) (H:World),bF ab (av B (b8 (eA (λa=>bN.getD a false) 0 e H0) (jM o))) H->VR ab (av B (b8 (eA (λa=>bN.getD a false) 0 e H0) (jM o))) H (pv B (wq o)) c->
   Bml.GStep (av B (eA (λa=>bN.getD a false) 0 e H0)).length g (av B (eA (λa=>bN.getD a false) 0 e H0)) w ab (av B (b8 (eA (λa=>bN.getD a false) 0 e H0) (jM o))) H->af (h.put j.dst c) H:=λab c H au aR ai=>by
   have Y:=(V.e.step ai).tn bT aR;rw[<-aF] at au ai Y;refine bt _ _ ⟨by simpa using U,b9,ab,⟨au,⟨Y.defers,Y.size,λc=>?_⟩⟩,ay.trans ai.every⟩
   rw[ep,bV c];have:=Y.at_ c;rw[<-sx,ep,td] at this;exact this
  have bP:∀D,o=c5 D->j.wp P h w af W:=λD bJ=>by
   subst bJ;obtain⟨_,bH,br,bB⟩:=aV;have bX:Ag j.op (aX D.rd (eV D.wr)) (gT d e i u).E (gN (λa=>bN.getD a false) 0 d e u.E) (aX (gT d e i u).H (dx D.nw)) (eA (λa=>bN.getD a false) 0 e H0):=by
    have cb:D.nw<=K:=b5 _ ae;refine⟨λc r=>?_,λc r=>?_,?_⟩
    .cases c with
     |tmp t=>
      refine aI t (.inl ?_)
      show t∈aX (sZ d j) (tmpsOf j.op.operands.toList)
      rw[bK,c6];exact .inr (LD (hX.2 r))
     |const v=>rfl
     |global b=>rfl
     |func f=>rfl
    .rw[bK,c6] at r;have aA:c<(gT d e i u).H.length+D.nw:=by
      rcases r with r |r
      .have:=bB c r;omega
      .obtain⟨bQ,b3⟩:=Vc r;exact(br c bQ b3).1
     rw[a9 c r,show K=D.nw+(K -D.nw) by omega,MM,show aX (gT d e i u).H (aX (dx D.nw) (dx (K -D.nw)))=aX (aX (gT d e i u).H (dx D.nw)) (dx (K -D.nw)) by simp[bK]];rw[cJ,cJ,bK,dt];rw[bK,e5,qV];exact aA
    .have ad:=congrArg List.length aG;rw[xq,bK,e5,qV] at ad;rw[xq,bK,e5,qV,ad];omega
   have b4:=bH j.dst j.type j.pos j.after _ _ bX;refine b4 g X h w V af W ?_
   rintro c H ab cd ce ⟨rfl,rfl⟩ aR au ai;exact done ab c H au aR ai
  have bh:∀a F k t,j.guard=c5 (a,F)->nth d a=c5 k->k.dst=c5 t->t∈(fG d j o).rt:=λa F k t I p L=>by
   have:t∈sZ d j:=by simp[sZ,I,p,yI,L]
   cases o with
   |none=>exact this
   |some D=>
    show t∈aX (sZ d j) _
    rw[bK,c6];exact .inl this
  have bM:∀(g:Gh) (N:List aO) (w:World),VR g N w (.bu []) undef:=λg N w=>.aW (.bu [] [] rfl (by simp))
  have aZ:∀a F k t b,j.guard=c5 (a,F)->nth d a=c5 k->k.dst=c5 t->lk (gT d e i u).E t= .bool b->yielded d.toArray h.tmps a=c5 b:=λa F k t b I p L E=>by
   have ah:=V.e.at_ t;rw[ep,aI t (.inl (bh a F k t I p L)),E] at ah;have aN:=ah.n5;unfold yielded;rw[gy, <-cJ,p];simp only[my,L];rcases hI t h.tmps.size with an |aJ
   .simp[an] at aN;simp[an,aN]
   .simp[j4 aJ,undef] at aN
  have bx:∀a F k t,j.guard=c5 (a,F)->nth d a=c5 k->k.dst=c5 t->lk (gT d e i u).E t= .bu []->yielded d.toArray h.tmps a=ea:=λa F k t I p L E=>by
   have ah:=V.e.at_ t;rw[ep,aI t (.inl (bh a F k t I p L)),E] at ah;obtain⟨aj,a3,bw,_⟩:=VR.Db ah;have bv:aj=[]:=dT (by rw[<-bw];rfl);subst bv;unfold yielded;rw[gy, <-cJ,p];simp only[my,L];rcases hI t h.tmps.size with an |aJ
   .simp[an] at a3;simp[an,a3]
   .simp[j4 aJ]
  have bC:Bml.GStep (av B (eA (λa=>bN.getD a false) 0 e H0)).length g (av B (eA (λa=>bN.getD a false) 0 e H0)) w g (av B (eA (λa=>bN.getD a false) 0 e H0)) w:=Bml.GStep.refl _ _ _ _;unfold wpOp;rw[gy,G];simp only;cases o with
  |some D=>
   have aL:k7 j (yielded d.toArray h.tmps)=true:=by
    rcases aV.1 with I |⟨a,F,k,t,I,p,L,E⟩
    .simp[k7,I]
    .simp[k7,I,aZ a F k t F I p L E]
   rw[aL];exact .inl (bP D rfl)
  |none=>
   obtain⟨a,F,k,t,I,p,L,C⟩:=aV;have aL:k7 j (yielded d.toArray h.tmps)=false:=by
    rcases C with C |⟨b,E,aP⟩
    .simp[k7,I,bx a F k t I p L C]
    .simp[k7,I,aZ a F k t b I p L E,aP]
   rw[aL];simp only[Bool.false_eq_true,if_false];exact done g undef w V.m (bM _ _ _) bC
 have bZ:∀(ak:Nat) (bN:Array Bool) (h:Act) (w:World),Inv bN h w->(gv n).countP (λa=>bN.getD a false)+ak=n->wpAny P .any d.toArray W ak bN h w:=by
  intro ak
  induction ak with
  |zero=>
   intro bN h w J C;have aq:∀i,i<n->bN.getD i false=true:=λi O=>by
    have bS:(gv n).countP (λa=>bN.getD a false)=(gv n).length:=by rw[List.length_range];omega
    exact List.countP_eq_length.1 bS i (hL.2 O)
   refine⟨?_,fin bN h w J aq⟩
   unfold pc;refine List.filter_eq_nil_iff.2 λi aQ=>?_
   have O:i<n:=by simpa using aQ
   have a0:=aq i O;have:bN.getD i true=true:=by
    have U:i<bN.size:=by have:=J.1;omega
    simp[U] at a0⊢;exact a0
   simp[this]
  |succ ak Z=>
   intro bN h w J C;refine⟨λY=>fin bN h w J (bs bN J.1 Y),λi bq=>?_⟩
   have a6:=r0.1 bq;have O:i<n:=by simpa using a6.1
   have G:d[i]?=c5 d[i]:=c4 O;have aD:=a6.2;simp only[gy,G,l4,qa,j2,Bool.not_eq_true'] at aD;have ac:bN.getD i false=false:=by
    have x:=aD.1;have U:i<bN.size:=by have:=J.1;omega
    simp[U] at x⊢;exact x
   refine step bN h w i d[i] J G ac (λm bU=>?_) _ (λaa H aQ=>Z _ aa H aQ ?_)
   .obtain⟨y,bI,E,rfl⟩:=G3 bU;have z:=Array.all_eq_true'.1 aD.2 y (hX.1 bI);simpa[E] using z
   .have:(gv n).countP (λa=>(bN.setIfInBounds i true).getD a false)=(gv n).countP (λa=>bN.getD a false)+1:=by
     refine countP_set O ac ?_ λa p aP=>?_
     .have U:i<bN.size:=by have:=J.1;omega
      simp[U]
     .simp[km (Ne.symm aP)]
    omega
 obtain⟨bO,x,bb⟩:=G6 (B:=B) (n:=nn) (jH e) b0;rw[<-Mc] at x bb;obtain⟨be,b1⟩:=Ez (m:=(av B (aX u.H (dx (jH e)))).length) x.m;have az:∀a,(hP d.toArray.size false).getD a false=false:=λa=>by
  rcases hI a d.length with l |l
  .simp[l]
  .simp[j4,l]
 have bW:gN (λa=>(hP d.toArray.size false).getD a false) 0 d e u.E=u.E:=IR _ _ _ _ λa _=>az a
 have bm:eA (λa=>(hP d.toArray.size false).getD a false) 0 e H0=H0:=vP _ _ _ λa _=>az a
 refine bZ _ _ _ _ ⟨by simp[n],λi j J l=>?_,bO,?_,?_⟩ ?_
 .rw[az] at l;cases l
 .rw[bW,bm];exact⟨b1,x.e.step be⟩
 .rw[bm];exact bb.trans be.every
 .have:(gv n).countP (λa=>(hP d.toArray.size false).getD a false)=0:=by
   rw[List.countP_eq_zero];intro a _;rw[az];simp
  rw[this];simp[n]
where
 LD {t:Nat}:∀{aj:List Operand},Operand.tmp t∈aj->t∈tmpsOf aj
  |c::aj,l=>by
   rcases dd.1 l with rfl |l
   .simp[tmpsOf]
   .have:=LD l;cases c <;> simp[tmpsOf,this]
  |[],l=>by cases l
 Vc {α:Type} {d:List (Nat×α)} {i:Nat} (l:i∈eV d):∃j,(i,j)∈d:=by
  induction d with
  |nil=>cases l
  |cons h d Z=>
   rcases dd.1 l with rfl |l
   .exact⟨h.2,by simp⟩
   .obtain⟨j,aS⟩:=Z l;exact⟨j,c7 _ aS⟩
def abH{e nn id:Nat}{a:List Oper}{Q:fE}{b c:St B.D}{d:List (Option (cr B.D))}(o:P.follows .mixedOrders=true)(q:l6 P B a a b d c)(h:m7 0 a=true)(p:n4 a [] 0 (mF a a d)=true)
 (k:∀f,f∈a->fL e f.dst=true) (g:Q .normal (aU B c.E) (av B c.H)):eT P e nn (.region id a.toArray true) Q (aU B b.E) (av B b.H):=λi n l m r j=>wp_region_any o (LB q h p k g i n l m r j)
end
end Go.X
namespace Go.Bml
open Go
def LW(P:Program)(c:Code)(Q:Exit->Act->World->Prop)(a:Act)(w:World):Prop:=
 ∀b d h,∃f e g,Q f e g/\Arrives P (lone (b.at a (.code c:: .inLoop c::d)) h w) b d h f e g
section
variable {P:Program}{Q:Exit->Act->World->Prop}{a:Act}{w:World}{c:Code}
def UU(i:LW P c Q a w):(Code.loop c).wp P Q a w:=by
 intro b e k;obtain⟨h,f,j,d,g⟩:=i b e k;exact⟨h,f,j,d,.of_steps (.one step_loop) g⟩
def NU(m:c.wp P (Exit.then (LW P c Q) Q) a w):LW P c Q a w:=by
 intro b h i;obtain⟨l,g,f,d,e⟩:=m b (.inLoop c::h) i;cases l with
 |normal=>
  obtain⟨p,j,k,q,o⟩:=d b h i;exact⟨p,j,k,q,.of_steps (Steps.trans e (.one step_inLoop)) o⟩
 |exit r=>exact⟨_,g,f,d,.pass (x:=.inLoop c) rfl (λ_ _=>.inl (by simp)) e⟩
 |goto t=>exact⟨_,g,f,d,.pass (x:=.inLoop c) rfl (λ_ _=>.inl (by simp)) e⟩
 |ret=>exact⟨_,g,f,d,.pass (x:=.inLoop c) rfl (λ_ _=>.inl (by simp)) e⟩
 |panic s=>exact⟨_,g,f,d,.pass (x:=.inLoop c) rfl (λ_ _=>.inl (by simp)) e⟩
 |outgrown=>exact⟨_,g,f,d,.pass (x:=.inLoop c) rfl (λ_ _=>.inl (by simp)) e⟩
def ad3(g:Nat->Act->World->Prop)(round:∀n a w,g n a w->c.wp P (Exit.then (λe f=>∃d,d<n/\g d e f) Q) a w):∀n a w,g n a w->LW P c Q a w:=by
 intro n
 induction n using o7 with
 |_ n j=>
  intro a w l;refine NU (Code.wp_mono (λk e f b=>?_) (round n a w l))
  cases k with
  |normal=>
   obtain⟨d,h,i⟩:=b;exact j d h e f i
  |exit m=>exact b
  |goto p=>exact b
  |ret=>exact b
  |panic o=>exact b
  |outgrown=>exact b
end
section
variable {P:Program}{nt n:Nat}{Q:fE}{E:Env}{H:List aO}
def oE(P:Program)(nt n:Nat)(c:Code)(Q:fE)(E:Env)(H:List aO):Prop:=
 ∀g a w,Rel g nt E H a w->∀b:Exit->Act->World->Prop,(∀e f d,eI nt n g H w Q e f d->b e f d)->LW P c b a w
def Pz{c:Code}(f:oE P nt n c Q E H):eT P nt n (.loop c) Q E H:=λg a w e b d=>UU (f g a w e b d)
def oE.mono{c:Code}{d:fE}(h:oE P nt n c Q E H)(k:∀e E H,Q e E H->d e E H):oE P nt n c d E H:=λg a w t s l=>h g a w t s λe m o j=>l e m o (by cases e <;> first |exact iX.mono (k _) j |exact j)
def aiK{c:Code}(p:eT P nt n c (Ce (oE P nt n c Q) Q) E H):oE P nt n c Q E H:=by
 intro g a w s h d;refine NU (p g a w s _ ?_)
 intro e k r b;cases e with
 |normal=>
  obtain⟨t,v,l,i,q,j⟩:=b;exact i l k r q h λe f m o=>d e f m (eI.trans j o)
 |exit x=>exact d _ _ _ b
 |goto u=>exact d _ _ _ b
 |ret=>exact d _ _ _ b
 |panic c=>exact b.elim
 |outgrown=>exact b.elim
def QG{α:Type}{c:Code}(j:α->qk)(h:α->Nat)(l:α)(h0:j l E H)
 (round:∀b E H,j b E H->eT P nt n c (Ce (λk m=>∃f,h f<h b/\j f k m) Q) E H):oE P nt n c Q E H:=by
 intro g a w C I o;refine ad3 (λr p q=>∃b,h b=r/\iX nt n g H w (j b) p q) ?_ (h l) a w ⟨l,rfl,E,H,g,h0,C,GStep.refl _ _ _ _⟩
 rintro r p q ⟨b,rfl,k,m,G,y,t,i⟩;refine round b k m y G p q t _ ?_
 intro e J K d;cases e with
 |normal=>
  obtain⟨s,B,x,⟨f,D,u⟩,A,v⟩:=d;exact⟨h f,D,f,rfl,s,B,x,u,A,i.trans v⟩
 |exit F=>exact o _ _ _ (eI.trans (Q:=Q) (e:=.exit F) i d)
 |goto z=>exact o _ _ _ (eI.trans (Q:=Q) (e:=.goto z) i d)
 |ret=>exact o _ _ _ (eI.trans (Q:=Q) (e:=.ret) i d)
 |panic c=>exact d.elim
 |outgrown=>exact d.elim
end
end Go.Bml
namespace Go.X
open Go Go.Aml Go.Bml
def Tl{P:Program}{c d:Nat}{q:Code}{n l:fE}{r:Env}{e:List aO}(o:eT P c d q n r e)
 (t:∀a p m g k b,n a p m->Rel g c p m k b->∃f H2 j,l a f H2/\Rel j c f H2 k b/\Bml.GStep d g m b j H2 b):eT P c d q l r e:=by
 intro g k b C w E;refine o g k b C w λa h i s=>E a h i ?_
 have G:∀a,iX c d g e b (n a) h i->iX c d g e b (l a) h i:=λa o=>by
  obtain⟨z,H1,v,x,u,A⟩:=o;obtain⟨f,H2,j,D,y,F⟩:=t a z H1 v h i x u;exact⟨f,H2,j,D,y,A.trans F⟩
 cases a <;> first |exact G _ s |exact s
def Tc{f j:Nat->Nat->Prop}(e:∀r v,f r v->j r v){k:PV}(o:Wf f k):Wf j k:=by
 induction o with
 |any=>exact .any
 |bool b=>exact .bool b
 |int l u=>exact .int l u
 |str n=>exact .str n
 |fS=>exact .fS
 |bg=>exact .bg
 |z0=>exact .z0
 |dB=>exact .dB
 |dw a h=>exact .dw a h
 |vs p m=>exact .vs p m
 |ptr r v i h c=>exact .ptr r v i h (e _ _ c)
 |sl r v q len c=>exact .sl r v q len (e _ _ c)
 |fl r v c=>exact .fl r v (e _ _ c)
 |agg a _ d=>exact .agg a d
 |bu a _ d=>exact .bu a d
 |fn g a s _ _ d t=>exact .fn g a s d t
section
variable {P:Program}{B:Tb}
def Q8{o:Nat}{g:Gh}{c:St B.D}{x:Act}{t:World}(k:Rel g o (aU B c.E) (av B c.H) x t):Cz B c:=by
 have conv:∀r v,(∃d,(av B c.H)[r]?=c5 d/\v<=d.aF)->F0 c.H r v:=λr v ⟨d,e,f⟩=>by
  obtain⟨p,a,rfl⟩:=oU e;exact⟨p,a,by rwa [e7] at f⟩
 refine⟨λu=>?_,λq d i l n e h=>?_⟩
 .have:=(k.e.at_ u).wf;rw[ep] at this;exact Tc conv this
 .have a:=(k.m.obj q _ (df e)).mem;cases j:g.β q with
  |none=>
   rw[j] at a;rw[a] at h;obtain⟨A,s,_⟩:=gw h;simp at s
  |some m=>
   obtain⟨b,z⟩:=m;rw[j] at a;obtain⟨_,cells,_,_,_,_,w⟩:=a;obtain⟨y,_,_,f⟩:=w i l n h;exact Tc conv f.wf
def DH(u:cU P B){l:Type}{r:l}{k i:Nat}{a d:St B.D}{b:List Nat}{p:lD}{j:bi B.D p.bX->Option l}(t:Ext b a d)(x:i<=a.H.length)(w:Cz B a)(s:nW B i a b p d j=c5 r){g:Gh}{n:Act}{e:World}(f:Rel g k (aU B d.E) (av B d.H) n e):
 ∃c,j c=c5 r/\Ext b a (ik B a b p c)/\∃h,Rel h k (aU B (ik B a b p c).E) (av B (ik B a b p c).H) n e/\Bml.GStep i g (av B d.H) e h (av B (ik B a b p c).H) e:=by
 obtain⟨c,q,o,h,v,z,y⟩:=UJ u t x w s f.m;exact⟨c,q,o,h,⟨v,f.e.defers,f.e.size,λm=>by
  rw[ep];refine y m _ ?_
  have:=f.e.at_ m
  rwa [ep] at this⟩,z⟩
def Ends{g:Type}(B:Tb)(e:Nat->St B.D->Option g)(r:g)(d:St B.D)(f:List Nat):fE
 | .normal=>λc b=>∃a,Ext f d a/\e 0 a=c5 r/\c=aU B a.E/\b=av B a.H
 | .ret=>λc b=>∃a,Ext f d a/\e 1 a=c5 r/\c=aU B a.E/\b=av B a.H
 | .exit h=>λc b=>∃a,Ext f d a/\e (h+2) a=c5 r/\c=aU B a.E/\b=av B a.H
 |_=>λ_ _=>False
def Aa(u:cU P B){A:Type}{r:A}{z s:Nat}{c f:St B.D}{n:List Nat}(t:Ext n c f)(y:s<=c.H.length)(v:Cz B c){g:Gh}{D:Act}{m:World}(w:Rel g z (aU B f.E) (av B f.H) D m):
 ∀{os:List (Nat×lD)} {e:Nat} {k:qM B os->Option A},inj B s c n os e f k=c5 r->
  ∃o b,k o=c5 r/\Ext n c b/\(∀{I:Type} (d:Nat->St B.D->Option I),out B c n os o d=d e b)/\∃C,Rel C z (aU B b.E) (av B b.H) D m/\Bml.GStep s g (av B f.H) m C (av B b.H) m
 |[],e,k,a=>by simp[inj] at a
 |[p],e,k,a=>by
  simp only[inj] at a;obtain⟨j,E⟩:=a8 a;clear a;obtain rfl:=beq_eq j;obtain⟨x,i,h,l⟩:=DH u t y v E w;exact⟨x,_,i,h,λd=>rfl,l⟩
 |p::q::F,e,k,a=>by
  simp only[inj] at a;cases j:fe p.1 e with
  |true=>
   rw[j] at a;obtain rfl:=beq_eq j;obtain⟨x,i,h,l⟩:=DH u t y v a w;exact⟨.inl x,_,i,h,λd=>rfl,l⟩
  |false=>
   rw[j] at a;obtain⟨o,b,i,h,l,H⟩:=Aa u t y v w (os:=q::F) (k:=λG=>k (.inr G)) a;exact⟨.inr o,b,i,h,λd=>l d,H⟩
def Bv(R:cU P B){A:Type}{r:A}{v q:Nat}{e:Code}{Q:Hn}{b:St B.D}{s:Nat->St B.D->Option A}{F:{t:Type}->(Nat->St B.D->Option t)->Option t}(X:q<=b.H.length)(u:join B q b e Q s F=c5 r)
 (G:∀{t:Type} (z:Nat->St B.D->Option t) (C:t),F z=c5 C->eT P v q e (Ends B z C b (cQ e [])) (aU B b.E) (av B b.H)):eT P v q e (Ends B s r b (cQ e [])) (aU B b.E) (av B b.H):=by
 unfold join at u
 split at u
 .exact G s r u
 .rename_i p M Z;obtain⟨E,K,H⟩:=ei.1 u;intro T S L y;have U:=Q8 y;refine Tl (G _ E K) ?_ T S L y
  intro O I D g Y x o J;have fin:∀w c,Ext (cQ e []) b c->inj B q b (cQ e []) (p::M) w c c5=c5 E->I=aU B c.E->D=av B c.H->∃a f,(Ext (cQ e []) b a/\s w a=c5 r)/\Rel f v (aU B a.E) (av B a.H) Y x/\Bml.GStep q g D x f (av B a.H) x:=λw c i j k l=>by
   subst k;subst l;obtain⟨aa,a,d,h,m,W,n,N⟩:=Aa R i X U J j;injection d with d
   subst d;exact⟨a,W,⟨h,by rw[<-m s];exact H⟩,n,N⟩
  cases O with
  |normal=>
   obtain⟨c,i,j,k,l⟩:=o;obtain⟨a,f,⟨d,h⟩,m,n⟩:=fin 0 c i j k l;exact⟨_,_,f,⟨a,d,h,rfl,rfl⟩,m,n⟩
  |ret=>
   obtain⟨c,i,j,k,l⟩:=o;obtain⟨a,f,⟨d,h⟩,m,n⟩:=fin 1 c i j k l;exact⟨_,_,f,⟨a,d,h,rfl,rfl⟩,m,n⟩
  |exit V=>
   obtain⟨c,i,j,k,l⟩:=o;obtain⟨a,f,⟨d,h⟩,m,n⟩:=fin (V+2) c i j k l;exact⟨_,_,f,⟨a,d,h,rfl,rfl⟩,m,n⟩
  |goto _=>exact o.elim
  |panic _=>exact o.elim
  |outgrown=>exact o.elim
def Ends.mono{w C:Type}{y:Nat->St B.D->Option w}{u:Nat->St B.D->Option C}{r:w}{D:C}{s x:St B.D}{A l:List Nat}(n:Ext l x s)(m:∀t,t∈A->t∈l){e:Exit}{E:Env}{H:List aO}(o:∀e a,y e a=c5 r->u e a=c5 D)(h:Ends B y r s A e E H):Ends B u D x l e E H:=by
 cases e with
 |normal=>obtain⟨a,k,c,d,j⟩:=h;exact⟨a,n.trans (k.more m),o _ _ c,d,j⟩
 |ret=>obtain⟨a,k,c,d,j⟩:=h;exact⟨a,n.trans (k.more m),o _ _ c,d,j⟩
 |exit F=>obtain⟨a,k,c,d,j⟩:=h;exact⟨a,n.trans (k.more m),o _ _ c,d,j⟩
 |goto _=>exact h.elim
 |panic _=>exact h.elim
 |outgrown=>exact h.elim
def Bh{h:Nat}:∀(g:List Oper) (e:List Nat),h∈tI g e↔(∃f,f∈g/\f.dst=c5 h)\/h∈e
 |[],e=>by simp[tI]
 |f::g,e=>by
  simp only[tI];cases i:f.dst with
  |none=>
   simp only[Bh g e,dd]
   constructor
   .rintro(⟨b,c,a⟩ |d)
    .exact .inl ⟨b,.inr c,a⟩
    .exact .inr d
   .rintro(⟨b,rfl |c,a⟩ |d)
    .rw[i] at a;cases a
    .exact .inl ⟨b,c,a⟩
    .exact .inr d
  |some j=>
   simp only[dd,Bh g e]
   constructor
   .rintro(rfl |⟨b,c,a⟩ |d)
    .exact .inl ⟨f,.inl rfl,i⟩
    .exact .inl ⟨b,.inr c,a⟩
    .exact .inr d
   .rintro(⟨b,rfl |c,a⟩ |d)
    .rw[i] at a;injection a with a;exact .inl a.symm
    .exact .inr (.inl ⟨b,c,a⟩)
    .exact .inr (.inr d)
def lV{d:Nat}:∀(e:Code) (a:List Nat),d∈cQ e a↔d∈cQ e []\/d∈a
 | .region _ f _,a=>by simp[cQ,Bh]
 | .seq c b,a=>by
  simp only[cQ];rw[lV c (cQ b a),lV b a,lV c (cQ b [])];simp only[or_assoc]
 | .cond _ c b,a=>by
  simp only[cQ];rw[lV c (cQ b a),lV b a,lV c (cQ b [])];simp only[or_assoc]
 | .block _ c,a=>lV c a
 | .loop c,a=>lV c a
 | .skip,a=>by simp[cQ]
 | .rangeFunc ..,a=>by simp[cQ]
 | .exit _,a=>by simp[cQ]
 | .scope _,a=>by simp[cQ]
 | .label _,a=>by simp[cQ]
 | .goto _,a=>by simp[cQ]
 | .ret,a=>by simp[cQ]
 | .refuse _,a=>by simp[cQ]
def PR{d:Nat}:∀{c:List Oper},Ej d c=true->∀a,a∈c->fL d a.dst=true
 |h::c,g,a,b=>by
  obtain⟨e,f⟩:=fu g;rcases dd.1 b with rfl |b
  .exact e
  .exact PR f a b
 |[],_,a,b=>by cases b
def gO(I:P.follows .mixedOrders=true)(o:cU P B){S:Lp}{aa:List (aq B)}(J:∀D,D∈aa->Fits P B D){F n:Nat}{A:List (Nat×Hn)}:
 ∀(D:Code) (p:Nat) {R:Type} (l:Nat->St B.D->Option R) (a:St B.D) (r:R),exec S B P aa n A D p l a=c5 r->gB F D=true->n<=a.H.length->eT P F n D (Ends B l r a (cQ D [])) (aU B a.E) (av B a.H)
 | .skip,p,R,l,a,r,c,_,_=>amF ⟨a,.refl _ _,c,rfl,rfl⟩
 | .ret,p,R,l,a,r,c,_,_=>apz ⟨a,.refl _ _,c,rfl,rfl⟩
 | .exit id,p,R,l,a,r,c,_,_=>V4 ⟨a,.refl _ _,c,rfl,rfl⟩
 | .label a1,p,R,l,a,r,c,_,_=>agH ⟨a,.refl _ _,c,rfl,rfl⟩
 | .region id U aE,p,R,l,a,r,c,t,k=>by
  refine Bv o k c λ{ax} u w z=>?_
  obtain⟨a6,i,am,j⟩:=qg o J z;have aD:=PR (show Ej F U.toList=true from t);have m:Ext (cQ (.region id U aE) []) a i:=Pe am λy aQ a5 t=>(Bh U.toList []).2 (.inl ⟨y,aQ,t⟩)
  rw[ft] at j;cases aE with
  |true=>
   obtain⟨ao,j⟩:=a8 j;obtain⟨af,j⟩:=a8 j;rw[J8,ft,List.reverse_reverse] at af;have:=abH (nn:=n) (id:=id) (Q:=Ends B u w a (cQ (.region id U true) [])) I am ao af aD ⟨i,m,j,rfl,rfl⟩
   rwa [hU] at this
  |false=>
   have:=Lc (id:=id) (yW (n:=n) (Q:=Ends B u w a (cQ (.region id U false) [])) am aD ⟨i,m,j,rfl,rfl⟩)
   rwa [hU] at this
 | .seq d b,p,R,l,a,r,c,t,k=>by
  refine Bv o k c λ{ax} u w z=>?_
  obtain⟨aj,ap⟩:=fu (show(bif gB F d then gB F b else false)=true from t);have M:=gO I o J d (2*p) _ a w z aj k;refine rN (M.mono λh E C e=>?_)
  have V:∀s,s∈cQ d []->s∈cQ (.seq d b) []:=λs L=>(lV d (cQ b [])).2 (.inl L)
  have al:∀s,s∈cQ b []->s∈cQ (.seq d b) []:=λs L=>(lV d (cQ b [])).2 (.inr L)
  cases h with
  |normal=>
   obtain⟨i,m,j,rfl,rfl⟩:=e;have ac:=gO I o J b (2*p+1) u i w j ap (la k m.len);exact ac.mono λh E C e=>e.mono (m.more V) al λ_ _ c=>c
  |ret=>obtain⟨i,m,j,T,N⟩:=e;exact⟨i,m.more V,j,T,N⟩
  |exit id=>obtain⟨i,m,j,T,N⟩:=e;exact⟨i,m.more V,j,T,N⟩
  |goto _=>exact e.elim
  |panic _=>exact e.elim
  |outgrown=>exact e.elim
 | .cond D d b,p,R,l,a,r,c,t,k=>by
  refine Bv o k c λ{ax} u w z=>?_
  obtain⟨aj,ap⟩:=fu (show(bif gB F d then gB F b else false)=true from t);have V:∀s,s∈cQ d []->s∈cQ (.cond D d b) []:=λs L=>(lV d (cQ b [])).2 (.inl L)
  have al:∀s,s∈cQ b []->s∈cQ (.cond D d b) []:=λs L=>(lV d (cQ b [])).2 (.inr L)
  split at z
  .rename_i a3 aM;refine adk (by rw[Bw,aM];rfl) (λh=>?_) (λh=>?_)
   .subst h;exact(gO I o J d (2*p) u a w z aj k).mono λh E C e=>e.mono (.refl _ _) V λ_ _ c=>c
   .subst h;exact(gO I o J b (2*p+1) u a w z ap k).mono λh E C e=>e.mono (.refl _ _) al λ_ _ c=>c
  .cases z
 | .block id d,p,R,l,a,r,c,t,k=>by
  refine Bv o k c λ{ax} u w z=>?_
  have M:=gO I o J d (2*p) _ a w z t k;refine Ta (M.mono λh E C e=>?_)
  cases h with
  |normal=>exact e
  |ret=>exact e
  |exit ad=>
   obtain⟨i,m,j,T,N⟩:=e;show(EY id _) (.exit ad) E C
   simp only[EY];have ah:(bif fe ad id then u 0 i else u (ad+2) i)=c5 w:=j;cases ac:fe ad id with
   |true=>rw[ac] at ah;exact⟨i,m,ah,T,N⟩
   |false=>rw[ac] at ah;exact⟨i,m,ah,T,N⟩
  |goto _=>exact e.elim
  |panic _=>exact e.elim
  |outgrown=>exact e.elim
 | .loop d,p,R,l,a,r,c,t,k=>by
  have aX:∀(ag:Nat) (a:St B.D),D8 B (λu i=>exec S B P aa n A d (2*p) u i) (λa=>match (hint A p).lp with
   |some q=>nW B n a (cQ d []) q a λX=>(S.loop (λH=>exec S B P aa n A d (2*p) (R:=bi B.D q.bX⊕qM B (hint A p).outs) (λh i=>bif fe h 0 then nW B n a (cQ d []) q i (λH=>c5 (.inl H)) else inj B n a (cQ d []) (hint A p).outs h i λy=>c5 (.inr y)) (ik B a (cQ d []) q H)) X).bind λy=>out B a (cQ d []) (hint A p).outs y l
   |none=>ea) l ag a=c5 r->n<=a.H.length->oE P F n d (Ends B l r a (cQ (.loop d) [])) (aU B a.E) (av B a.H):=by
   intro ag
   induction ag with
   |succ ag aJ=>
    intro a c k;have M:=gO I o J d (2*p) _ a r c t k;refine aiK (M.mono λh E C e=>?_)
    cases h with
    |normal=>
     obtain⟨i,m,j,rfl,rfl⟩:=e;exact(aJ i j (la k m.len)).mono λh E C e=>e.mono m (λ_ c=>c) λ_ _ c=>c
    |ret=>exact e
    |exit id=>exact e
    |goto _=>exact e.elim
    |panic _=>exact e.elim
    |outgrown=>exact e.elim
   |zero=>
    intro a c k aZ aH aR aC;have ai:=Q8 aC;simp only[D8] at c
    split at c
    .rename_i q a0;obtain⟨X,ao,aG,aO,aP,aK⟩:=DH o (.refl _ _) k ai c aC;obtain⟨y,af,aA⟩:=ei.1 ao;obtain⟨aT,az⟩:=S.ok _ _ _ af;generalize aV:(λH=>exec S B P aa n A d (2*p) (R:=bi B.D q.bX⊕qM B (hint A p).outs) (λh i=>bif fe h 0 then nW B n a (cQ d []) q i (λH=>c5 (.inl H)) else inj B n a (cQ d []) (hint A p).outs h i λy=>c5 (.inr y)) (ik B a (cQ d []) q H))=f at az;have aL:oE P F n d (Ends B l r a (cQ (.loop d) [])) (aU B (ik B a (cQ d []) q X).E) (av B (ik B a (cQ d []) q X).H):=by
      refine QG (α:=Nat×bi B.D q.bX) (λG E C=>fY f G.1 G.2=c5 y/\Ext (cQ d []) a (ik B a (cQ d []) q G.2)/\E=aU B (ik B a (cQ d []) q G.2).E/\C=av B (ik B a (cQ d []) q G.2).H) (λG=>G.1) (aT,X) ⟨az,aG,rfl,rfl⟩ ?_
      rintro⟨ar,H⟩ E C ⟨K,ae,rfl,rfl⟩;cases ar with
      |zero=>simp[fY] at K
      |succ ar=>
       simp only[fY] at K;obtain⟨v,ay,K⟩:=ei.1 K;rw[<-aV] at ay;have M:=gO I o J d (2*p) _ _ v ay t (la k ae.len);refine Tl M ?_
       intro h a4 a2 g aB aY O an;cases h with
       |normal=>
        obtain⟨i,m,j,rfl,rfl⟩:=O;obtain⟨G,x,W,Y,ab,Z⟩:=DH o (ae.trans m) k ai j an;injection x with x
        subst x;exact⟨_,_,Y,⟨(ar,G),l1 _,K,W,rfl,rfl⟩,ab,Z⟩
       |ret=>
        obtain⟨i,m,j,rfl,rfl⟩:=O;obtain⟨aw,ak,x,W,ab,Y,Z,au⟩:=Aa o (ae.trans m) k ai an j;injection x with x
        subst x;have h:aw=y:=by simpa using K
        subst h;exact⟨_,_,Y,⟨ak,W,by rw[<-ab l];exact aA,rfl,rfl⟩,Z,au⟩
       |exit id=>
        obtain⟨i,m,j,rfl,rfl⟩:=O;obtain⟨aw,ak,x,W,ab,Y,Z,au⟩:=Aa o (ae.trans m) k ai an j;injection x with x
        subst x;have h:aw=y:=by simpa using K
        subst h;exact⟨_,_,Y,⟨ak,W,by rw[<-ab l];exact aA,rfl,rfl⟩,Z,au⟩
       |goto _=>exact O.elim
       |panic _=>exact O.elim
       |outgrown=>exact O.elim
     intro aF aS;exact aL aO aH aR aP aF λh aB aN aI=>aS h aB aN (eI.trans aK aI)
    .cases c
  exact Pz (aX _ a c k)
 | .rangeFunc ..,p,R,l,a,r,c,_,_=>by simp[exec] at c
 | .scope _,p,R,l,a,r,c,_,_=>by simp[exec] at c
 | .goto _,p,R,l,a,r,c,_,_=>by simp[exec] at c
 | .refuse _,p,R,l,a,r,c,_,_=>by simp[exec] at c
end
def yR(b:Array Value):ResultVar->Sem Value
 | .tmp a=>pure (b.getD a undef)
 | .cell p a=>do loadVar a (<-asAddr (b.getD p undef))
def ND(fn:Func)(a:Array Value):results fn a=(do let vs<-fn.results.mapM (yR a);pure (if b:vs.size=1 then vs[0] else .tuple vs)):=rfl
def wM{b:Nat->Type}:Nat->List (TV b)->En b->En b
 |_,[],a=>a
 |i,v::vs,a=>wM (i+1) vs ((i,v)::a)
def Jz{e:Nat->Type}:∀(vs:List (TV e)) (i:Nat) (b:En e) (a:Nat),lk (wM i vs b) a=if i<=a then(vs[a -i]?).getD (lk b a) else lk b a
 |[],i,b,a=>by simp[wM]
 |v::vs,i,b,a=>by
  rw[wM,Jz vs (i+1)]
  by_cases f:i+1<=a
  .rw[if_pos f,if_pos (by omega),show a -i=(a - (i+1))+1 by omega,List.getElem?_cons_succ];have:fe i a=false:=by
    cases c:fe i a with
    |false=>rfl
    |true=>have:=beq_eq c;omega
   simp only[lk,this,cond_false]
  .rw[if_neg f]
   by_cases d:i=a
   .subst d;rw[if_pos (ef _),s6];simp[lk,hQ]
   .rw[if_neg (by omega)];have:fe i a=false:=by
     cases c:fe i a with
     |false=>rfl
     |true=>exact absurd (beq_eq c) d
    simp only[lk,this,cond_false]
def lY:Nat->Nat->List (Nat×CP)->Bool
 |_,0,[]=>true
 |a,b+1,p::c=>bif fe p.1 a then lY (a+1) b c else false
 |_,_,_=>false
section
variable {P:Program}{B:Tb}{R:Type}{r:R}
def H4(D:cU P B){c:St B.D}:∀{h:List ResultVar} {i:Nat} {E:En B.D} {m:En B.D->Option R},nh B P c i h E m=c5 r->
 ∃vs:List (TV B.D),vs.length=h.length/\m (wM i vs E)=c5 r/\∀g e b a,Rel g e (aU B c.E) (av B c.H) b a->∃o:List Value,(h.mapM (yR b.tmps)).run P a= .ok o a/\o.length=h.length/\∀(i:Nat) (q:TV B.D) (x:Value),vs[i]?=c5 q->o[i]?=c5 x->VR g (av B c.H) a (pv B q) x
 |[],i,E,m,f=>⟨[],rfl,f,λg e b a _=>⟨[],rfl,rfl,by simp⟩⟩
 |rv::h,i,E,m,f=>by
  have I:∃v,nh B P c (i+1) h ((i,v)::E) m=c5 r/\∀g e b a,Rel g e (aU B c.E) (av B c.H) b a->∃x,(yR b.tmps rv).run P a= .ok x a/\VR g (av B c.H) a (pv B v) x:=by
   cases rv with
   |tmp t=>
    refine⟨lk c.E t,f,λg e b a j=>⟨_,rfl,?_⟩⟩
    have:=j.e.at_ t
    rwa [ep] at this
   |cell p t=>
    simp only[nh] at f;obtain⟨v,N,w,J⟩:=PD D (x:=.tmp p) (E:=c.E) (t:=t) f;refine⟨v,w,λg e b a j=>?_⟩
    obtain⟨x,d,A⟩:=J ea 0 "" #[] c.E c.H (λx _=>Bw B c.E x) (λ_ _ _ f=>f) g e b a j;refine⟨x,?_,A⟩
    have M:b.eval (.tmp p)=b.tmps.getD p undef:=rfl;simp only[execOp,M] at d;show(do loadVar t (<-asAddr (b.tmps.getD p undef)):Sem Value).run P a= .ok x a
    generalize b.tmps.getD p undef=z at d⊢;cases z with
    |pointer C=>
     cases C with
     |none=>simp[q4,oj] at d
     |some C=>
      simp only[q4,oj,kh,m0,h7] at d;simp only[asAddr,kh,m0,h7];cases s:(loadVar t C).run P a with
      |ok y H=>
       rw[s] at d;simp only[h7] at d;injection d with n u
       injection n with n
       rw[n,u]
      |halt y H=>rw[s] at d;simp at d
    |_=>simp[q4,oj] at d
  obtain⟨v,w,n⟩:=I;obtain⟨vs,u,K,L⟩:=H4 D w;refine⟨v::vs,by simp[u],K,λg e b a j=>?_⟩
  obtain⟨x,d,A⟩:=n g e b a j;obtain⟨o,G,s,F⟩:=L g e b a j;refine⟨x::o,?_,by simp[s],λi q y l k=>?_⟩
  .rw[List.mapM_cons];simp only[kh,G,d,h7,m0]
  .match i,l,k with
   |0,l,k=>simp at l k;subst l;subst k;exact A
   |i+1,l,k=>exact F i q y (by simpa using l) (by simpa using k)
def Tk{d:Nat->Type}{c:Nat->Nat×Nat}:∀{a:List (Nat×List Nat×OP)} {q:Nat} {b:List (TV d)},(lM c q a b).1.length=a.length
 |[],_,_=>rfl
 |e::a,q,b=>by simp[lM,Tk]
def A7{p:bY}{a:bi B.D p.bX}:(cz B p a).H.length=p.dF.length:=by
 unfold cz nI;exact Tk
def GW{h:Nat->Type}{ρ:Nat->Nat×Nat}:∀{d:List (Nat×CP)} {c e:Nat} {ls:List (TV h)},lY c e d=true->∃b,b.length=e/\gR ρ d ls=fi c b
 |[],c,0,ls,_=>⟨[],rfl,rfl⟩
 |p::d,c,e+1,ls,a=>by
  obtain⟨f,g⟩:=fu a;obtain⟨b,j,i⟩:=GW (ρ:=ρ) (ls:=(hO ρ p.2 ls).2) g;refine⟨(hO ρ p.2 ls).1::b,by simp[j],?_⟩
  simp only[gR,fi,i,beq_eq f]
 |[],_,_+1,_,a=>by simp[lY] at a
 |_::_,_,0,_,a=>by simp[lY] at a
def GN{c:Nat->Type}:∀(a:List (TV c)) (b:Nat),(fi b a).map (·.2)=a
 |[],_=>rfl
 |d::a,b=>by simp[fi,GN a]
def kL(P:Program){B:Tb}(a:aq B)(c:List ResultVar)(e:Nat)(b:St B.D):Option (bi B.D a.az.bX):=bif m5 e 1 then nh B P b 0 c [] λd=>take B a.low a.az ⟨d,b.H⟩ c5 else ea
def qP{R:Type}(B:Tb)(d:Nat->St B.D->Option R)(r:R):fE
 | .normal=>λc b=>∃a,d 0 a=c5 r/\c=aU B a.E/\b=av B a.H
 | .ret=>λc b=>∃a,d 1 a=c5 r/\c=aU B a.E/\b=av B a.H
 | .exit e=>λc b=>∃a,d (e+2) a=c5 r/\c=aU B a.E/\b=av B a.H
 |_=>λ_ _=>False
def nP{R:Type}{i:Nat->St B.D->Option R}{r:R}{j:St B.D}{k:List Nat}:∀h g f,Ends B i r j k h g f->qP B i r h g f
 | .normal,_,_,⟨e,_,a,b,d⟩=>⟨e,a,b,d⟩
 | .ret,_,_,⟨e,_,a,b,d⟩=>⟨e,a,b,d⟩
 | .exit _,_,_,⟨e,_,a,b,d⟩=>⟨e,a,b,d⟩
 | .goto _,_,_,c=>c
 | .panic _,_,_,c=>c
 | .outgrown,_,_,c=>c
def ti(S:cU P B){a:aq B}{fn:Func}{code:Code}{rs:List ResultVar}(U:P.funcs[a.cO]?=c5 fn)(Q:fn.body=c5 code)(af:(fn.name== "runtime.NumGoroutine")=false)
 (ao:fn.results=rs.toArray) (ak:m5 a.na fn.ntmps=true) (ap:lY 0 rs.length a.az.dE=true) (s:∀d e,a.F d=c5 e->eT P fn.ntmps a.low code (qP B (kL P a rs) e) (aU B (cz B a.par d).E) (av B (cz B a.par d).H)):Fits P B a:=by
 refine⟨λargs m=>?_,λd e ah g m k al aw E=>?_⟩
 .simp only[callFunc,kh];have ar:(program:Sem Program).run P m= .ok P m:=rfl;rw[ar];simp only[h7,U];rw[af];simp[Q]
 .have aj:=s d e ah;have aA:k.length<=fn.ntmps:=by
   rw[al];exact e4 ak
  have aa:Rel g fn.ntmps (aU B (cz B a.par d).E) (av B (cz B a.par d).H) {tmps:=k.toArray++hP (fn.ntmps -k.toArray.size) undef,defers:=[]} m:=by
   refine⟨aw,rfl,?_,λh=>?_⟩
   .simp;omega
   .rw[ep];have:=E h;have q:(k.toArray++hP (fn.ntmps -k.toArray.size) undef).getD h undef=k.getD h undef:=by
     rw[hD,h8];rcases hI h k.length with s |s
     .simp[Array.getElem?_append,s]
     .rw[ga s];rw[Array.getElem?_append_right (by simpa using s)];rcases hI (h -k.length) (fn.ntmps -k.length) with l |l
      .simp[l]
      .simp[l]
    rw[q];exact this
  refine calls_of_wp U Q (aj g _ m aa _ ?_)
  intro q t c n;have V:∀C:Nat,C<=1->iX fn.ntmps a.low g (av B (cz B a.par d).H) m (λD X=>∃o,(bif m5 C 1 then nh B P o 0 rs [] λD=>take B a.low a.az ⟨D,o.H⟩ c5 else ea)=c5 e/\D=aU B o.E/\X=av B o.H) t c->
   t.defers=[]/\∃v,(results fn t.tmps).run P c= .ok v c/\∃N H,Ending.returned v= .returned N/\bF H (av B (cz B a.az e).H) c/\Bml.GStep a.low g (av B (cz B a.par d).H) m H (av B (cz B a.az e).H) c/\VR H (av B (cz B a.az e).H) c (pv B (kR (cz B a.az e).E)) N:=λC au A=>by
   obtain⟨aB,H1,Y,⟨o,p,rfl,rfl⟩,K,ad⟩:=A;rw[hM au] at p;obtain⟨vs,aC,an,Z⟩:=H4 S p;obtain⟨u,ag,az,ae⟩:=Z Y fn.ntmps t c K;obtain⟨x,L,J,ay,ac,am⟩:=EK S an K.m;injection L with L
   subst L;have y:∃f:List (TV B.D),f.length=rs.length/\(cz B a.az x).E=fi 0 f:=by
    unfold cz nI;exact GW ap
   obtain⟨f,G,y⟩:=y;have M:∀(i:Nat) (z:TV B.D) (v:Value),f[i]?=c5 z->u[i]?=c5 v->VR J (av B (cz B a.az x).H) c (pv B z) v:=λi z v j F=>by
    have T:i<vs.length:=by have:=c9 j;omega
    have w:=ae i _ v (c4 T) F;have l:=am i v (by
     rw[Jz,if_pos (l2 _),s5,c4 T];exact w)
    rw[y] at l;have q:=Dz f 0 i;rw[e6] at q;rw[q,j] at l;exact l
   have E:∃v,(results fn t.tmps).run P c= .ok v c/\VR J (av B (cz B a.az x).H) c (pv B (kR (cz B a.az x).E)) v:=by
    have ab:(fn.results.mapM (yR t.tmps)).run P c= .ok u.toArray c:=by
     rw[ao,Array.mapM_eq_mapM_toList];simp only[Sem.run_map,ag,h7]
    rw[ND,kh,ab,h7,y]
    by_cases w:u.length=1
    .obtain⟨d,rfl⟩:=ng.1 w;obtain⟨h,rfl⟩:=ng.1 (show f.length=1 by omega);exact⟨d,rfl,M 0 h d rfl rfl⟩
    .refine⟨.tuple u.toArray,?_,?_⟩
     .rw[m0]
      congr 1
      exact dif_neg (by simpa using w)
     .have:kR (fi 0 f)= .bu f:=by
       match f,G with
       |[],_=>rfl
       |[h],G=>simp at G;omega
       |ax::b::O,_=>exact congrArg TV.bu (GN (ax::b::O) 0)
      rw[this];refine .bu _ u (by rw[db,l3];omega) λi z v j F=>?_
      rw[db,ec] at j;cases I:f[i]? with
      |none=>rw[I] at j;cases j
      |some h=>
       rw[I] at j;injection j with j
       subst j;exact M i h v I F
   obtain⟨v,ai,W⟩:=E;exact⟨K.e.defers,v,ai,v,J,rfl,ay,ad.trans ac,W⟩
  cases q with
  |normal=>exact V 0 (by omega) n
  |ret=>exact V 1 (by omega) n
  |exit aD=>
   obtain⟨_,_,_,⟨o,p,_⟩,_⟩:=n;have p:(ea:Option (bi B.D a.az.bX))=c5 e:=p;cases p
  |goto O=>
   obtain⟨_,_,_,A,_⟩:=n;exact A.elim
  |panic a=>exact n.elim
  |outgrown=>exact n.elim
def FA(i:P.follows .mixedOrders=true)(d:cU P B){L:Lp}{e:List (aq B)}(s:∀a,a∈e->Fits P B a){a:aq B}{fn:Func}{code:Code}{rs:List ResultVar}{hs:List (Nat×Hn)}(o:P.funcs[a.cO]?=c5 fn)(k:fn.body=c5 code)(h:(fn.name== "runtime.NumGoroutine")=false)
 (q:fn.results=rs.toArray) (n:m5 a.na fn.ntmps=true) (g:gB fn.ntmps code=true) (p:m5 a.low (len a.par.dF)=true) (l:lY 0 rs.length a.az.dE=true) (m:∀b,gl L B P e a rs code hs b=a.F b):Fits P B a:=by
 refine ti d o k h q n l λb t j=>?_
 have c:=m b;rw[j] at c;have f:a.low<=(cz B a.par b).H.length:=by
  rw[A7, <-eu];exact e4 p
 exact(gO i d s code 1 _ _ _ c g f).mono nP
end
end Go.X
namespace Go.Bml
open Go Go.ChangeShapes Go.WideShapes Go.RowKit
def jG:Option Bool->List PV->PV
 |some true,p=>.agg p
 |_,[v]=>v
 |_,p=>.agg p
def OY:TypeDesc->Bool
 | .bool | .int _ | .string | .slice _ | .struct _ | .array _ _=>true
 |_=>false
inductive TP (P:Program):TypeId->List PV->Prop
 |bool (t:TypeId) (b:Bool) (h:P.underlying t=c5 .bool):TP P t [.bool b]
 |int (t:TypeId) (k:IntKind) (n:Int) (h:P.underlying t=c5 (.int k)) (hw:(s7 k n).wf=true):TP P t [.int k n]
 |str (t:TypeId) (s:ByteArray) (h:P.underlying t=c5 .string) (hs:s.size<=maxLen):TP P t [.str s]
 |slice (t e:TypeId) (ess:List (List PV)) (h:P.underlying t=c5 (.slice e)) (hl:ess.length<=maxLen) (he:∀p,p∈ess->p.length=P.cellsOf e) (hp:∀p,p∈ess->TP P e p):TP P t [.vs (P.cellsOf e) (ess.map (jG (dP P e)))]
 |struct (t:TypeId) (fs:Array Field) (ps:List (List PV)) (h:P.underlying t=c5 (.struct fs)) (hl:ps.length=fs.size) (hp:∀(i:Nat) (f:Field) (p:List PV),fs[i]?=c5 f->ps[i]?=c5 p->TP P f.type p):TP P t ps.flatten
 |array (t e:TypeId) (n:Nat) (ps:List (List PV)) (h:P.underlying t=c5 (.array n e)) (hl:ps.length=n) (hp:∀p,p∈ps->TP P e p):TP P t ps.flatten
 |other (t:TypeId) (d:TypeDesc) (h:P.underlying t=c5 d) (hd:OY d=false):TP P t [.any]
def jE(e:Nat->Prop)(w:World)(c:List PV)(d:List Value):Prop:=
 c.length=d.length/\∀(i:Nat) (b:PV) (a:Value),c[i]?=c5 b->d[i]?=c5 a->VI e w b a/\a.oneCell'=true
def jE.one{F:Nat->Prop}{w:World}{c:PV}{x:Value}(h:VI F w c x)(j:x.oneCell'=true):jE F w [c] [x]:=by
 refine⟨rfl,λi a b d e=>?_⟩
 match i,d,e with
 |0,d,e=>simp at d e;subst d;subst e;exact⟨h,j⟩
 |i+1,d,e=>simp at d
def jE.append{F:Nat->Prop}{w:World}{p q:List PV}{c d:List Value}(h:jE F w p c)(k:jE F w q d):jE F w (p++q) (c++d):=by
 refine⟨by simp[h.1,k.1],λi a b j e=>?_⟩
 by_cases hi:i<p.length
 .rw[dt hi] at j;rw[dt (by have:=h.1;omega)] at e;exact h.2 i a b j e
 .rw[dk (by omega)] at j;rw[dk (by have:=h.1;omega)] at e;rw[<-h.1] at e;exact k.2 _ a b j e
def jE.flatten{F:Nat->Prop}{w:World}:∀(d:List (List PV)) (e:List (List Value)),d.length=e.length->(∀(i:Nat) (p:List PV) (c:List Value),d[i]?=c5 p->e[i]?=c5 c->jE F w p c)->jE F w d.flatten e.flatten
 |[],[],_,_=>⟨rfl,by simp⟩
 |[],_::_,h,_=>by simp at h
 |_::_,[],h,_=>by simp at h
 |p::d,c::e,h,j=>by
  rw[kl,kl];exact(j 0 p c rfl rfl).append (jE.flatten d e (by simpa using h) λi a b l k=>j (i+1) a b (by simpa using l) (by simpa using k))
def w4:Nat->List (Nat×Nat)->Nat->Bool
 |a,[],b=>fe a b
 |a,(c,d)::r,b=>fe c a&&w4 (a+d) r b
def Ry(c:List Value):∀(d:List (Nat×Nat)) (b:Nat),w4 b d c.length=true->c.drop b=(d.map λp=>(c.drop p.1).take p.2).flatten
 |[],b,a=>by
  have:=l0 a;simp[this]
 |(f,e)::d,b,a=>by
  simp only[w4,j2] at a;have g:=l0 a.1;subst g;rw[hz,kl, <-Ry c d (f+e) a.2];rw[<-r3,gx]
def xA(P:Program):Bool:=(gv P.types.size).all λb=>
 match P.underlying b with
 |some (.struct c)=>w4 0 (c.toList.map λf=>(f.offset,P.cellsOf f.type)) (P.cellsOf b)&&c.toList.all λf=>j8 f.type P.types.size
 |some (.array d a)=>fe (d*P.cellsOf a) (P.cellsOf b)&&j8 a P.types.size
 |some (.slice a)=>j8 0 (P.cellsOf a)&&j8 a P.types.size
 |_=>true
def Gj{P:Program}(h:xA P=true){b:TypeId}(i:b<P.types.size){d:TypeDesc}(j:P.underlying b=c5 d):(match d with
 | .struct c=>w4 0 (c.toList.map λf=>(f.offset,P.cellsOf f.type)) (P.cellsOf b)=true/\∀f,f∈c->f.type<P.types.size
 | .array e a=>e*P.cellsOf a=P.cellsOf b/\a<P.types.size
 | .slice a=>0<P.cellsOf a/\a<P.types.size
 |_=>True):=by
 have:=n0.1 h b (hL.2 i);rw[j] at this;cases d with
 |struct c=>
  simp only[j2] at this;exact⟨this.1,λf g=>e4 (n0.1 this.2 f (hX.2 g))⟩
 |array e a=>
  simp only[j2] at this;exact⟨l0 this.1,e4 this.2⟩
 |slice a=>
  simp only[j2] at this;exact⟨e4 this.1,e4 this.2⟩
 |_=>trivial
def Tx{P:Program}{c:TypeId}{p:List PV}(e:¬dP P c=c5 true)(a:TP P c p):∃v,p=[v]/\v.cells=[v]:=by
 cases a with
 |bool _ b a=>exact⟨_,rfl,rfl⟩
 |int _ k i a m=>exact⟨_,rfl,rfl⟩
 |str _ l a s=>exact⟨_,rfl,rfl⟩
 |slice _ g o a f j d=>exact⟨_,rfl,rfl⟩
 |struct _ n h a f d=>exact absurd (by simp[dP,a]) e
 |array _ g i h a f d=>exact absurd (by simp[dP,a]) e
 |other _ q a r=>exact⟨_,rfl,rfl⟩
def Vn{P:Program}{a:TypeId}{p:List PV}(e:TP P a p):(jG (dP P a) p).cells=p:=by
 by_cases c:dP P a=c5 true
 .rw[c];rfl
 .obtain⟨v,rfl,d⟩:=Tx c e;generalize dP P a=f at c;cases f with
  |none=>exact d
  |some b=>cases b with
   |false=>exact d
   |true=>exact absurd rfl c
section
variable {H:Type}{enc:TypeId×Value->H}{P:Program}{w:World}{base:Nat}{spare:Nat->Bool}{held:Bool}
def abB(X:xA P=true):∀(z:Nat) (o:TypeId) (r:List Value) (ab:DataW H×List MemPlace),o<P.types.size->o1 enc P w base spare held z o r=c5 ab->
 ∃C,TP P o C/\jE (λb=>b<w.heap.size) w C r:=by
 intro z
 induction z using o7 with
 |_ z V=>
  intro o r ab W m;cases k:P.underlying o with
  |none=>
   cases z with
   |zero=>simp[o1] at m
   |succ g=>simp[o1,k] at m
  |some S=>
   have other:OY S=false->(∃v,r=[v]/\v.oneCell'=true)->∃C,TP P o C/\jE (λb=>b<w.heap.size) w C r:=by
    rintro af ⟨v,rfl,T⟩;exact⟨[.any],.other o S k af,.one (.any v) T⟩
   cases S with
   |bool=>
    obtain⟨b,rfl,_⟩:=DataW.trod_bool k m;exact⟨[.bool b],.bool o b k,.one (.bool b) rfl⟩
   |int n=>
    obtain⟨g,rfl,_,al⟩:=DataW.trod_int k m;exact⟨[.int n g],.int o n g k al,.one (.int n g) rfl⟩
   |string=>
    obtain⟨N,rfl,_,ah⟩:=DataW.trod_string k m;exact⟨[.str N],.str o N k ah,.one (.str N) rfl⟩
   |slice a=>
    obtain⟨aw,Q⟩:=Gj X W k;rcases DataW.trod_slice k m with⟨rfl,_⟩ |⟨M,len,cap,rn,av,g,rfl,rfl,_,_,ae,az,aA,E,_,_⟩
    .exact⟨[.vs (P.cellsOf a) (([]:List (List PV)).map (jG (dP P a)))],.slice o a [] k (l2 _) (by simp) (by simp),.one (.eX _ _ _) rfl⟩
    .have B:∀i:Nat,∃p:List PV,i<len->TP P a p/\p.length=P.cellsOf a/\∀(d:Nat) (h:PV),p[d]?=c5 h->∃y,w.cell? (M.add (i*P.cellsOf a+d))=c5 y/\VI (λb=>b<w.heap.size) w h y/\y.oneCell'=true:=λi=>by
      by_cases c:i<len
      .have q:=E i c;rw[c4 (by omega)] at q;cases e:w.cells? base (M.add (i*P.cellsOf a)) (P.cellsOf a) with
       |none=>simp[e] at q
       |some O=>
        simp[e] at q;obtain⟨p,D,x⟩:=V g (by omega) a O _ Q q;obtain⟨_,G,ai⟩:=World.cells?_some e;refine⟨p,λ_=>⟨D,x.1.trans G,λd h L=>?_⟩⟩
        have Z:d<O.length:=by
         have:=(e0.1 L).1;have:=x.1;omega
        refine⟨O[d],?_,x.2 d h _ L (c4 Z)⟩
        rw[<-Go.Deep.add_add,ai d (by omega),c4 Z]
      .exact⟨[],λm=>absurd m c⟩
     obtain⟨f,j⟩:=kd B;refine⟨[.vs (P.cellsOf a) (((gv len).map f).map (jG (dP P a)))],.slice o a _ k (by simp;omega) ?_ ?_,?_⟩
     .intro p l;obtain⟨i,c,rfl⟩:=ey.1 l;exact(j i (hL.1 c)).2.1
     .intro p l;obtain⟨i,c,rfl⟩:=ey.1 l;exact(j i (hL.1 c)).1
     .by_cases h0:len=0
      .subst h0;exact .one (.eX _ _ _) rfl
      .have ac:∀i,i<len->(jG (dP P a) (f i)).cells=f i:=λi c=>Vn (j i c).1
       have aq:∀i d h,abk (((gv len).map f).map (jG (dP P a))) i d=c5 h->i<len/\(f i)[d]?=c5 h:=λi d h e=>by
        unfold abk at e
        by_cases c:i<len
        .rw[ec,ec,ie c] at e;simp only[l4,my,ac i c] at e;exact⟨c,e⟩
        .rw[ga (by simp;omega)] at e;simp at e
       have aa:M.spot=ea:=by
        obtain⟨_,am,R⟩:=j 0 (by omega);obtain⟨y,s,_⟩:=R 0 _ (c4 (by omega));simp only[s8,hS] at s;rw[Addr.add_zero'] at s;exact World.cell?_spot s
       obtain⟨b,A,ax⟩:=M;simp only at aa;subst aa;have Y:(((gv len).map f).map (jG (dP P a))).length=len:=by simp
       have aj:b<w.heap.size:=by
        obtain⟨_,am,R⟩:=j 0 (by omega);obtain⟨y,s,_⟩:=R 0 _ (c4 (by omega));rw[sa] at s;exact World.block_lt_of_cell? w _ s
       have U:∀i d h,abk (((gv len).map f).map (jG (dP P a))) i d=c5 h->w.cell? ⟨b,A+(i*P.cellsOf a+d),ea⟩=c5 ((w.cell? ⟨b,A+(i*P.cellsOf a+d),ea⟩).getD undef)/\((w.cell? ⟨b,A+(i*P.cellsOf a+d),ea⟩).getD undef).oneCell'=true/\VI (λb=>b<w.heap.size) w h ((w.cell? ⟨b,A+(i*P.cellsOf a+d),ea⟩).getD undef):=λi d h e=>by
        obtain⟨c,L⟩:=aq i d h e;obtain⟨y,s,T,q⟩:=(j i c).2.2 d h L;rw[sa] at s;rw[s];exact⟨rfl,q,T⟩
       have:=VI.vs (F:=λb=>b<w.heap.size) (w:=w) (P.cellsOf a) (((gv len).map f).map (jG (dP P a))) b A cap (λi d=>(w.cell? ⟨b,A+(i*P.cellsOf a+d),ea⟩).getD undef) (by rw[Y];exact ae) aj
        (λi ay I=>by
         have c:i<len:=by
          have:=(e0.1 I).1;simpa using this
         rw[ec,ec,ie c] at I;simp at I;subst I;rw[ac i c];exact(j i c).2.1)
        (λi d h e=>(U i d h e).1) (λi d h e=>(U i d h e).2.1) (λi d h e=>(U i d h e).2.2)
       rw[Y] at this;exact .one this rfl
   |struct u=>
    obtain⟨an,g,rfl,_,G,ad,E⟩:=DataW.trod_struct k m;obtain⟨K,ak⟩:=Gj X W k;rw[<-G] at K;have J:=Ry r _ 0 K;rw[m2,n2] at J;have B:∀i:Nat,∃p:List PV,∀f,u[i]?=c5 f->TP P f.type p/\jE (λb=>b<w.heap.size) w p ((r.drop f.offset).take (P.cellsOf f.type)):=λi=>by
     by_cases c:i<u.size
     .have q:=E i u[i] (h9 c);rw[c4 (by omega)] at q;obtain⟨p,D,x⟩:=V g (by omega) _ _ _ (ak _ (q2 c)) q;exact⟨p,λf j=>by rw[h9 c] at j;injection j with j;subst j;exact⟨D,x⟩⟩
     .exact⟨[],λf j=>by rw[j4 (by omega)] at j;cases j⟩
    obtain⟨f,j⟩:=kd B;refine⟨((gv u.size).map f).flatten,.struct o u _ k (by simp) λi ao p c l=>?_,?_⟩
    .have t:i<u.size:=(Array.getElem?_eq_some_iff.1 c).1;rw[ec,ie t] at l;simp at l;subst l;exact(j i ao c).1
    .rw[J];refine jE.flatten _ _ (by simp) λi p h l e=>?_
     have t:i<u.size:=by
      have:=(e0.1 l).1;simpa using this
     rw[ec,ie t] at l;simp at l;subst l;rw[ec,j6,h9 t] at e;simp at e;subst e;exact(j i _ (h9 t)).2
   |array g a=>
    obtain⟨an,ap,rfl,_,G,ad,E⟩:=DataW.trod_array k m;obtain⟨K,Q⟩:=Gj X W k;have J:r=((gv g).map λi=>(r.drop (i*P.cellsOf a)).take (P.cellsOf a)).flatten:=by
     have ar:∀n,n<=g->r.drop ((g -n)*P.cellsOf a)=((o9 (g -n) n).map λi=>(r.drop (i*P.cellsOf a)).take (P.cellsOf a)).flatten:=by
      intro n
      induction n with
      |zero=>
       intro _;simp[K, <-G]
      |succ n ag=>
       intro au;rw[q7,hz,kl];have:=ag (by omega);rw[show g - (n+1)+1=g -n by omega, <-this];rw[show(g -n)*P.cellsOf a=(g - (n+1))*P.cellsOf a+P.cellsOf a by rw[<-Nat.succ_mul];congr 1;omega];rw[<-r3,gx]
     have:=ar g (ef _);rw[s6,s8,m2, <-List.range_eq_range'] at this;exact this
    have B:∀i:Nat,∃p:List PV,i<g->TP P a p/\jE (λb=>b<w.heap.size) w p ((r.drop (i*P.cellsOf a)).take (P.cellsOf a)):=λi=>by
     by_cases c:i<g
     .have q:=E i c;rw[c4 (by omega)] at q;obtain⟨p,D,x⟩:=V ap (by omega) _ _ _ Q q;exact⟨p,λ_=>⟨D,x⟩⟩
     .exact⟨[],λm=>absurd m c⟩
    obtain⟨f,j⟩:=kd B;refine⟨((gv g).map f).flatten,.array o a g _ k (by simp) λp l=>?_,?_⟩
    .obtain⟨i,c,rfl⟩:=ey.1 l;exact(j i (hL.1 c)).1
    .rw[J];refine jE.flatten _ _ (by simp) λi p h l e=>?_
     have t:i<g:=by
      have:=(e0.1 l).1;simpa using this
     rw[ec,ie t] at l e;simp at l e;subst l;subst e;exact(j i t).2
   |_=>
    refine other rfl ?_
    cases z with
    |zero=>simp[o1] at m
    |succ g=>
     simp only[o1,k] at m
     first |(cases m;done) |(split at m <;> first |exact⟨_,rfl,rfl⟩ |(cases m;done) |(exfalso;simp_all;done))
def PM{e:World}{r:Reach}{b:Nat}{c:TypeId}{v:Value}(a:sn P e r b c v):v.cells.toList=[v]:=by
 unfold sn Cell.ok at a;generalize P.underlying c=f at a;cases v <;> first |rfl |skip
 all_goals
  cases f with
  |none=>exact a.elim
  |some d=>cases d <;> exact False.elim a
def NL(E:xA P=true){r:Reach}{U:Nat}:∀(k:List TypeId) (vs:List Value) (y:List (DataW H)) (C:List MemPlace),mx enc P w base spare held k vs y C->(∀a,a∈k->a<P.types.size)->
 (∀(t:Nat) a v,k[t]?=c5 a->vs[t]?=c5 v->q5 P w r U a v)->
 ∃m:List PV,m.length=vs.length/\vs.length=k.length/\(∀(i:Nat) (a:TypeId) (e:PV),k[i]?=c5 a->m[i]?=c5 e->∃p,TP P a p/\e=jG (dP P a) p)/\∀(i:Nat) (e:PV) (l:Value),m[i]?=c5 e->vs[i]?=c5 l->VI (λb=>b<w.heap.size) w e l
 |[],[],[],_,_,_,_=>⟨[],rfl,rfl,by simp,by simp⟩
 |[],[],_::_,_,d,_,_=>d.elim
 |[],_::_,[],_,d,_,_=>d.elim
 |[],_::_,_::_,_,d,_,_=>d.elim
 |_::_,[],[],_,d,_,_=>d.elim
 |_::_,[],_::_,_,d,_,_=>d.elim
 |_::_,_::_,[],_,d,_,_=>d.elim
 |a::k,v::vs,X::y,C,d,D,A=>by
  obtain⟨p,q,⟨R,J⟩,G,_⟩:=d;obtain⟨m,Q,L,T,V⟩:=NL E k vs y q G (λa g=>D a (by simp[g])) λt a v g N=>A (t+1) a v (by simpa using g) (by simpa using N)
  obtain⟨x,B,s⟩:=abB E R a _ _ (D a (by simp)) J;have j:=A 0 a v rfl rfl;refine⟨jG (dP P a) x::m,by simp[Q],by simp[L],λi K e g c=>?_,λi e l c h=>?_⟩
  .match i,g,c with
   |0,g,c=>simp at g c;subst g;subst c;exact⟨x,B,rfl⟩
   |i+1,g,c=>exact T i K e (by simpa using g) (by simpa using c)
  .match i,c,h with
   |0,c,h=>
    simp at c h;subst c;subst h;unfold q5 at j
    by_cases f:dP P a=c5 true
    .have:∃n,v= .agg n:=by
      unfold dP at f;cases o:P.underlying a with
      |none=>simp[o] at f
      |some u=>
       rw[o] at f j;cases u <;> simp at f <;> (obtain⟨n,M,_⟩:=j;exact⟨n,M⟩)
     obtain⟨n,rfl⟩:=this;rw[f];have:=VI.agg (F:=λb=>b<w.heap.size) (w:=w) x n.toList (by simpa[sp] using s.1) λi e l c h=>(s.2 i e l c (by simpa[sp] using h)).1
     simpa[jG] using this
    .obtain⟨z,rfl,W⟩:=Tx f B;have Y:=s.1;have I:jG (dP P a) [z]=z:=by
      generalize dP P a=S at f;cases S with
      |none=>rfl
      |some b=>cases b with
       |false=>rfl
       |true=>exact absurd rfl f
     rw[I];have O:v.cells.toList=[v]:=by
      unfold dP at f;cases o:P.underlying a with
      |none=>rw[o] at j;exact PM j
      |some u=>
       rw[o] at f j;cases u <;> first |exact PM j |(exfalso;simp at f;done)
     exact(s.2 0 z v rfl (by rw[O];rfl)).1
   |i+1,c,h=>exact V i e l (by simpa using c) (by simpa using h)
end
end Go.Bml
namespace Go.X
open Go Go.Aml Go.Bml Go.ChangeShapes Go.WideShapes Go.RowKit Go.ChangeAt
def Typed(P:Program)(ts:List TypeId)(pcs:List PV):Prop:=
 pcs.length=ts.length/\∀(i:Nat) (t:TypeId) (c:PV),ts[i]?=c5 t->pcs[i]?=c5 c->∃p,TP P t p/\c=jG (dP P t) p
def G8(P:Program){B:Tb}(c:aq B)(ts:List TypeId):Prop:=
 ∀pcs,Typed P ts pcs->∃x y,c.F x=c5 y/\(cz B c.par x).H=[]/\(∀t,pv B (lk (cz B c.par x).E t)=pcs.getD t .any)/\pv B (kR (cz B c.az y).E)= .bool true
section
variable {H:Type}{enc:TypeId×Value->H}{P:Program}{B:Tb}{c:aq B}
def aqj{args:Array Value}{W:World}{ts:List TypeId}{ds:List (DataW H)}{ps:List MemPlace}{base:Nat}(hT:xA P=true)(hA:mx enc P W 0 (λ_=>true) true ts args.toList ds ps)(hlt:∀t,t∈ts->t<P.types.size)
 (hok:∀(j:Nat) t v,ts[j]?=c5 t->args.toList[j]?=c5 v->q5 P W .any base t v) (hna:c.na=ts.length) (hf:Fits P B c) (hc:G8 P c ts):
 Calls P c.cO args W λe w'=>e= .returned (.bool true)/\Below W.heap.size W w':=by
 obtain⟨pcs,k1,k2,k3,k4⟩:=NL hT ts args.toList ds ps hA hlt hok;obtain⟨x,y,hF,hH,hE,hR⟩:=hc pcs ⟨k1.trans k2,k3⟩;have h:=hf.calls x y hF ⟨λb=>b<W.heap.size,λ_=>ea⟩ W args.toList (by rw[hna,k2])
  (by
   rw[hH];exact⟨λb h=>h,λr r' b C C' h=>by simp at h,λr b C h=>by simp at h,λr o h=>by simp[av] at h⟩)
  (λt=>by
   rw[hE,hH]
   by_cases ht:t<pcs.length
   .have ht2:t<args.toList.length:=by omega
    rw[h8,h8,c4 ht,c4 ht2];exact .aW (k4 t _ _ (c4 ht) (c4 ht2))
   .rw[h8,ga (by omega)];exact .aW (.any _))
 rw[hU] at h;refine Calls.mono h λe w' hh=>?_
 obtain⟨v,g',he,_,hst,hv⟩:=hh;rw[hR] at hv;have hb:=hv.n5;rw[he,hb];refine⟨rfl,hst.os,hst.tape,hst.output,hst.size,λk hk=>hst.jh k hk⟩
def OZ(hl:laidOutB P=true){W W':World}(hb:Below W.heap.size W W'):∀(ts:List TypeId) (vs:List Value) (ds:List (DataW H)) (ps:List MemPlace),(∀t,t∈ts->P.readableRec t=true/\t<P.types.size)->mx enc P W 0 (λ_=>true) true ts vs ds ps->
 mx enc P W' 0 (λb=>c3 (b<W.heap.size)) true ts vs ds ps/\ds.length=ts.length
 |[],[],[],_,_,h=>⟨h,rfl⟩
 |[],[],_::_,_,_,h=>h.elim
 |[],_::_,[],_,_,h=>h.elim
 |[],_::_,_::_,_,_,h=>h.elim
 |_::_,[],[],_,_,h=>h.elim
 |_::_,[],_::_,_,_,h=>h.elim
 |_::_,_::_,[],_,_,h=>h.elim
 |t::ts,v::vs,d::ds,ps,hr,h=>by
  obtain⟨p,q,h1,h2,he⟩:=h;have hx:∀x∈p,x.block<W.heap.size:=by obtain⟨m,hm⟩:=h1;exact DataW.trod_lt m _ _ _ hm
  obtain⟨i1,i2⟩:=OZ hl hb ts vs ds q (λt ht=>hr t (by simp[ht])) h2;exact⟨⟨p,q,Below.trod hl (hr t (by simp)).1 (hr t (by simp)).2 h1 hb hx,i1,he⟩,by simp[i2]⟩
def ahF{C:Checked}{c:aq B}{os:Os}{fn:Func}{s:ChangeSpec}{conds:List PathCond}{tb:TypeId}(own:ownKnob C.prog.godebug=ea)(started:os.Started)(noInit:C.prog.inits.idxOf? c.cO=ea)(hfn:C.prog.funcs[c.cO]?=c5 fn)
 (witness:∃(w:World) (tape:Tape) (i:Input),w.os=os/\(w.forCall tape i).Shaped C.prog/\i.vars=[]/\Input.okWide C.prog (w.forCall tape i) .any w.heap.size c.cO i/\
  s.pre6 enc C.prog fn conds false (w.forCall tape i).memory i.args/\({}:Assume).holds C.prog (lone (Frame.enter C.prog c.cO i.args .normal) [] (w.forCall tape i)))
 (hT:xA C.prog=true) (hl:laidOutB C.prog=true) (eZ:fn.params.toList.all (λt=>C.prog.readableRec t&&j8 t C.prog.types.size)=true) (hvars:s.vars=[]) (hres:fn.resultTypes=#[tb]) (htb:C.prog.underlying tb=c5 .bool)
 (hs:∀ds:List (DataW H),ds.length=fn.params.toList.length->s.fn H ds={results:=[.lit (.bool true)],args:=ds}) (hna:c.na=fn.params.toList.length) (hf:Fits C.prog B c) (hc:G8 C.prog c fn.params.toList):
 ReturnsInHanded {} C os c.cO .any (s.pre6 enc C.prog fn conds false) (s.post enc C.prog fn false true false false):=by
 have hrd':∀t,t∈fn.params.toList->C.prog.readableRec t=true/\t<C.prog.types.size:=λt ht=>by
  have:=(n0.1 eZ) t ht;rw[j2] at this;exact⟨this.1,e4 this.2⟩
 refine returnsInHanded_of_change own started noInit hfn witness ?_
 intro W base args ds gs before hval hW hcnd _;have hW':=hW;obtain⟨p,q,hA,hV,rfl,hfz,hnd⟩:=hW;rw[hvars] at hV;obtain⟨rfl,rfl⟩:=trodVars_none hV;refine(aqj (base:=base) hT hA (λt ht=>(hrd' t ht).2) (λj t v ht hv=>hval j t v (by simpa using ht) (by simpa using hv)) hna hf hc).mono λe W' ⟨he,hZ⟩=>?_
 subst he;obtain⟨b1,b2⟩:=OZ hl hZ fn.params.toList args.toList ds p hrd' hA;have hsd:s.fn H (ds++[])={results:=[.lit (.bool true)],args:=ds}:=by rw[ft];exact hs ds b2
 refine⟨_,rfl,ds,[],_,[],p,[],hW',?_,?_,?_,hZ.frame _,λh=>by cases h⟩
 .rw[hsd,hres];exact trodAll_mk1 (shut_bool htb _)
 .rw[hsd];exact b1
 .rw[hsd,hvars];rfl
end
def ahG{h:Program}{g:TypeId}{e:IntKind}{p:List PV}(c:h.underlying g=c5 (.int e))(a:TP h g p):∃d:Int,p=[.int e d]/\(s7 e d).wf=true:=by
 cases a with
 |int _ u d a k=>rw[c] at a;cases a;exact⟨d,rfl,k⟩
 |bool _ b a=>rw[c] at a;cases a
 |str _ n a s=>rw[c] at a;cases a
 |slice _ l q a f t i=>rw[c] at a;cases a
 |struct _ o m a f i=>rw[c] at a;cases a
 |array _ l d m a f i=>rw[c] at a;cases a
 |other _ r a j=>rw[c] at a;cases a;cases j
def PX{d:Program}{c:TypeId}{f:IntKind}(i:d.underlying c=c5 (.int f))(j:dP d c=c5 false):∀a:List (List PV),(∀p,p∈a->TP d c p)->∃b:List Int,a.map (jG (dP d c))=b.map (.int f)/\b.length=a.length/\∀e,e∈b->(s7 f e).wf=true
 |[],_=>⟨[],rfl,rfl,by simp⟩
 |p::a,h=>by
  obtain⟨b,l,m,o⟩:=PX i j a λq k=>h q (c7 _ k)
  obtain⟨r,rfl,n⟩:=ahG i (h p (j3 ..));refine⟨r::b,?_,by simp[m],λe g=>?_⟩
  .rw[hz,hz,l,j];rfl
  .rcases dd.1 g with rfl |g
   .exact n
   .exact o e g
def aeB{f:Program}{i e:TypeId}{k:IntKind}{p:List PV}(c:f.underlying i=c5 (.slice e))(q:f.underlying e=c5 (.int k))(r:dP f e=c5 false)(u:f.cellsOf e=1)(a:TP f i p):
 ∃d:List Int,p=[.vs 1 (d.map (.int k))]/\d.length<=maxLen/\∀j,j∈d->(s7 k j).wf=true:=by
 cases a with
 |int _ D n a C=>rw[c] at a;cases a
 |bool _ b a=>rw[c] at a;cases a
 |str _ w a z=>rw[c] at a;cases a
 |slice _ A l a h B g=>
  rw[c] at a;cases a;obtain⟨d,o,v,t⟩:=PX q r l g;exact⟨d,by rw[o,u],by omega,t⟩
 |struct _ x s a h g=>rw[c] at a;cases a
 |array _ e n s a h g=>rw[c] at a;cases a
 |other _ y a m=>rw[c] at a;cases a;cases m
def ajJ{c:Program}{b:TypeId}{f:List TypeId}{e:List PV}(l:Typed c (b::f) e):∃p q,TP c b p/\e=jG (dP c b) p::q/\Typed c f q:=by
 obtain⟨d,a⟩:=l
 match e,d,a with
 |h::q,d,a=>
  obtain⟨p,m,rfl⟩:=a 0 b h rfl rfl;exact⟨p,q,m,rfl,by simpa using d,λi g k n j=>a (i+1) g k (by simpa using n) (by simpa using j)⟩
def adH{c:Program}{a:List PV}(b:Typed c [] a):a=[]:=List.length_eq_zero_iff.1 b.1
end Go.X
namespace Go.X
open Go Go.Aml Go.Bml
def anZ:Option Nat->PV
 |none=>.dB
 |some f=>.fn f [] []
def mM(a:Int):List Int->List Int
 |[]=>[a]
 |b::c=>bif c3 (a<=b) then a::b::c else b::mM a c
def dQ:List Int->List Int
 |[]=>[]
 |b::a=>mM b (dQ a)
def rC(a:List Int):Option (List Int):=bif m5 a.length 140737488355328 then c5 (dQ a) else ea
def Ct(a:Nat)(n:Int):Option (List Int):=bif c3 (0<=n) then(gP a (0:Int) n).bind λ_=>c5 [] else ea
def B2{b:Type}(d:Nat)(a:List b)(i:Int)(c:List b):Option (List b):=if 0<=i/\i<=(a.length:Int)/\c.length=1 then(bj d a c).bind λ_=>c5 (a.take i.toNat++c++a.drop i.toNat) else ea
universe u
def px{a:Type u}:List (List a)->Nat->List a
 |[],_=>[]
 |c::_,0=>c
 |_::b,n+1=>px b n
def Br:List (Nat×Ty)->Nat->Ty
 |[],_=>⟨Empty,λ_=>.any⟩
 |p::r,n=>bif fe p.1 n then p.2 else Br r n
structure xz where
 sz:Nat
 fl:Bool
 el:Nat
def Eu:List (Nat×xz)->Nat->xz
 |[],_=>⟨1,false,0⟩
 |p::r,n=>bif fe p.1 n then p.2 else Eu r n
structure Ev (D:Nat->Type) (n:Nat) where
 tv:D n->TV D
 up:TV D->Option (D n)
def ev0(D:Nat->Type)(n:Nat):Ev D n:=⟨λ_=>.any,λ_=>ea⟩
def Jq(D:Nat->Type):List (Σ n,Ev D n)->(n:Nat)->Ev D n
 |[],n=>ev0 D n
 |p::r,n=>if a:p.1=n then a▸p.2 else Jq D r n
section
variable (D:Nat->Type)
def dA{b a:Type}(c:b=a)(d:b):a:=cast c d
def fA{n:Nat}(a:IntKind)(b:D n=Int):Ev D n:=⟨λc=>.int a (dA b c),λ| .int e d=>bif fV e a then c5 (dA b.symm d) else ea |_=>ea⟩
def nE{n:Nat}(a:D n=Bool):Ev D n:=⟨λc=>.bool (dA a c),λ| .bool b=>c5 (dA a.symm b) |_=>ea⟩
def iR{n:Nat}(a:D n=Option Nat):Ev D n:=⟨λc=>.jC (dA a c),λ| .jC b=>c5 (dA a.symm b) | .dB=>c5 (dA a.symm ea) | .fn f [] []=>c5 (dA a.symm (c5 f)) |_=>ea⟩
def bJ{n:Nat}(b:Nat)(a:D n=List (D b)):Ev D n:=⟨λf=>.row b (dA a f),λ| .row c d=>if e:c=b then c5 (dA a.symm (e▸d)) else ea | .bg=>c5 (dA a.symm []) | .z0=>c5 (dA a.symm []) |_=>ea⟩
def uO(a:Nat):List (TV D)->Option (List (List (D a)))
 |[]=>c5 []
 | .row d b::e=>if c:d=a then(match uO a e with |some r=>c5 ((c▸b)::r) |none=>ea) else ea
 |_=>ea
def pM{n:Nat}(b d:Nat)(a:D n=List (D b))(g:D b=List (D d)):TV D->Option (D n)
 | .row c f=>if h:c=b then c5 (dA a.symm (h▸f)) else ea
 | .bg=>c5 (dA a.symm [])
 | .z0=>c5 (dA a.symm [])
 | .rv c e=>bif fe c b then(match uO D d e with
  |some i=>c5 (dA a.symm (i.map (dA g.symm)))
  |none=>ea) else ea
 |_=>ea
def lx{n:Nat}(a b:Nat)(c:D n=List (D a))(d:D a=List (D b)):Ev D n:=⟨λe=>.row a (dA c e),pM D a b c d⟩
variable (lf:(n:Nat)->Ev D n)
def E6:(ns:List Nat)->bi D ns->List (TV D)
 |[],_=>[]
 |[n],a=>[(lf n).tv a]
 |n::b::ns,a=>(lf n).tv a.1::E6 (b::ns) a.2
def CL{a b:Type}:Option a->Option b->Option (a×b)
 |some d,c5 c=>c5 (d,c)
 |_,_=>ea
def aid{c e:Type}{a:Option c}{b:Option e}{p:c×e}(d:CL a b=c5 p):a=c5 p.1/\b=c5 p.2:=by
 cases a <;> cases b <;> simp[CL] at d
 subst d;exact⟨rfl,rfl⟩
def Au:(ns:List Nat)->List (TV D)->Option (bi D ns)
 |[],[]=>c5 ()
 |[n],[a]=>(lf n).up a
 |n::c::ns,a::b=>CL ((lf n).up a) (Au (c::ns) b)
 |_,_=>ea
def cw{n:Nat}{a:Type}(ns:List Nat)(mk:bi D ns->a)(e:a->bi D ns)(b:D n=a):Ev D n:=
 ⟨λc=>.agg (E6 D lf ns (e (dA b c))),λ
  | .agg d=>(match Au D lf ns d with
   |some f=>c5 (dA b.symm (mk f))
   |none=>ea)
  |_=>ea⟩
end
end Go.X
namespace Go.X
open Go Go.Aml
def lK(a:Int):Option Nat:=bif c3 (1<=a) then(bif c3 (a<=13) then c5 (102+a.toNat) else ea) else ea
end Go.X
