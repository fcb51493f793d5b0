/- For TopWays, part 2. -/
import Derived.Test.YtfljhldgncdifaaGreatVA
import Derived.Laws.CopyRow
import Derived.ProofKit
import Derived.OpenShut
import Derived.ChangeOld
import Derived.Deep.Slices
import Derived.KernelRfl
import Derived.WalkKit
import Derived.ShutString
import Derived.Below
import Derived.Carry
set_option linter.defProp false
set_option linter.unusedVariables false
set_option linter.unusedSimpArgs false
open Decidable renaming decide → c3
open List renaming getElem?_eq_getElem → c4, mem_append → c6, mem_cons_of_mem → c7, mem_cons → dd, getElem?_append_right → dk, getElem?_append_left → dt, append_assoc → dv, eq_nil_of_length_eq_zero → dT, getElem?_eq_some_iff → e0, length_append → e5, getElem?_map → ec, mem_of_getElem? → ej, getElem?_take_of_lt → eo, getElem?_set_self → ev, mem_map → ey, getElem?_set_ne → eH, append_nil → ft, getElem?_eq_none → ga, range → gv, take_append_drop → gx, getElem?_toArray → gy, length_set → h6, getD_eq_getElem?_getD → h8, length_take → hq, map_cons → hz, replicate → hB, getElem?_drop → hK, mem_range → hL, mem_map_of_mem → hY, getElem?_range → ie, length_drop → ih, mem_cons_self → j3, mem_append_right → j5, length_replicate → j7, eq_of_mem_replicate → k0, nodup_cons → k8, getElem?_cons_zero → kc, flatten_cons → kl, length_map → l3, drop_zero → m2, getElem?_eq_none_iff → m4, mem_range'_1 → m6, map_take → mb, all_eq_true → n0, take_of_length_le → n1, map_map → n2, length_eq_one_iff → ng, nil_append → o3, map_append → o4, singleton_append → o8, range' → o9, mem_append_left → oi, getElem_of_mem → oo, map_drop → oq, countP_append → p4, ext_getElem? → p6, reverse_cons → p7, getElem_mem → q6, range'_succ → q7, not_mem_nil → q8, mem_filter → r0, drop_drop → r3
open Option renaming some → c5, none → ea, bind_eq_some_iff → ei, map_some → l4, bind_some → my, getD_some → qa
open Nat renaming le_of_ble_eq_true → e4, zero_add → e6, le_refl → ef, beq → fe, mul_le_mul_right → gb, lt_or_ge → hI, ble_eq_true_of_le → hM, beq_refl → hQ, add_zero → hS, blt → j8, add_mul → j9, eq_of_beq_eq_true → l0, lt_succ_self → l1, zero_le → l2, le_trans → la, pos_of_ne_zero → m3, ble → m5, min_eq_left → o6, strongRecOn → o7, lt_trichotomy → q3, one_pos → qb, one_mul → qq, min_comm → rb, sub_zero → s5, sub_self → s6, zero_mul → s8
open Option.some renaming injEq → ee
open Go.Builtin renaming zeroCells → ez, clear_ → j1, copy_ → k6, firstCells → p0, lenOf → r4
open Prod.mk renaming inj → eE, injEq → h5
open Go.Result renaming andThen_ok → h7
open Array renaming getElem?_eq_getElem → h9, getD_eq_getD_getElem? → hD, replicate → hP, toArray_toList → hU, mem_toList_iff → hX, getElem?_eq_none → j4, getElem?_toList → j6, getElem?_setIfInBounds_ne → km, getElem_mem → q2
open Bool renaming and_eq_true → j2
open Go.Region renaming wanted → k7, binds → m1, ready → pc
open Classical renaming axiomOfChoice → kd
open Go.Sem renaming run_bind → kh, run_pure → m0
open Go.Op renaming operands → ma, call → s3
open Go.DataW renaming TrodAll → mx, trod → o1
open List.cons renaming injEq → o2
open Go.Instr renaming sureAddr → oj, loadAt → q4
open Go.Call renaming operands → oS
open Go.Value renaming okWide → q5, cells → sp
open Go.Oper renaming wp → r5
open Go.Lit renaming int → s7
open Go.Addr renaming add_lit → sa
open Go.Cell renaming okWide → sn
namespace Go.X
open Go Go.Aml Go.Bml
section
variable {P:Program}{B:Tb}{R:Type}{r:R}
def eJ(B:Tb):List Nat->List (TV B.D)->List (TV B.D)->Prop
 |[],[],[]=>True
 |a::ns,c::e,f::d=>(∃b,B.up a c=c5 b/\f=B.tv a b)/\eJ B ns e d
 |_,_,_=>False
def Ae:∀{ns:List Nat} {f:List (TV B.D)} {b:bi B.D ns->Option R},m9 B ns f b=c5 r->∃c,b c=c5 r/\eJ B ns f (rQ B ns c)
 |[],[],b,a=>⟨(),a,trivial⟩
 |[i],[h],b,a=>by
  obtain⟨c,e,d⟩:=fq (by simpa only[m9] using a);exact⟨c,d,⟨c,e,rfl⟩,trivial⟩
 |i::l::ns,h::k,b,a=>by
  simp only[m9] at a;obtain⟨c,e,a⟩:=fq a;obtain⟨g,d,j⟩:=Ae a;exact⟨(c,g),d,⟨c,e,rfl⟩,j⟩
 |[],_::_,b,a=>by simp[m9] at a
 |[_],[],b,a=>by simp[m9] at a
 |_::_::_,[],b,a=>by simp[m9] at a
 |[_],_::_::_,b,a=>by simp[m9] at a
def eJ.split:∀{ns e:List Nat} {ls d c:List (TV B.D)},eJ B (aX ns e) (aX ls d) c->ls.length=ns.length->∃j k,c=j++k/\eJ B ns ls j/\eJ B e d k
 |[],e,[],d,c,h,_=>⟨[],c,rfl,trivial,h⟩
 |n::ns,e,o::ls,d,m::c,h,a=>by
  obtain⟨t,s⟩:=h;obtain⟨j,k,rfl,u,l⟩:=eJ.split (ns:=ns) (ls:=ls) s (by simpa using a);exact⟨m::j,k,rfl,⟨t,u⟩,l⟩
 |n::ns,e,o::ls,d,[],h,a=>h.elim
 |[],_,_::_,_,_,_,a=>by simp at a
 |_::_,_,[],_,_,_,a=>by simp at a
def yx{q:Nat->Type}{H:List (Ob q)}{i:Nat}:∀{l:List Nat},i∈kY H l↔∃r m v k j,r∈l/\nth H r=c5 ⟨m,v,.hole k [] j⟩/\i∈iB j
 |[]=>by simp[kY]
 |r::l=>by
  have n:=yx (H:=H) (i:=i) (l:=l);unfold kY
  split
  .rename_i m v k j o;rw[bK,c6,n]
   constructor
   .rintro(s |⟨h,g,f,e,d,b,a,c⟩)
    .exact⟨r,m,v,k,j,by simp,o,s⟩
    .exact⟨h,g,f,e,d,c7 _ b,a,c⟩
   .rintro⟨h,g,f,e,d,b,a,c⟩;rcases dd.1 b with rfl |b
    .rw[o] at a;injection a with a
     injection a with _ _ a
     injection a with e1 e2 e3
     subst e1;rw[<-e3] at c;exact .inl c
    .exact .inr ⟨h,g,f,e,d,b,a,c⟩
  .rename_i p;rw[n]
   constructor
   .rintro⟨h,g,f,e,d,b,a,c⟩;exact⟨h,g,f,e,d,c7 _ b,a,c⟩
   .rintro⟨h,g,f,e,d,b,a,c⟩;rcases dd.1 b with rfl |b
    .exact absurd a (p _ _ _ _)
    .exact⟨h,g,f,e,d,b,a,c⟩
def jN{b:Nat->Type}(c:List (Ob b))(a:List Nat)(i:Nat):Prop:=i∈aX a (kY c a)
def jN.mono{D:Nat->Type}{H:List (Ob D)}{c a:List Nat}{i:Nat}(h:jN H c i)(d:∀r,r∈c->r∈a):jN H a i:=by
 unfold jN at h⊢;rw[bK,c6] at h⊢;rcases h with h |h
 .exact .inl (d i h)
 .obtain⟨r,s,v,n,es,k,j,e⟩:=yx.1 h;exact .inr (yx.2 ⟨r,s,v,n,es,d r k,j,e⟩)
def jN.one{D:Nat->Type}{H:List (Ob D)}{a:List Nat}{i:Nat}(h:i∈a):jN H a i:=by
 unfold jN;rw[bK,c6];exact .inl h
def aoW{g:Gh}{z:List aO}{l:World}{r:Nat}{o:aO}{x:Value}{p:Nat->Prop}{h:List PV}(E:qT g z l r o)(j:SL g o r 0 o.es.length x)(u:h.length=o.es.length)(I:∀(i:Nat) (v:PV),h[i]?=c5 v->v.cells.length=o.sz)
 (A:∀b w,g.β r=c5 (b,w)->p b) (C:∀i a c,abk h i a=c5 c->∃n,abk o.es i a=c5 n/\∀d,VR g z l n d->VI p l c d):VI p l (.vs o.sz h) x:=by
 obtain⟨_,j⟩:=j;have t:=E.mem;cases q:g.β r with
 |none=>
  rw[q] at j t;obtain⟨_,h0,y,rfl⟩:=j;have:h=[]:=dT (by omega);subst this;exact .eX o.sz y 0
 |some D=>
  obtain⟨b,w⟩:=D;rw[q] at j t;obtain⟨cap,y,rfl,K,M,J⟩:=j;obtain⟨rfl,rfl⟩:=J rfl;obtain⟨Q,cells,G,O,N,S,H⟩:=t;rw[<-u];have s:∀i a c,abk h i a=c5 c->∃d,cells[i*o.sz+a]?=c5 d/\d.oneCell'=true/\VI p l c d:=λi a c f=>by
   obtain⟨n,L,F⟩:=C i a c f;obtain⟨d,e,m,k⟩:=H i a n L;exact⟨d,e,m,F d k⟩
  refine .vs o.sz h b 0 cap (λi a=>(cells[i*o.sz+a]?).getD undef) (by rw[u];exact K) (A b cap q) I (λi a c f=>?_) (λi a c f=>?_) (λi a c f=>?_)
  .obtain⟨d,e,m,k⟩:=s i a c f;rw[e,e6];unfold World.cell?;rw[G];simpa using e
  .obtain⟨d,e,m,k⟩:=s i a c f;rw[e];exact m
  .obtain⟨d,e,m,k⟩:=s i a c f;rw[e];exact k
def S8{b:List (Ob B.D)}{a:List Nat}{c:TV B.D}:(pv B (ml b a c)).cells=[pv B (ml b a c)]:=by
 unfold ml
 split
 .split
  .cases has a _ <;> rfl
  .rfl
 .rfl
def agS{g:Gh}{h:List (Ob B.D)}{f:World}{e:List Nat}{j:Nat->Option Nat}{c:Nat->Prop}(w:cU P B)(y:bF g (av B h) f){q i:Nat}{v:Value}(k:q∉e->c q)(u:VR g (av B h) f (.fl q i) v):VI (dj g j c).F f (pv B (ml h e (.fl q i))) v:=by
 unfold ml;simp only
 split
 .rename_i x z m;cases n:has e q with
  |true=>exact .any v
  |false=>
   obtain⟨C,s⟩:=fx m;have d:=df s;have l:=lh (u.ub d rfl) d rfl;have:=Ed (y.obj q _ d) l (λA t=>by
    obtain⟨p,_,rfl⟩:=ey.1 t;exact w.lt x p) (F:=(dj g j c).F) (λ_ a=>.inl a) λb o a=>.inr ⟨q,o,k (nA n),a⟩
   simp only[aY] at this;rw[m2,n1 (ef _)] at this;exact this
 .exact .any v
def Hi{d:Nat->Type}{b:List (Ob d)}{c:List Nat}:∀a:List (TV d),qf b c a=a.map (ml b c)
 |[]=>rfl
 |e::a=>by simp only[qf,Hi a,hz]
def Hw{e:Nat->Type}:∀{l:List (TV e)},DA l=true->∀(i:Nat) (b:TV e),l[i]?=c5 b->∃q c,b= .fl q c/\q∈iB l
 |[],_,_,_,a=>by simp at a
 |h::l,d,i,b,a=>by
  cases h with
  |fl q c=>
   cases i with
   |zero=>simp at a;exact⟨q,c,a.symm,by simp[iB,refs,bK]⟩
   |succ i=>
    obtain⟨k,g,j,f⟩:=Hw (l:=l) d i b (by simpa using a);exact⟨k,g,j,by simp only[iB,bK,c6];exact .inr f⟩
  |_=>cases d
mutual
def Jt{g:Gh}{k:List (Ob B.D)}{H:World}{kept:List Nat}{src:Nat->Option Nat}{fz:Nat->Prop}(z:cU P B)(t:bF g (av B k) H):
 ∀(y:TV B.D) (v:Value),(∀i,jN k (refs y) i->i∉kept->fz i)->VR g (av B k) H (pv B y) v->VI (dj g src fz).F H (pv B (kJ k kept y)) v
 | .any,v,d,_=>.any v
 | .z0,v,d,a=>(a.dH .z0).mono (λ_ c=>.inl c) λ_ _=>rfl
 | .fS,v,d,a=>(a.dH .fS).mono (λ_ c=>.inl c) λ_ _=>rfl
 | .bg,v,d,a=>(a.dH .bg).mono (λ_ c=>.inl c) λ_ _=>rfl
 | .dB,v,d,a=>(a.dH .dB).mono (λ_ c=>.inl c) λ_ _=>rfl
 | .int ak s,v,d,a=>(a.dH (.int _ _)).mono (λ_ c=>.inl c) λ_ _=>rfl
 | .bool b,v,d,a=>(a.dH (.bool _)).mono (λ_ c=>.inl c) λ_ _=>rfl
 | .str K,v,d,a=>(a.dH (.str _)).mono (λ_ c=>.inl c) λ_ _=>rfl
 | .row s A,v,d,a=>(a.dH (.vs _ _)).mono (λ_ c=>.inl c) λ_ _=>rfl
 | .rv s al,v,d,a=>(a.dH (.vs _ _)).mono (λ_ c=>.inl c) λ_ _=>rfl
 | .vp u S,v,d,a=>(a.dH (.dw _ _)).mono (λ_ c=>.inl c) λ_ _=>rfl
 | .ptr ..,v,d,_=>.any v
 | .bu _,v,d,_=>.any v
 | .jC ea,v,d,a=>(a.dH .dB).mono (λ_ c=>.inl c) λ_ _=>rfl
 | .jC (c5 f),v,d,a=>(a.dH (.fn _ _ _ (by simp) (by simp))).mono (λ_ c=>.inl c) λ_ _=>rfl
 | .fl q G,v,d,a=>by
  simp only[kJ];cases Q:aK k q G with
  |none=>exact .any v
  |some b=>
   cases b with
   |aap s A=>
    simp only;cases C:has kept q with
    |true=>exact .any v
    |false=>
     obtain⟨K,I⟩:=fx Q;have p:=df I;have L:=lh (a.ub p rfl) p rfl;have:=Ed (t.obj q _ p) L (λab n=>by
      obtain⟨j,_,rfl⟩:=ey.1 n;exact z.lt s j) (F:=(dj g src fz).F) (λ_ c=>.inl c) λb O c=>.inr ⟨q,O,d q (.one (by simp[refs])) (nA C),c⟩
     simp only[aY] at this;rw[m2,n1 (ef _)] at this;exact this
   |box _ _=>exact .any v
   |dead=>exact .any v
   |hole s A x=>
    cases A with
    |cons _ _=>exact .any v
    |nil=>
    simp only;cases C:has kept q with
    |true=>exact .any v
    |false=>
    cases af:DA x with
    |false=>exact .any v
    |true=>
     obtain⟨K,I⟩:=fx Q;have p:=df I;have L:=lh (a.ub p rfl) p rfl;have Z:=t.obj q _ p;have W:(aY B ⟨K,G,.hole s [] x⟩).es=aP B x:=rfl;have ac:∀i,(aP B (qf k kept x))[i]?=(x[i]?).map λy=>pv B (ml k kept y):=λi=>by
      rw[Hi,db,n2,ec]
      rfl
     refine aoW (o:=aY B ⟨K,G,.hole s [] x⟩) Z L (by rw[W,Hi,db,db];simp) (λi ab n=>?_) (λb O c=>.inr ⟨q,O,d q (.one (by simp[refs])) (nA C),c⟩) (λi S ae h=>?_)
     .rw[ac] at n;cases e:x[i]? with
      |none=>rw[e] at n;cases n
      |some y=>
       rw[e] at n;injection n with n
       subst n;obtain⟨J,N,rfl,ad⟩:=Hw af i y e;have:=Z.width i (.fl J N) (by rw[W,db,ec,e];rfl);rw[S8];exact this
     .unfold abk at h;rw[ac] at h;cases e:x[i]? with
      |none=>rw[e] at h;cases h
      |some y=>
       rw[e] at h;obtain⟨J,N,rfl,ad⟩:=Hw af i y e;have h:(pv B (ml k kept (.fl J N))).cells[S]?=c5 ae:=h;rw[S8] at h;cases S with
       |succ S=>simp at h
       |zero=>
        have h:c5 (pv B (ml k kept (.fl J N)))=c5 ae:=h;injection h with h
        subst h;refine⟨.fl J N,?_,λam aj=>agS z t (λai=>d J ?_ ai) aj⟩
        .unfold abk;rw[W,db,ec,e]
         rfl
        .unfold jN;rw[bK,c6];exact .inr (yx.2 ⟨q,K,G,s,x,by simp[refs],I,ad⟩)
 | .sl q G an len,v,d,a=>by
  simp only[kJ];cases Q:aK k q G with
  |none=>exact .any v
  |some b=>
   cases b with
   |aap s A=>
    simp only;cases C:has kept q with
    |true=>exact .any v
    |false=>
     obtain⟨K,I⟩:=fx Q;have p:=df I;have L:=lh a p rfl;have:=Ed (t.obj q _ p) L (λab n=>by
      obtain⟨j,_,rfl⟩:=ey.1 n;exact z.lt s j) (F:=(dj g src fz).F) (λ_ c=>.inl c) λb O c=>.inr ⟨q,O,d q (.one (by simp[refs])) (nA C),c⟩
     simpa[aY,pv,mb,oq] using this
   |box _ _=>exact .any v
   |dead=>exact .any v
   |hole _ _ _=>exact .any v
 | .agg u,v,d,a=>by
  obtain⟨A,rfl,m,C⟩:=a.ky;exact .agg _ A (by rw[<-m];exact(pH (src:=src) z t u A d m C).1) (pH (src:=src) z t u A d m C).2
 | .fn f u M,v,d,a=>by
  have ag:∃l vs:List Value,v= .func (.func f) l.toArray vs.toArray/\(aP B u).length=l.length/\(∀(i:Nat) (w:PV) (j:Value),(aP B u)[i]?=c5 w->l[i]?=c5 j->VR g (av B k) H w j)/\(aP B M).length=vs.length/\
   (∀(i:Nat) (w:PV) (j:Value),(aP B M)[i]?=c5 w->vs[i]?=c5 j->VR g (av B k) H w j):=by
   have ah:VR g (av B k) H (.fn f (aP B u) (aP B M)) v:=a;cases ah with
   |aW a=>cases a with |fn _ _ _ l vs m X D U=>exact⟨l,vs,rfl,m,λi w j V T=>.aW (X i w j V T),D,λi w j V T=>.aW (U i w j V T)⟩
   |fn _ _ _ l vs m X D U=>exact⟨l,vs,rfl,m,X,D,U⟩
  obtain⟨l,vs,rfl,m,aa,D,Y⟩:=ag;exact .fn f _ _ l vs (by rw[<-m];exact(pH (src:=src) z t u l (λi e=>d i (e.mono λr E=>by simp only[refs,bK,c6];exact .inl E)) m aa).1) (pH (src:=src) z t u l (λi e=>d i (e.mono λr E=>by simp only[refs,bK,c6];exact .inl E)) m aa).2 (by rw[<-D];exact(pH (src:=src) z t M vs (λi e=>d i (e.mono λr E=>by simp only[refs,bK,c6];exact .inr E)) D Y).1) (pH (src:=src) z t M vs (λi e=>d i (e.mono λr E=>by simp only[refs,bK,c6];exact .inr E)) D Y).2
def pH{g:Gh}{h:List (Ob B.D)}{l:World}{kept:List Nat}{src:Nat->Option Nat}{fz:Nat->Prop}(p:cU P B)(q:bF g (av B h) l):
 ∀(b:List (TV B.D)) (d:List Value),(∀i,jN h (iB b) i->i∉kept->fz i)->(aP B b).length=d.length->(∀(i:Nat) (a:PV) (c:Value),(aP B b)[i]?=c5 a->d[i]?=c5 c->VR g (av B h) l a c)->
  (aP B (jS h kept b)).length=(aP B b).length/\∀(i:Nat) (a:PV) (c:Value),(aP B (jS h kept b))[i]?=c5 a->d[i]?=c5 c->VI (dj g src fz).F l a c
 |[],d,_,_,_=>⟨rfl,by simp[jS,aP]⟩
 |a::b,[],_,j,_=>by simp[aP] at j
 |a::b,c::d,n,j,o=>by
  obtain⟨u,s⟩:=pH (src:=src) p q b d (λi k=>n i (k.mono λr m=>by simp only[iB,bK,c6];exact .inr m)) (by simpa[aP] using j) λi a c f e=>o (i+1) a c (by simpa[aP] using f) (by simpa using e)
  refine⟨by simp[jS,aP,u],λi v t f e=>?_⟩
  cases i with
  |zero=>
   simp[jS,aP] at f e;subst f;subst e;exact Jt p q a c (λi k=>n i (k.mono λr m=>by simp only[iB,bK,c6];exact .inl m)) (o 0 _ _ (by simp[aP]) (by simp))
  |succ i=>exact s i v t (by simpa[jS,aP] using f) (by simpa using e)
end
structure mR (B:Tb) (g:Gh) (H H':List (Ob B.D)) (w:World) (ids:List Rf) (kept:List Nat) (src:Nat->Option Nat) (ρ:Nat->Nat×Nat):Prop where
 m:bF g (av B H) w
 num:∀q,(ρ q).1=q
 bG:∀q i,nth ids q=c5 (.bG i)->src q=c5 i/\∃o o',nth H i=c5 o/\nth H' q=c5 o'/\o'.aF=(ρ q).2/\(aY B o').sz=(aY B o).sz/\(aY B o').es.length=(aY B o).es.length
 new:∀q,nth ids q=c5 .new->src q=ea/\∃o',nth H' q=c5 o'/\o'.aF=(ρ q).2/\(aY B o').es=[]
def iK{c:Type}{g b:Option (List c)}{e:List c}(a:cat g b=c5 e):∃f d,g=c5 f/\b=c5 d/\e=aX f d:=by
 unfold cat at a
 split at a
 .injection a with a
  exact⟨_,_,rfl,rfl,a.symm⟩
 .cases a
def e7(a:Ob B.D):(aY B a).aF=a.aF:=by
 unfold aY
 split <;> rfl
def WO{g:Gh}{h l:List (Ob B.D)}{e:World}{m:List Rf}{E:List Nat}{j:Nat->Option Nat}{u:Nat->Prop}{d:Nat->Nat×Nat}(o:mR B g h l e m E j d){q i n F:Nat}{b:Bd B.D}{v:Value}
 (w:nth m q=c5 (.bG i)) (p:nth h i=c5 ⟨F,n,b⟩) (f:VR g (av B h) e (.ptr i n 0 0) v):VR (dj g j u) (av B l) e (.ptr (d q).1 (d q).2 0 0) v:=by
 obtain⟨y,K,A,c,x,t,z,I⟩:=o.bG q i w;rw[p] at c;injection c with c
 subst c;have k:=df p;cases f with
 |aW f=>cases f
 |ptr _ _ _ _ L M a J H=>
  unfold ek at k;rw[k] at a;injection a with a
  subst a;obtain⟨D,G,C,s,rfl⟩:=H (by rw[e7]);rw[o.num];refine .ptr q _ 0 0 (aY B A) _ (df x) (by rw[e7,t];exact ef _) λ_=>⟨by rw[I];exact D,G,C,?_,by rw[z]⟩
  show(j q).bind g.β=_
  rw[y];exact s
def LX{g:Gh}{j n:List (Ob B.D)}{f:World}{o:List Rf}{F:List Nat}{d:Nat->Option Nat}{k:Nat->Prop}{e:Nat->Nat×Nat}(s:mR B g j n f o F d e){q i p G:Nat}{b:Bd B.D}{v:Value}
 (y:nth o q=c5 (.bG i)) (t:nth j i=c5 ⟨G,p,b⟩) (h:VR g (av B j) f (.fl i p) v):VR (dj g d k) (av B n) f (.fl (e q).1 (e q).2) v:=by
 obtain⟨A,I,D,c,z,w,C,u⟩:=s.bG q i y;rw[t] at c;injection c with c
 subst c;have l:=df t;cases h with
 |aW h=>cases h
 |fl _ _ J _ a H E x=>
  unfold ek at l;rw[l] at a;injection a with a
  subst a;rw[s.num];refine .fl q _ (aY B D) _ (df z) (by rw[e7,w];exact ef _) E λ_=>?_
  have m:=x (by rw[e7]);rw[u];unfold SL at m⊢;rw[C,u];rw[show(dj g d k).β q=g.β i by show(d q).bind g.β=_;rw[A];rfl];exact m
def MD{g:Gh}{n i:List (Ob B.D)}{f:World}{d:List Rf}{m:List Nat}{a:Nat->Option Nat}{e:Nat->Prop}{b:Nat->Nat×Nat}(h:mR B g n i f d m a b){q:Nat}{v:Value}
 (j:nth d q=c5 .new) (t:∃c,v= .slice c 0 0):VR (dj g a e) (av B i) f (.fl (b q).1 (b q).2) v:=by
 obtain⟨o,s,p,l,k⟩:=h.new q j;obtain⟨c,rfl⟩:=t;rw[h.num];refine .fl q _ (aY B s) _ (df p) (by rw[e7,l];exact ef _) rfl λ_=>?_
 unfold SL;rw[show(dj g a e).β q=ea by show(a q).bind g.β=_;rw[o];rfl,k];exact⟨by simp,rfl,rfl,c,rfl⟩
def Sb(B:Tb)(g:Gh)(e f:List (Ob B.D))(a:World)(h:Nat->Option Nat)(c:Nat->Prop)(i:CP)(d b:TV B.D):Prop:=
 (MG i=true->cE 0 (pv B b))/\∀v,VR g (av B e) a (pv B d) v->VR (dj g h c) (av B f) a (pv B b) v
def fu{a b:Bool}(c:(bif a then b else false)=true):a=true/\b=true:=by
 cases a with
 |true=>exact⟨rfl,c⟩
 |false=>cases c
mutual
def RY{g:Gh}{A aj:List (Ob B.D)}{w:World}{ab:List Rf}{S:List Nat}{Y:Nat->Option Nat}{fz:Nat->Prop}{ac:Nat->Nat×Nat}(M:cU P B)(H:mR B g A aj w ab S Y ac):
 ∀(c:CP) (s:TV B.D) (o:List (TV B.D)),(∀i,i∈jn A c s->i∉S->fz i)->eR A ab S c s=c5 o->o.length=c.bX.length/\∀h,eJ B c.bX o h->∃ap,(∀T,hO ac c (h++T)=(ap,T))/\Sb B g A aj w Y fz c s ap
 | .any,s,o,t,a=>by
  simp only[eR,ee] at a;subst a;refine⟨rfl,λh n=>?_⟩
  cases h with
  |nil=>exact⟨.any,λ_=>rfl,λ_=>.any,λv _=>.any v⟩
  |cons C h=>exact n.elim
 | .v V,s,o,t,a=>by
  simp only[eR,ee] at a;subst a;refine⟨rfl,λh n=>?_⟩
  match h,n with
  |[C],⟨⟨m,J,a7⟩,_⟩=>
   subst a7;obtain⟨u1,u2⟩:=M.up V _ m J;refine⟨_,λ_=>rfl,λ_=>by rw[M.tv];exact M.lt V m,λv j=>.aW ?_⟩
   rw[M.tv];exact u2.vi (Jt M H.m s v t j)
 | .p q,s,o,t,a=>by
  have O:∃i x I b,s= .ptr i x 0 0/\nth ab q=c5 (.bG i)/\nth A i=c5 ⟨I,x,b⟩/\o=[]:=by
   simp only[eR] at a
   split at a
   .rename_i i x
    split at a
    .rename_i aa k aq d G;obtain⟨p,l⟩:=a8 a;injection l with l
     obtain⟨I,z⟩:=fx d;exact⟨i,x,I,_,rfl,by rw[G,beq_eq p],z,l.symm⟩
    .cases a
   .cases a
  obtain⟨i,x,I,b,rfl,G,z,rfl⟩:=O;refine⟨rfl,λh n=>?_⟩
  cases h with
  |nil=>exact⟨_,λ_=>rfl,λa=>(by cases a),λv j=>WO H G z j⟩
  |cons C h=>exact n.elim
 | .r q,s,o,t,a=>by
  have O:o=[]/\∀v,VR g (av B A) w (pv B s) v->VR (dj g Y fz) (av B aj) w (.fl (ac q).1 (ac q).2) v:=by
   simp only[eR] at a
   split at a
   .rename_i i x
    split at a
    .rename_i V ai aq d G;obtain⟨p,l⟩:=a8 a;injection l with l
     obtain⟨I,z⟩:=fx d;exact⟨l.symm,λv j=>LX H (by rw[G,beq_eq p]) z j⟩
    .rename_i V ai bb aq d G;obtain⟨p,l⟩:=a8 a;injection l with l
     obtain⟨I,z⟩:=fx d;exact⟨l.symm,λv j=>LX H (by rw[G,beq_eq p]) z j⟩
    .cases a
   .split at a
    .rename_i G;injection a with a
     exact⟨a.symm,λv j=>MD H G ⟨ea,j.pF⟩⟩
    .cases a
   .split at a
    .rename_i G;injection a with a
     exact⟨a.symm,λv j=>MD H G j.rh⟩
    .cases a
   .cases a
  obtain⟨rfl,j⟩:=O;refine⟨rfl,λh n=>?_⟩
  cases h with
  |nil=>exact⟨_,λ_=>rfl,λa=>(by cases a),j⟩
  |cons C h=>exact n.elim
 | .q N,s,o,t,a=>by
  have O:∃k,ow N=true/\fg A ab S N k=c5 o/\(∀i,i∈gJ A N k->i∉S->fz i)/\((∃aa i x I,s= .ptr i x 0 0/\nth A i=c5 ⟨I,x,.box aa k⟩/\i∉S/\fz i)\/s= .vp k 0):=by
   simp only[eR] at a
   split at a
   .rename_i i x
    split at a
    .rename_i aa k d;obtain⟨I,z⟩:=fx d;cases U:has S i with
     |true=>rw[U] at a;cases a
     |false=>
      rw[U] at a;obtain⟨p,l⟩:=a8 a;refine⟨k,p,l,λe L=>t e ?_,.inl ⟨aa,i,x,I,rfl,z,nA U,t i (by simp[jn]) (nA U)⟩⟩
      simp only[jn,z,dd];exact .inr L
    .cases a
   .rename_i k;obtain⟨p,l⟩:=a8 a;exact⟨k,p,l,t,.inr rfl⟩
   .cases a
  obtain⟨k,Z,d,aF,aA⟩:=O;obtain⟨aZ,aT⟩:=rm (fz:=fz) M H N k o aF d;refine⟨aZ,λh n=>?_⟩
  obtain⟨D,aQ,au,a2,ar⟩:=aT h n;refine⟨.vp D 0,λT=>by simp only[hO,aQ T],λ_=>.dw _ _,λv j=>.aW ?_⟩
  have ax:∀(i:Nat) (c:PV),(aP B D)[i]?=c5 c->cE 0 c:=λi c d=>a2 Z c (ej d)
  rcases aA with⟨aa,i,x,I,rfl,z,_,aK⟩ |rfl
  .have ay:=df z;obtain⟨b,aC,cells,rfl,E,_,ba,_,_,aI⟩:=Dc H.m j ay (e7 _);have ag:∀(i:Nat) (c:PV),(aP B D)[i]?=c5 c->∃u,cells[i]?=c5 u/\u.oneCell'=true/\VI (dj g Y fz).F w c u:=λe c d=>by
    have L:e<(aP B k).length:=by have:=c9 d;rw[au] at this;exact this
    obtain⟨u,u1,u2,u3⟩:=aI 0 e _ (show abk [PV.agg (aP B k)] 0 e=c5 (aP B k)[e] by simp[abk,PV.cells,L]);have a5:cells[e]?=c5 u:=by simpa using u1
    exact⟨u,a5,u2,(ar e _ c u (c4 L) d u3).dH (ax e c d)⟩
   have:=VI.dw (F:=(dj g Y fz).F) (w:=w) (aP B D) 0 b 0 (λe=>cells.getD e undef) (.inr ⟨i,aC,aK,E⟩)
    (λe c d=>by
     obtain⟨u,u1,u2,u3⟩:=ag e c d;rw[cell_of_row w b _ cells _ (0,0) ba,e6,u1];simp[hD,u1])
    (λe c d=>by
     obtain⟨u,u1,u2,u3⟩:=ag e c d;simpa[hD,u1] using u2)
    (λe c d=>by
     obtain⟨u,u1,u2,u3⟩:=ag e c d;simpa[hD,u1] using u3)
   simpa[pv] using this
  .have aM:VI g.F w (.dw (aP B k) 0) v:=j.dH (.dw _ _);cases aM with
   |dw _ _ b a4 u aR aN p a1=>
    have L:∀(e:Nat) (c:PV),(aP B D)[e]?=c5 c->e<(aP B k).length:=λe c d=>by have:=c9 d;rw[au] at this;exact this
    exact .dw (aP B D) 0 b a4 u (.inl aR) (λe c d=>aN e _ (c4 (L e c d))) (λe c d=>p e _ (c4 (L e c d)))
     λe c d=>(ar e _ c (u e) (c4 (L e c d)) d (.aW (a1 e _ (c4 (L e c d))))).dH (ax e c d)
 | .f bf N a3,s,o,t,a=>by
  simp only[eR] at a
  split at a
  .rename_i f k X;obtain⟨aV,Q⟩:=a8 a;clear a;obtain rfl:=beq_eq aV;obtain⟨aB,aD,p,l,rfl⟩:=iK Q;obtain⟨ao,ah⟩:=rm (fz:=fz) M H N k aB (λi y=>t i (by simp only[jn,bK,c6];exact .inl y)) p;obtain⟨be,aS⟩:=rm (fz:=fz) M H a3 X aD (λi y=>t i (by simp only[jn,bK,c6];exact .inr y)) l;refine⟨by simp only[CP.bX,bK,e5];omega,λh n=>?_⟩
   obtain⟨a0,aL,rfl,aY,aX⟩:=eJ.split n ao;obtain⟨D,ak,a9,an,al⟩:=ah a0 aY;obtain⟨aw,aO,bd,a6,az⟩:=aS aL aX;refine⟨.fn f D aw,λT=>by simp only[hO];rw[dv,ak,aO],λZ=>?_,λv j=>?_⟩
   .obtain⟨aG,aJ⟩:=fu Z;exact .fn _ _ _ (an aG) (a6 aJ)
   .have aH:VR g (av B A) w (.fn f (aP B k) (aP B X)) v:=j;have O:∃K vs:List Value,v= .func (.func f) K.toArray vs.toArray/\(aP B k).length=K.length/\(∀(i:Nat) (c:PV) (m:Value),(aP B k)[i]?=c5 c->K[i]?=c5 m->VR g (av B A) w c m)/\(aP B X).length=vs.length/\
     (∀(i:Nat) (c:PV) (m:Value),(aP B X)[i]?=c5 c->vs[i]?=c5 m->VR g (av B A) w c m):=by
     cases aH with
     |aW a=>cases a with |fn _ _ _ K vs W af ad ae=>exact⟨K,vs,rfl,W,λi c m p l=>.aW (af i c m p l),ad,λi c m p l=>.aW (ae i c m p l)⟩
     |fn _ _ _ K vs W af ad ae=>exact⟨K,vs,rfl,W,af,ad,ae⟩
    obtain⟨K,vs,rfl,W,aU,ad,aE⟩:=O;refine .fn f _ _ K vs (by show(aP B D).length=_;omega) (λi c m d J=>?_) (by show(aP B aw).length=_;omega) (λi c m d J=>?_)
    .have y:i<(aP B k).length:=by have:=c9 J;omega
     exact al i _ c m (c4 y) d (aU i _ m (c4 y) J)
    .have y:i<(aP B X).length:=by have:=c9 J;omega
     exact az i _ c m (c4 y) d (aE i _ m (c4 y) J)
  .cases a
 | .g N,s,o,t,a=>by
  simp only[eR] at a
  split at a
  .rename_i k;obtain⟨ao,ah⟩:=rm (fz:=fz) M H N k o t a;refine⟨ao,λh n=>?_⟩
   obtain⟨D,ak,a9,an,al⟩:=ah h n;refine⟨.agg D,λT=>by simp only[hO,ak T],λZ=>.agg _ (an Z),λv j=>?_⟩
   obtain⟨ai,rfl,W,U⟩:=VR.ky j;refine .agg _ ai (by show(aP B D).length=_;omega) λi c m d J=>?_
   have y:i<(aP B k).length:=by have:=c9 J;omega
   exact al i _ c m (c4 y) d (U i _ m (c4 y) J)
  .cases a
 | .b b,s,o,t,a=>by
  simp only[eR] at a
  split at a
  .rename_i c;have E:b=c/\o=[]:=by
    cases b <;> cases c <;> simp at a <;> exact⟨rfl,a⟩
   obtain⟨rfl,rfl⟩:=E;refine⟨rfl,λh n=>?_⟩
   cases h with
   |nil=>exact⟨.bool b,λ_=>rfl,λ_=>.bool b,λv j=>.aW ((j.dH (.bool b)).mono (λ_ E=>.inl E) λ_ _=>rfl)⟩
   |cons C h=>exact n.elim
  .cases a
 | .i am V,s,o,t,a=>by
  simp only[eR] at a
  split at a
  .rename_i bc C;obtain⟨p,Q⟩:=a8 a;obtain⟨l,Q⟩:=a8 Q;injection Q with Q
   subst Q;clear a;obtain rfl:=qh p;obtain rfl:C=V:=of_decide_eq_true l;refine⟨rfl,λh n=>?_⟩
   cases h with
   |nil=>exact⟨.int am C,λ_=>rfl,λ_=>.int am C,λv j=>.aW ((j.dH (.int am C)).mono (λ_ E=>.inl E) λ_ _=>rfl)⟩
   |cons C h=>exact n.elim
  .cases a
 | .ns,s,o,t,a=>by
  simp only[eR] at a
  split at a
  .injection a with a
   subst a;refine⟨rfl,λh n=>?_⟩
   cases h with
   |nil=>exact⟨.bg,λ_=>rfl,λ_=>.bg,λv j=>.aW ((j.dH .bg).mono (λ_ E=>.inl E) λ_ _=>rfl)⟩
   |cons C h=>exact n.elim
  .cases a
 | .z,s,o,t,a=>by
  simp only[eR] at a
  split at a
  .injection a with a
   subst a;refine⟨rfl,λh n=>?_⟩
   cases h with
   |nil=>exact⟨.dB,λ_=>rfl,λ_=>.dB,λv j=>.aW ((j.dH .dB).mono (λ_ E=>.inl E) λ_ _=>rfl)⟩
   |cons C h=>exact n.elim
  .cases a
def rm{g:Gh}{m w:List (Ob B.D)}{t:World}{x:List Rf}{s:List Nat}{D:Nat->Option Nat}{fz:Nat->Prop}{y:Nat->Nat×Nat}(C:cU P B)(A:mR B g m w t x s D y):
 ∀(c:List CP) (f:List (TV B.D)) (e:List (TV B.D)),(∀i,i∈gJ m c f->i∉s->fz i)->fg m x s c f=c5 e->e.length=(CP.gA c).length/\∀j,eJ B (CP.gA c) e j->∃h,(∀p,jD y c (j++p)=(h,p))/\(aP B h).length=(aP B f).length/\
  (ow c=true->∀a,a∈aP B h->cE 0 a)/\∀(i:Nat) (a l:PV) (k:Value),(aP B f)[i]?=c5 a->(aP B h)[i]?=c5 l->VR g (av B m) t a k->VR (dj g D fz) (av B w) t l k
 |[],[],e,_,b=>by
  simp only[fg,ee] at b;subst b;refine⟨rfl,λj u=>?_⟩
  cases j with
  |nil=>exact⟨[],λ_=>rfl,rfl,λ_ a d=>(by cases d),λi a l k d=>(by simp[aP] at d)⟩
  |cons af j=>exact u.elim
 |a::c,Z::f,e,z,b=>by
  simp only[fg] at b;obtain⟨I,Q,T,E,rfl⟩:=iK b;obtain⟨X,ac⟩:=RY (fz:=fz) C A a Z I (λi q=>z i (by simp only[gJ,bK,c6];exact .inl q)) T;obtain⟨ae,G⟩:=rm (fz:=fz) C A c f Q (λi q=>z i (by simp only[gJ,bK,c6];exact .inr q)) E;refine⟨by simp only[CP.gA,bK,e5];omega,λj u=>?_⟩
  obtain⟨Y,W,rfl,U,M⟩:=eJ.split u X;obtain⟨L,O,ab,H⟩:=ac Y U;obtain⟨h,aa,J,V,F⟩:=G W M;refine⟨L::h,λp=>by simp only[jD];rw[dv,O,aa],by simp[aP,J],λad a d=>?_,λi N l k n o v=>?_⟩
  .obtain⟨K,S⟩:=fu ad;rcases dd.1 d with rfl |d
   .exact ab K
   .exact V S a d
  .cases i with
   |zero=>simp[aP] at n o;subst n;subst o;exact H k v
   |succ i=>exact F i N l k (by simpa[aP] using n) (by simpa[aP] using o) v
 |[],_::_,e,_,b=>by simp[fg] at b
 |_::_,[],e,_,b=>by simp[fg] at b
end
end
section
variable {P:Program}{B:Tb}{R:Type}{r:R}
def eJ.len:∀{ns:List Nat} {ls a:List (TV B.D)},eJ B ns ls a->a.length=ns.length/\ls.length=ns.length
 |[],[],[],_=>⟨rfl,rfl⟩
 |n::ns,e::ls,m::a,h=>by
  obtain⟨c,d⟩:=eJ.len h.2;exact⟨by simp[c],by simp[d]⟩
 |[],[],_::_,h=>h.elim
 |[],_::_,_,h=>h.elim
 |_::_,[],_,h=>h.elim
 |_::_,_::_,[],h=>h.elim
def eJ.one{n:Nat}{ls c:List (TV B.D)}(h:eJ B [n] ls c):∃a x,ls=[a]/\B.up n a=c5 x/\c=[B.tv n x]:=by
 match ls,c,h with
 |[a],[m],⟨⟨x,d,e⟩,_⟩=>exact⟨a,x,rfl,d,by rw[e]⟩
 |[],_,h=>exact h.elim
 |_::_,[],h=>exact h.elim
 |_::_::_,_::_,⟨_,h⟩=>exact h.elim
 |[_],_::_::_,⟨_,h⟩=>exact h.elim
mutual
def Wb{t:Nat->Type}(g:Nat->Nat×Nat):∀(i:CP) (a:List (TV t)),a.length=i.bX.length->∃s,∀e,hO g i (a++e)=(s,e)
 | .any,a,c=>by
  obtain rfl:=dT (l:=a) (by simpa[CP.bX] using c);exact⟨_,λ_=>rfl⟩
 | .v k,a,c=>by
  match a,c with
  |[u],_=>exact⟨_,λ_=>rfl⟩
 | .p q,a,c=>by
  obtain rfl:=dT (l:=a) (by simpa[CP.bX] using c);exact⟨_,λ_=>rfl⟩
 | .r q,a,c=>by
  obtain rfl:=dT (l:=a) (by simpa[CP.bX] using c);exact⟨_,λ_=>rfl⟩
 | .b b,a,c=>by
  obtain rfl:=dT (l:=a) (by simpa[CP.bX] using c);exact⟨_,λ_=>rfl⟩
 | .i f k,a,c=>by
  obtain rfl:=dT (l:=a) (by simpa[CP.bX] using c);exact⟨_,λ_=>rfl⟩
 | .ns,a,c=>by
  obtain rfl:=dT (l:=a) (by simpa[CP.bX] using c);exact⟨_,λ_=>rfl⟩
 | .z,a,c=>by
  obtain rfl:=dT (l:=a) (by simpa[CP.bX] using c);exact⟨_,λ_=>rfl⟩
 | .q d,a,c=>by
  obtain⟨h,f,_⟩:=pd g d a c;exact⟨.vp h 0,λe=>by simp only[hO,f e]⟩
 | .g d,a,c=>by
  obtain⟨h,f,_⟩:=pd g d a c;exact⟨.agg h,λe=>by simp only[hO,f e]⟩
 | .f j d m,a,c=>by
  simp only[CP.bX,bK,e5] at c;obtain⟨o,f,_⟩:=pd g d (a.take (CP.gA d).length) (by rw[hq];omega);obtain⟨p,n,_⟩:=pd g m (a.drop (CP.gA d).length) (by rw[ih];omega);refine⟨.fn j o p,λe=>?_⟩
  rw[<-gx (CP.gA d).length a,dv];simp only[hO,f,n]
def pd{n:Nat->Type}(e:Nat->Nat×Nat):∀(b:List CP) (a:List (TV n)),a.length=(CP.gA b).length->∃g,(∀d,jD e b (a++d)=(g,d))/\g.length=b.length
 |[],a,f=>by
  obtain rfl:=dT (l:=a) (by simpa[CP.gA] using f);exact⟨[],λ_=>rfl,rfl⟩
 |c::b,a,f=>by
  simp only[CP.gA,bK,e5] at f;obtain⟨k,h⟩:=Wb e c (a.take c.bX.length) (by rw[hq];omega);obtain⟨m,j,i⟩:=pd e b (a.drop c.bX.length) (by rw[ih];omega);refine⟨k::m,λd=>?_,by simp[i]⟩
  rw[<-gx c.bX.length a,dv];simp only[jD,h,j]
end
def Kg{e:Nat->Type}{h:List (Ob e)}{f:List Rf}{i:List Nat}:∀{c:List CP} {d b:List (TV e)},fg h f i c d=c5 b->d.length=c.length
 |[],[],_,_=>rfl
 |n::c,k::d,b,a=>by
  simp only[fg] at a;obtain⟨l,j,m,g,rfl⟩:=iK a;simp[Kg g]
 |[],_::_,b,a=>by simp[fg] at a
 |_::_,[],b,a=>by simp[fg] at a
def mS(t:cU P B){A:List (Ob B.D)}{E:List Rf}{F:List Nat}{ρ:Nat->Nat×Nat}{k:OP}{i:Rf}{z l:List (TV B.D)}(f v:Nat)(a:dn A E F k i=c5 z)(s:eJ B k.bX z l):
 ∃b,(∀e,dI ρ f v k (l++e)=(b,e))/\b.st=f/\b.aF=v/\
  ((∃q j,i= .bG q/\nth A q=c5 j/\(aY B b).ty=(aY B j).ty/\(aY B b).sz=(aY B j).sz/\(aY B b).es.length=(aY B j).es.length)\/(i= .new/\(aY B b).es=[]/\0<(aY B b).sz)):=by
 cases k with
 |aap c x=>
  obtain⟨I,y,rfl,w,rfl⟩:=s.one;cases i with
  |bG q=>
   simp only[dn] at a
   split at a
   .rename_i G u h;obtain⟨g,d⟩:=a8 a;obtain rfl:=beq_eq g;simp only[ee,o2,and_true] at d;subst d;rw[t.row x c u y w];exact⟨⟨f,v,.aap c u⟩,λ_=>rfl,rfl,rfl,.inl ⟨q,_,rfl,h,rfl,rfl,rfl⟩⟩
   .cases a
  |new=>
   simp only[dn,ee,o2,and_true] at a;subst a;rw[t.row x c [] y w];exact⟨⟨f,v,.aap c []⟩,λ_=>rfl,rfl,rfl,.inr ⟨rfl,rfl,t.pos c⟩⟩
  |gone=>simp[dn] at a
  |bad=>simp[dn] at a
 |box H C=>
  cases i with
  |bG q=>
   simp only[dn] at a
   split at a
   .rename_i K J h;obtain⟨g,d⟩:=a8 a;obtain rfl:=beq_eq g;obtain⟨o,m,p⟩:=pd ρ C l s.len.1;have n:=Kg d;exact⟨⟨f,v,.box H o⟩,λe=>by simp only[dI,m e],rfl,rfl,.inl ⟨q,_,rfl,h,rfl,by simp[aY,p,n],rfl⟩⟩
   .cases a
  |new=>simp[dn] at a
  |gone=>simp[dn] at a
  |bad=>simp[dn] at a
 |dead=>cases i <;> simp[dn] at a
 |refs c D=>
  cases i with
  |bG q=>
   simp only[dn] at a
   split at a
   .rename_i G L h;obtain⟨g,d⟩:=a8 a;obtain rfl:=beq_eq g;obtain⟨o,m,p⟩:=pd ρ (iQ D) l s.len.1;have n:=Kg d;exact⟨⟨f,v,.hole c [] o⟩,λe=>by simp only[dI,m e],rfl,rfl,.inl ⟨q,_,rfl,h,rfl,rfl,by simp[aY,db,p,n]⟩⟩
   .cases a
  |new=>simp[dn] at a
  |gone=>simp[dn] at a
  |bad=>simp[dn] at a
def Fq{c:List (Ob B.D)}:∀(a:List Nat) (b:List (TV B.D)),gJ c (iQ a) b=[]
 |[],[]=>rfl
 |[],_::_=>rfl
 |q::a,[]=>rfl
 |q::a,d::b=>by
  simp only[iQ,gJ,jn,aX];exact Fq a b
def QY:∀(a:List Nat),CP.gA (iQ a)=[]
 |[]=>rfl
 |q::a=>by simp only[iQ,CP.gA,CP.bX,aX];exact QY a
def uA{d:Nat->Type}{c:Nat->Nat×Nat}:∀(b:List Nat) (a:List (TV d)),jD c (iQ b) a=(b.map λq=>.fl (c q).1 (c q).2,a)
 |[],a=>rfl
 |q::b,a=>by simp only[iQ,jD,hO,uA b a,hz]
def Fw{k:List (Ob B.D)}{i:List Rf}{l:List Nat}:∀{e:List Nat} {f h:List (TV B.D)},fg k i l (iQ e) f=c5 h->∀c,c∈f->(pv B c).cells=[pv B c]
 |[],[],_,_,c,a=>by cases a
 |[],_::_,_,a,_,_=>by simp[iQ,fg] at a
 |q::e,[],_,a,_,_=>by simp[iQ,fg] at a
 |q::e,c::f,h,a,b,d=>by
  simp only[iQ,fg] at a;obtain⟨n,m,g,j,_⟩:=iK a;rcases dd.1 d with rfl |d
  .cases b <;> simp only[eR] at g <;> first |rfl |cases g
  .exact Fw j b d
def apB(F:cU P B){g:Gh}{y aa:List (Ob B.D)}{S:World}{ac:List Rf}{Q:List Nat}{ah:Nat->Option Nat}{fz:Nat->Prop}{I:Nat->Nat×Nat}(T:mR B g y aa S ac Q ah I){A:OP}{q:Nat}{K J:List (TV B.D)}{U v:Nat}{H:Ob B.D}
 (ao:∀ag G U v ad u,A= .box ag G->nth y q=c5 ⟨U,v,.box ad u⟩->∀i,i∈gJ y G u->i∉Q->fz i) (h:dn y ac Q A (.bG q)=c5 K) (N:eJ B A.bX K J) (m:∀ae,dI I U v A (J++ae)=(H,ae)):
 (∀(i:Nat) (a:PV),(aY B H).es[i]?=c5 a->a.cells.length=(aY B H).sz)/\
 ∃ab,nth y q=c5 ab/\∀i d l,abk (aY B H).es i d=c5 l->∃n,abk (aY B ab).es i d=c5 n/\∀s,VR g (av B y) S n s->VR (dj g ah fz) (av B aa) S l s:=by
 have m:=m [];rw[ft] at m;cases A with
 |aap D n=>
  obtain⟨p,aq,rfl,aj,rfl⟩:=N.one;simp only[dn] at h
  split at h
  .rename_i ar Y t;obtain⟨x,o⟩:=a8 h;obtain rfl:=beq_eq x;simp only[ee,o2,and_true] at o;subst o;rw[F.row n D Y aq aj] at m;simp only[dI,h5,and_true] at m;subst m;have ax:∀a,a∈Y.map (B.ty D).enc->cE 0 a:=J2 F;refine⟨λi a j=>?_,_,t,λi d l b=>⟨l,b,λs E=>.aW ((E.dH (nR ax b)).mono (λ_ ai=>.inl ai) λ_ _=>rfl)⟩⟩
   obtain⟨aw,_,rfl⟩:=ey.1 (ej j);exact F.wid D aw
  .cases h
 |box ag G=>
  simp only[dn] at h
  split at h
  .rename_i ad u t;obtain⟨x,o⟩:=a8 h;obtain⟨_,M⟩:=rm (fz:=fz) F T G u K (ao _ _ _ _ _ _ rfl t) o;obtain⟨w,L,an,_,O⟩:=M J N;have a:=L [];rw[ft] at a;simp only[dI,a,h5,and_true] at m;subst m;refine⟨λi a j=>?_,_,t,λi d l b=>?_⟩
   .match i,j with
    |0,j=>
     simp only[aY,kc,ee] at j;subst j;simp[aY,PV.cells,db]
   .match i,b with
    |0,b=>
     have C:(aP B w)[d]?=c5 l:=b;have W:d<(aP B u).length:=by have:=c9 C;omega
     exact⟨(aP B u)[d],c4 W,λs E=>O d _ l s (c4 W) C E⟩
  .cases h
 |dead=>simp[dn] at h
 |refs D X=>
  simp only[dn] at h
  split at h
  .rename_i ar f t;obtain⟨x,o⟩:=a8 h;obtain rfl:=beq_eq x;obtain⟨_,M⟩:=rm (fz:=fz) F T (iQ X) f K (λi c=>by rw[Fq] at c;cases c) o;obtain⟨w,L,an,_,O⟩:=M J N;have a:=L [];rw[ft] at a;simp only[dI,a,h5,and_true] at m;subst m;have al:w=X.map λq=>.fl (I q).1 (I q).2:=by
    rw[uA] at a;exact(eE a).1.symm
   have ap:∀(p:List (TV B.D)),(∀e,e∈p->(pv B e).cells=[pv B e])->∀i d n,abk (aP B p) i d=c5 n->d=0/\(aP B p)[i]?=c5 n:=λp am i d n b=>by
    unfold abk at b;cases c:(aP B p)[i]? with
    |none=>rw[c] at b;cases b
    |some a=>
     rw[c] at b;have b:a.cells[d]?=c5 n:=b;rw[db,ec] at c;cases k:p[i]? with
     |none=>rw[k] at c;cases c
     |some e=>
      rw[k] at c;injection c with c
      subst c;rw[am e (ej k)] at b;cases d with
      |zero=>injection b with b;exact⟨rfl,by rw[b]⟩
      |succ d=>simp at b
   have af:∀e,e∈w->(pv B e).cells=[pv B e]:=λe k=>by
    rw[al] at k;obtain⟨q,_,rfl⟩:=ey.1 k
    rfl
   refine⟨λi a j=>?_,_,t,λi d l b=>?_⟩
   .have j:(aP B w)[i]?=c5 a:=j;have c:i<(aP B f).length:=by have:=c9 j;omega
    have au:=(T.m.obj _ _ (df t)).width i _ (show(aY B ⟨_,_,.hole D [] f⟩).es[i]?=c5 (aP B f)[i] from c4 c);have x:(aP B f)[i].cells.length=1:=by
     have V:(aP B f)[i]∈f.map (pv B):=by rw[<-db];exact q6 c
     obtain⟨e,k,z⟩:=ey.1 V;rw[<-z,Fw o e k]
     rfl
    have ak:a.cells.length=1:=by
     rw[db] at j;obtain⟨e,k,z⟩:=ey.1 (ej j);rw[<-z,af e k]
     rfl
    rw[ak, <-x,au]
    rfl
   .obtain⟨rfl,C⟩:=ap w af i d l b;have c:i<(aP B f).length:=by have:=c9 C;omega
    have Z:(aP B f)[i]?=c5 (aP B f)[i]:=c4 c;refine⟨(aP B f)[i],?_,λs E=>O i _ l s Z C E⟩
    unfold abk;show((aP B f)[i]?.bind λa=>a.cells[0]?)=_
    rw[Z];have V:(aP B f)[i]∈f.map (pv B):=by rw[<-db];exact q6 c
    obtain⟨e,k,z⟩:=ey.1 V;rw[<-z];show(pv B e).cells[0]?=_
    rw[Fw o e k]
    rfl
  .cases h
def xN{g:List (Ob B.D)}{k:List Rf}{j:List Nat}{ρ:Nat->Nat×Nat}(X:cU P B):∀{D:List (Nat×List Nat×OP)} {x:List Rf} {d n:List (TV B.D)} {q0:Nat},iP g k j D x=c5 d->eJ B (rS D) d n->
 ∃G,(∀u,lM ρ q0 D (n++u)=(G,u))/\G.length=x.length/\∀h i,x[h]?=c5 i->∃p K J H,G[h]?=c5 H/\dn g k j p i=c5 K/\eJ B p.bX K J/\(∀u,dI ρ 0 (ρ (q0+h)).2 p (J++u)=(H,u))/\
  ∀w e C N v I z,p= .box w e->i= .bG C->nth g C=c5 ⟨N,v,.box I z⟩->∀F,F∈gJ g e z->F∈eW g D x
 |[],[],d,n,q0,a,s=>by
  simp only[iP,ee] at a;subst a;cases n with
  |nil=>exact⟨[],λ_=>rfl,rfl,by simp⟩
  |cons M n=>exact s.elim
 |A::D,i::x,d,n,q0,a,s=>by
  simp only[iP] at a;obtain⟨t,L,c,y,rfl⟩:=iK a;have al:t.length=A.2.2.bX.length:=by
   have:=s.len.2;cases m:A.2.2 with
   |aap M l=>
    rw[m] at c;cases i <;> simp only[dn] at c
    .split at c
     .obtain⟨_,c⟩:=a8 c;injection c with c;subst c;rfl
     .cases c
    .injection c with c;subst c;rfl
    .cases c
    .cases c
   |box w e=>
    rw[m] at c;cases i <;> simp only[dn] at c
    .split at c
     .obtain⟨_,c⟩:=a8 c;exact Q7 c
     .cases c
    .cases c
    .cases c
    .cases c
   |dead=>rw[m] at c;cases i <;> simp[dn] at c
   |refs M ac=>
    rw[m] at c;cases i <;> simp only[dn] at c
    .split at c
     .obtain⟨_,c⟩:=a8 c;exact Q7 c
     .cases c
    .cases c
    .cases c
    .cases c
  obtain⟨am,aw,rfl,Y,ah⟩:=eJ.split s al;obtain⟨G,ak,af,ab⟩:=xN (ρ:=ρ) (q0:=q0+1) X y ah;obtain⟨T,V,_⟩:=mS X (ρ:=ρ) 0 (ρ q0).2 c Y;refine⟨T::G,λu=>by simp only[lM];rw[dv,V,ak],by simp[af],λh ag E=>?_⟩
  cases h with
  |zero=>
   simp at E;subst E;refine⟨A.2.2,t,am,T,rfl,c,Y,V,λw e C N v I z m E Q F S=>?_⟩
   obtain⟨aa,ai,O⟩:=A;obtain rfl:O= .box w e:=m;subst E;simp only[eW,Q,bK,c6];exact .inl S
  |succ h=>
   obtain⟨p,K,J,H,aj,W,Z,ae,an⟩:=ab h ag (by simpa using E);refine⟨p,K,J,H,by simpa using aj,W,Z,by rw[show q0+(h+1)=q0+1+h by omega];exact ae,λw e C N v I z m ap Q F S=>?_⟩
   have:=an w e C N v I z m ap Q F S;obtain⟨aa,ai,O⟩:=A;cases O with
   |aap M l=>simpa[eW] using this
   |dead=>simpa[eW] using this
   |refs M ac=>simpa[eW] using this
   |box aq ar=>
    cases i with
    |bG W=>simp only[eW,bK,c6];exact .inr this
    |new=>simpa[eW] using this
    |gone=>simpa[eW] using this
    |bad=>simpa[eW] using this
 |[],_::_,d,n,q0,a,s=>by simp[iP] at a
 |_::_,[],d,n,q0,a,s=>by simp[iP] at a
where
 Q7 {g:List (Ob B.D)} {k:List Rf} {j:List Nat}:∀{e:List CP} {o d:List (TV B.D)},fg g k j e o=c5 d->d.length=(CP.gA e).length:=λ{e o d} a=>(pp e o d a)
 pp {g:List (Ob B.D)} {k:List Rf} {j:List Nat}:∀(e:List CP) (o d:List (TV B.D)),fg g k j e o=c5 d->d.length=(CP.gA e).length
  |[],[],d,a=>by simp[fg] at a;subst a;rfl
  |l::e,f::o,d,a=>by
   simp only[fg] at a;obtain⟨t,L,c,y,rfl⟩:=iK a;simp only[CP.gA,bK,e5,pp e o L y,aj0 l f t c]
  |[],_::_,d,a=>by simp[fg] at a
  |_::_,[],d,a=>by simp[fg] at a
 aj0 {g:List (Ob B.D)} {k:List Rf} {j:List Nat}:∀(l:CP) (f:TV B.D) (d:List (TV B.D)),eR g k j l f=c5 d->d.length=l.bX.length
  | .any,f,d,a=>by simp[eR] at a;subst a;rfl
  | .v ao,f,d,a=>by simp[eR] at a;subst a;rfl
  | .p q,f,d,a=>by
   simp only[eR] at a
   split at a
   .split at a
    .obtain⟨_,a⟩:=a8 a;injection a with a;subst a;rfl
    .cases a
   .cases a
  | .r q,f,d,a=>by
   simp only[eR] at a
   split at a
   .split at a
    .obtain⟨_,a⟩:=a8 a;injection a with a;subst a;rfl
    .obtain⟨_,a⟩:=a8 a;injection a with a;subst a;rfl
    .cases a
   .split at a
    .injection a with a;subst a;rfl
    .cases a
   .split at a
    .injection a with a;subst a;rfl
    .cases a
   .cases a
  | .q e,f,d,a=>by
   simp only[eR] at a
   split at a
   .rename_i i au
    split at a
    .cases U:has j i with
     |true=>rw[U] at a;cases a
     |false=>
      rw[U] at a;obtain⟨_,a⟩:=a8 a;exact pp e _ d a
    .cases a
   .obtain⟨_,a⟩:=a8 a;exact pp e _ d a
   .cases a
  | .f av e ad,f,d,a=>by
   simp only[eR] at a
   split at a
   .obtain⟨_,a⟩:=a8 a;obtain⟨t,L,c,y,rfl⟩:=iK a;simp only[CP.bX,bK,e5,pp e _ t c,pp ad _ L y]
   .cases a
  | .g e,f,d,a=>by
   simp only[eR] at a
   split at a
   .exact pp e _ d a
   .cases a
  | .b b,f,d,a=>by
   simp only[eR] at a
   split at a
   .rename_i l;cases b <;> cases l <;> simp at a <;> (subst a;rfl)
   .cases a
  | .i h ao,f,d,a=>by
   simp only[eR] at a
   split at a
   .obtain⟨_,a⟩:=a8 a;obtain⟨_,a⟩:=a8 a;injection a with a;subst a;rfl
   .cases a
  | .ns,f,d,a=>by
   simp only[eR] at a
   split at a
   .injection a with a;subst a;rfl
   .cases a
  | .z,f,d,a=>by
   simp only[eR] at a
   split at a
   .injection a with a;subst a;rfl
   .cases a
def Ip(C:cU P B){g:Gh}{v:List (Ob B.D)}{e:St B.D}{z:World}{w:List Rf}{s:List Nat}{D:Nat->Option Nat}{fz:Nat->Prop}{n:Nat->Nat×Nat}(A:mR B g e.H v z w s D n):∀{b:List (Nat×CP)} {j f:List (TV B.D)},(∀i,i∈gK e b->i∉s->fz i)->oz e w s b=c5 j->eJ B (vu b) j f->
 ∀d a,(∃c h,(a,c)∈b/\lk (aX (gR n b f) d) a=h/\Sb B g e.H v z D fz c (lk e.E a) h)\/((∀c,(a,c)∉b)/\lk (aX (gR n b f) d) a=lk d a)
 |[],j,f,_,u,x,d,a=>by
  exact .inr ⟨by simp,rfl⟩
 |p::b,j,f,y,u,x,d,a=>by
  simp only[oz] at u;obtain⟨H,T,K,F,rfl⟩:=iK u;obtain⟨N,S⟩:=RY (fz:=fz) C A p.2 _ H (λi q=>y i (by simp only[gK,bK,c6];exact .inl q)) K;obtain⟨O,U,rfl,L,I⟩:=eJ.split x N;obtain⟨h,J,Q⟩:=S O L;simp only[gR,J,aX,lk];cases k:fe p.1 a with
  |true=>
   obtain rfl:=beq_eq k;exact .inl ⟨p.2,h,by simp,rfl,Q⟩
  |false=>
   have M:p.1≠a:=λo=>by rw[o,hQ] at k;cases k
   rcases Ip (fz:=fz) C A (λi q=>y i (by simp only[gK,bK,c6];exact .inr q)) F I d a with⟨c,G,t,m,E⟩ |⟨t,m⟩
   .exact .inl ⟨c,G,c7 _ t,m,E⟩
   .exact .inr ⟨λc l=>by
     rcases dd.1 l with o |l
     .exact M (by rw[<-o])
     .exact t c l,m⟩
def oQ{d:List (Ob B.D)}{c:List Rf}{e:List Nat}:∀{f:List (Nat×List Nat×OP)} {g:List Rf} {b:List (TV B.D)},iP d c e f g=c5 b->b.length=(rS f).length
 |[],[],b,a=>by simp[iP] at a;subst a;rfl
 |q::f,i::g,b,a=>by
  simp only[iP] at a;obtain⟨p,o,l,j,rfl⟩:=iK a;simp only[rS,bK,e5,oQ j,rD l]
 |[],_::_,b,a=>by simp[iP] at a
 |_::_,[],b,a=>by simp[iP] at a
where
 rD {d:List (Ob B.D)} {c:List Rf} {e:List Nat} {op:OP} {i:Rf} {b:List (TV B.D)} (a:dn d c e op i=c5 b):b.length=op.bX.length:=by
  cases op with
  |aap m s=>
   cases i <;> simp only[dn] at a
   .split at a
    .obtain⟨_,a⟩:=a8 a;injection a with a;subst a;rfl
    .cases a
   .injection a with a;subst a;rfl
   .cases a
   .cases a
  |box n h=>
   cases i <;> simp only[dn] at a
   .split at a
    .obtain⟨_,a⟩:=a8 a;exact xN.pp h _ b a
    .cases a
   .cases a
   .cases a
   .cases a
  |dead=>cases i <;> simp[dn] at a
  |refs m k=>
   cases i <;> simp only[dn] at a
   .split at a
    .obtain⟨_,a⟩:=a8 a;exact xN.pp (iQ k) _ b a
    .cases a
   .cases a
   .cases a
   .cases a
def gV:∀{b:List Rf} {q i:Nat},nth b q=c5 (.bG i)->i∈bL b
 | .bG c::b,0,i,a=>by simp only[nth,ee,Rf.bG.injEq] at a;subst a;simp[bL]
 | .bG c::b,q+1,i,a=>by simp only[nth] at a;simp[bL,gV a]
 | .new::b,q+1,i,a=>by simp only[nth] at a;simpa[bL] using gV a
 | .gone::b,q+1,i,a=>by simp only[nth] at a;simpa[bL] using gV a
 | .bad::b,q+1,i,a=>by simp only[nth] at a;simpa[bL] using gV a
 | .new::_,0,i,a=>by simp[nth] at a
 | .gone::_,0,i,a=>by simp[nth] at a
 | .bad::_,0,i,a=>by simp[nth] at a
 |[],_,_,a=>by simp[nth] at a
def ES:∀{ids:List Rf} {q d i:Nat},(bL ids).Nodup->nth ids q=c5 (.bG i)->nth ids d=c5 (.bG i)->q=d
 |[],_,_,_,_,b,_=>by simp[nth] at b
 |_::_,0,0,_,_,_,_=>rfl
 |e::ids,0,d+1,i,a,b,c=>by
  simp only[nth,ee] at b c;subst b;simp only[bL,k8] at a;exact absurd (gV c) a.1
 |e::ids,q+1,0,i,a,b,c=>by
  simp only[nth,ee] at b c;subst c;simp only[bL,k8] at a;exact absurd (gV b) a.1
 |e::ids,q+1,d+1,i,a,b,c=>by
  have f:(bL ids).Nodup:=by
   cases e <;> simp only[bL,k8] at a <;> first |exact a.2 |exact a
  rw[ES (ids:=ids) f b c]
def eQ(a:List Rf)(q:Nat):Option Nat:=match nth a q with
 |some (.bG i)=>c5 i
 |_=>ea
def qS{b:List Rf}{q i:Nat}(a:eQ b q=c5 i):nth b q=c5 (.bG i):=by
 unfold eQ at a
 split at a
 .rename_i d c;injection a with a
  rw[c,a]
 .cases a
def pn{a:List Rf}{q i:Nat}(b:nth a q=c5 (.bG i)):eQ a q=c5 i:=by unfold eQ;rw[b]
end
section
variable {P:Program}{B:Tb}{R:Type}{r:R}
def Qq{o:Nat->Type}{g:List (Ob o)}:∀{c b:Nat} {e:List Rf},qH g c b e=true->∀i,i<c->nth e i=c5 (.bG (b+i))/\∃d,nth g (b+i)=c5 d/\d.aF=0
 |0,_,_,_,i,j=>by omega
 |c+1,b,[],a,_,_=>by simp[qH] at a
 |c+1,b,.bG h::e,a,i,j=>by
  simp only[qH] at a;obtain⟨l,f⟩:=fu a;obtain rfl:=beq_eq l
  split at f
  .rename_i d m;obtain⟨k,n⟩:=fu f;cases i with
   |zero=>exact⟨rfl,d,m,beq_eq k⟩
   |succ i=>
    have:=Qq n i (by omega);rw[show h+(i+1)=h+1+i by omega];exact this
  .cases f
 |c+1,b,.new::_,a,_,_=>by simp[qH] at a
 |c+1,b,.gone::_,a,_,_=>by simp[qH] at a
 |c+1,b,.bad::_,a,_,_=>by simp[qH] at a
def oU{c:List (Ob B.D)}{i:Nat}{e:aO}(a:(av B c)[i]?=c5 e):∃b,nth c i=c5 b/\e=aY B b:=by
 unfold av at a;rw[ec] at a;cases d:c[i]? with
 |none=>rw[d] at a;cases a
 |some b=>
  rw[d] at a;injection a with a
  exact⟨b,by rw[cJ];exact d,a.symm⟩
def O1(G:cU P B){g:Gh}{j k:List (Ob B.D)}{y:World}{b:List Rf}{t:Nat->Prop}{K:Nat->Nat×Nat}(z:mR B g j k y b (bL b) (eQ b) K)(ai:(bL b).Nodup)(ay:b.length<=k.length)(al:∀i,t i->∀q,eQ b q≠c5 i)
 (u:∀q c,nth k q=c5 c->(∃m i F D s v,nth b q=c5 (.bG i)/\(∀X A s v ae H,m= .box X A->nth j i=c5 ⟨s,v,.box ae H⟩->∀i,i∈gJ j A H->i∉bL b->t i)/\dn j b (bL b) m (.bG i)=c5 F/\eJ B m.bX F D/\∀Q,dI K s v m (D++Q)=(c,Q))\/
  (∃i l,nth b q=c5 (.bG i)/\nth j i=c5 l/\c=l/\∀x T,VR g (av B j) y x T->(∃E p o,aY B l=E/\abk E.es p o=c5 x\/cE 0 x)->VR (dj g (eQ b) t) (av B k) y x T)\/
  (eQ b q=ea/\(aY B c).es=[]/\0<(aY B c).sz)):bF (dj g (eQ b) t) (av B k) y:=by
 refine bF.re z.m al (λq aA i h af=>ES ai (qS h) (qS af)) (λq i h=>?_) λq E ag=>?_
 .have h:=qS h;rw[cJ] at h;have:=c9 h;rw[qL];omega
 .obtain⟨c,aq,rfl⟩:=oU ag;rcases u q c aq with⟨m,i,F,D,s,v,n,ah,d,J,Y⟩ |⟨i,l,n,U,rfl,aa⟩ |⟨a,f,au⟩
  .obtain⟨ap,an,_,_,aw⟩:=mS G s v d J;obtain rfl:ap=c:=by
    have ab:=an [];have O:=Y [];rw[ab] at O;exact(eE O).1
   obtain⟨ak,l,C,Z⟩:=apB G z ah d J Y;rcases aw with⟨L,az,e,w,ar,M,aj⟩ |⟨e,_⟩
   .injection e with e
    subst e;rw[C] at w;injection w with w
    subst w;have ax:=(z.m.obj i _ (df C)).pos;refine⟨by rw[M];exact ax,ak,λa=>?_,λL a=>?_⟩
    .rw[pn n] at a;cases a
    .rw[pn n] at a;injection a with a
     subst a;exact⟨_,df C,ar,M,aj,Z⟩
   .cases e
  .have u:=z.m.obj i _ (df U);refine⟨u.pos,u.width,λa=>?_,λL a=>?_⟩
   .rw[pn n] at a;cases a
   .rw[pn n] at a;injection a with a
    subst a;refine⟨_,df U,rfl,rfl,rfl,λp o V d=>⟨V,d,λad am=>aa V ad am ?_⟩⟩
    cases I:c.bd with
    |aap W ac=>
     refine⟨aY B c,p,o,.inr (nR (es:=(aY B c).es) (λe f=>?_) d)⟩
     simp only[aY,I] at f;obtain⟨ao,_,rfl⟩:=ey.1 f;exact G.lt W ao
    |box X A=>
     exact⟨aY B c,p,o,.inl ⟨rfl,d⟩⟩
    |hole W ac es=>
     exact⟨aY B c,p,o,.inl ⟨rfl,d⟩⟩
    |dead=>
     obtain⟨e,f,_⟩:=gw d;simp[aY,I] at f
  .refine⟨au,λi e S=>?_,λ_=>f,λi N=>?_⟩
   .rw[f] at S;simp at S
   .rw[a] at N;cases N
def PQ(u:cU P B){p:bY}{c:St B.D}{a:List Rf}{U:List (TV B.D)}{s:bi B.D p.bX}(w:leaves p c a=c5 U)(ab:eJ B p.bX U (rQ B p.bX s)){g:Gh}{e:World}(ao:bF g (av B c.H) e)
 {fz:Nat->Prop} (ae:∀i,fz i->∀q,eQ a q≠c5 i) (V:∀i,i∈aX (eW c.H p.dF a) (gK c p.dE)->i∉bL a->fz i):
 (bL a).Nodup/\mR B g c.H (cz B p s).H e a (bL a) (eQ a) (λq=>(q,0))/\bF (dj g (eQ a) fz) (av B (cz B p s).H) e/\
  ∀t v,VR g (av B c.H) e (pv B (lk c.E t)) v->VR (dj g (eQ a) fz) (av B (cz B p s).H) e (pv B (lk (cz B p s).E t)) v:=by
 unfold leaves at w;obtain⟨au,w⟩:=a8 w;obtain⟨S,w⟩:=a8 w;obtain⟨ax,aA,T,X,rfl⟩:=iK w;obtain⟨D,I,ap,aq,ah⟩:=eJ.split ab (oQ T);obtain⟨F,al,aw,G⟩:=xN u (ρ:=λq=>(q,0)) (q0:=0) T aq;have Z:cz B p s=⟨gR (λq=>(q,0)) p.dE I,F⟩:=by
  unfold cz nI;rw[ap,al]
 rw[Z];have K:mR B g c.H F e a (bL a) (eQ a) (λq=>(q,0)):=by
  refine⟨ao,λ_=>rfl,λq i n=>⟨pn n,?_⟩,λq n=>⟨by unfold eQ;rw[n],?_⟩⟩
  .obtain⟨H,J,D,A,f,h,k,m,O⟩:=G q _ (by rw[<-cJ];exact n);obtain⟨j,y,_,l,z⟩:=mS u (ρ:=λq=>(q,0)) 0 0 h k;obtain rfl:j=A:=by
    have x:=y [];have d:=m [];rw[x] at d;exact(eE d).1
   rcases z with⟨C,L,b,ag,aB,ad,aj⟩ |⟨b,_⟩
   .injection b with b
    subst b;exact⟨L,j,ag,by rw[cJ];exact f,l,ad,aj⟩
   .cases b
  .obtain⟨H,J,D,A,f,h,k,m,O⟩:=G q _ (by rw[<-cJ];exact n);obtain⟨j,y,_,l,z⟩:=mS u (ρ:=λq=>(q,0)) 0 0 h k;obtain rfl:j=A:=by
    have x:=y [];have d:=m [];rw[x] at d;exact(eE d).1
   rcases z with⟨C,L,b,_⟩ |⟨_,M,_⟩
   .cases b
   .exact⟨j,by rw[cJ];exact f,l,M⟩
 refine⟨(tw _).1 S,K,O1 u K ((tw _).1 S) (show a.length<=F.length by omega) ae λq af Q=>?_,λt v l=>?_⟩
 .rw[cJ] at Q;have n:q<F.length:=c9 Q;have o:a[q]?=c5 a[q]:=c4 (by omega);obtain⟨H,J,D,A,f,h,k,m,O⟩:=G q _ o;rw[Q] at f;injection f with f
  subst f;have E:nth a q=c5 a[q]:=by rw[cJ];exact o
  obtain⟨j,y,_,l,z⟩:=mS u (ρ:=λq=>(q,0)) 0 0 h k;obtain rfl:j=af:=by
   have x:=y [];have d:=m [];rw[x] at d;exact(eE d).1
  rcases z with⟨C,L,b,_⟩ |⟨b,M,ar⟩
  .rw[b] at E h;exact .inl ⟨H,C,J,D,_,_,E,λan W am v ac aa ai ak i o N=>V i (by rw[bK,c6];exact .inl (O an W C am v ac aa ai b ak i o)) N,h,k,m⟩
  .rw[b] at E;exact .inr (.inr ⟨by unfold eQ;rw[E],M,ar⟩)
 .have:=Ip u K (λi o N=>V i (by rw[bK,c6];exact .inr o) N) X ah [] t;rw[bK,ft] at this;rcases this with⟨az,ay,_,b,Y⟩ |⟨_,b⟩
  .show VR _ _ e (pv B (lk (gR _ p.dE I) t)) v
   rw[b];exact Y.2 v l
  .show VR _ _ e (pv B (lk (gR _ p.dE I) t)) v
   rw[b];exact .any v
def EK(J:cU P B){o:Nat}{p:bY}{c:St B.D}{j:bi B.D p.bX->Option R}(a:take B o p c j=c5 r){g:Gh}{w:World}(K:bF g (av B c.H) w):
 ∃b,j b=c5 r/\∃f,bF f (av B (cz B p b).H) w/\Bml.GStep o g (av B c.H) w f (av B (cz B p b).H) w/\∀m v,VR g (av B c.H) w (pv B (lk c.E m)) v->VR f (av B (cz B p b).H) w (pv B (lk (cz B p b).E m)) v:=by
 unfold take at a;obtain⟨n,a⟩:=a8 a;obtain⟨S,s,a⟩:=fq a;obtain⟨b,E,A⟩:=Ae a;refine⟨b,E,?_⟩
 generalize T:nQ c p.dF=y at n s;obtain⟨_,G,C,u⟩:=PQ J s A K (fz:=λi=>∀q,eQ y q≠c5 i) (λ_ a=>a) (λi _ h q z=>h (gV (qS z)));refine⟨_,C,?_,u⟩
 refine Bml.GStep.re λi x h H=>?_
 obtain⟨N,k,rfl⟩:=oU H;obtain⟨l,x,d,I⟩:=Qq n i h;rw[e6] at l d;rw[k] at d;injection d with d
 subst d;obtain⟨D,M,Q,e,L,O,F,t⟩:=G.bG i i l;rw[k] at e;injection e with e
 subst e;exact⟨_,df L,by rw[e7,e7,I];exact l2 _,λ_=>⟨D,F,t⟩⟩
end
structure Ext {D:Nat->Type} (ws:List Nat) (S0 S:St D):Prop where
 e:∀t,t∉ws->lk S.E t=lk S0.E t
 len:S0.H.length<=S.H.length
 h:∀i o0 o,nth S0.H i=c5 o0->nth S.H i=c5 o->o0.st<=o.st/\(o0.st=o.st->o=o0)
def Ext.refl{D:Nat->Type}(d:List Nat)(c:St D):Ext d c c:=⟨λ_ _=>rfl,ef _,λi e j h a=>by rw[h] at a;injection a with a;subst a;exact⟨ef _,λ_=>rfl⟩⟩
def Ext.trans{D:Nat->Type}{c:List Nat}{n a d:St D}(h:Ext c n a)(k:Ext c a d):Ext c n d:=by
 refine⟨λt ht=>(k.e t ht).trans (h.e t ht),la h.len k.len,λi l m h0 s=>?_⟩
 have hi:i<a.H.length:=by
  rw[cJ] at h0;have:=c9 h0;have:=h.len;omega
 have j:nth a.H i=c5 a.H[i]:=by rw[cJ];exact c4 hi
 obtain⟨a1,u⟩:=h.h i l _ h0 j;obtain⟨x,y⟩:=k.h i _ m j s;refine⟨la a1 x,λe=>?_⟩
 have o:l.st=a.H[i].st:=by omega
 have w:a.H[i].st=m.st:=by omega
 rw[y w,u o]
def Ext.more{D:Nat->Type}{c a:List Nat}{e d:St D}(h:Ext c e d)(j:∀t,t∈c->t∈a):Ext a e d:=
 ⟨λt ht=>h.e t λk=>ht (j t k),h.len,h.h⟩
section
variable {P:Program}{B:Tb}{R:Type}{r:R}
def I5{e:Type}:∀{ch:List (Nat×e)} {H:List e},(ch.map (·.1)).Nodup->(∀i a,(i,a)∈ch->i<H.length->nth (b8 H ch) i=c5 a)/\∀i,i∉ch.map (·.1)->nth (b8 H ch) i=nth H i
 |[],H,_=>⟨λi a j=>by simp at j,λi _=>rfl⟩
 |p::ch,H,c=>by
  simp only[hz,k8] at c;obtain⟨g,f⟩:=I5 (ch:=ch) (H:=me H p.1 p.2) c.2;refine⟨λi a d b=>?_,λi b=>?_⟩
  .rcases dd.1 d with rfl |d
   .show nth (b8 (me H i a) ch) i=c5 a
    rw[f i c.1,cJ,iL,ev b]
   .exact g i a d (by rw[iL,h6];exact b)
  .simp only[hz,dd,not_or] at b;show nth (b8 (me H p.1 p.2) ch) i=_
   rw[f i b.2,cJ,cJ,iL,eH (λh=>b.1 h.symm)]
def aov(a:List (Nat×Bool×OP)):DZ a=a.map (·.1):=by
 induction a with
 |nil=>rfl
 |cons c a b=>simp[DZ,b]
def adx{e:List (Nat×Bool×OP)}{i:Nat}(c:bN e i=false):∀a,a∈e->a.1≠i:=by
 induction e with
 |nil=>intro a b;cases b
 |cons g e f=>
  simp only[bN] at c;cases d:fe g.1 i with
  |true=>rw[d] at c;cases c
  |false=>
   rw[d] at c;intro a b;rcases dd.1 b with rfl |b
   .intro h;rw[h,hQ] at d;cases d
   .exact f c a b
def adS{a:List (Nat×Bool×OP)}{i:Nat}(c:bN a i=true):∃b,b∈a/\b.1=i:=by
 induction a with
 |nil=>cases c
 |cons e a g=>
  simp only[bN] at c;cases d:fe e.1 i with
  |true=>exact⟨e,by simp,beq_eq d⟩
  |false=>
   rw[d] at c;obtain⟨b,h,f⟩:=g c;exact⟨b,c7 _ h,f⟩
def IM{b:List (Nat×Bool×OP)}{i:Nat}(a:bN b i=false):gone b i=false:=by
 induction b with
 |nil=>rfl
 |cons e b d=>
  simp only[bN] at a;cases c:fe e.1 i with
  |true=>rw[c] at a;cases a
  |false=>rw[c] at a;simp only[gone,c,cond_false];exact d a
def rc{b:List (Nat×Bool×OP)}{a:Nat×Bool×OP}(d:(b.map (·.1)).Nodup)(c:a∈b):gone b a.1=a.2.2.qj/\mw.kv b a.1=a.2.1/\bN b a.1=true:=by
 induction b with
 |nil=>cases c
 |cons e b h=>
  simp only[hz,k8] at d;rcases dd.1 c with rfl |c
  .simp[gone,mw.kv,bN,hQ]
  .have i:fe e.1 a.1=false:=by
    cases g:fe e.1 a.1 with
    |false=>rfl
    |true=>exact absurd (by rw[beq_eq g];exact hY (f:=(·.1)) c) d.1
   simp only[gone,mw.kv,bN,i,cond_false];exact h d.2 c
def Jf(d:List (Nat×Bool×OP)):∀(b a:Nat) (c:List Rf) (q:Nat),nth (nL d b a c) q=if q<b then c5 (bif gone d (a+q) then .gone else .bG (a+q)) else nth c (q -b)
 |0,a,c,q=>by simp[nL]
 |b+1,a,c,0=>by simp[nL,nth]
 |b+1,a,c,q+1=>by
  simp only[nL,nth];rw[Jf d b (a+1) c q,show a+1+q=a+(q+1) by omega]
  by_cases e:q<b
  .rw[if_pos e,if_pos (by omega)]
  .rw[if_neg e,if_neg (by omega),show q+1 - (b+1)=q -b by omega]
def Pc(d:List (Nat×Bool×OP)):∀(a c:Nat) (b:List Rf),(nL d a c b).length=a+b.length
 |0,c,b=>by simp[nL]
 |a+1,c,b=>by simp[nL,Pc d a];omega
def Ri{p:Nat->Type}{l:List (Nat×Bool×OP)}:∀{h j:List (Ob p)} {g:Nat},calm l g h j=true->∀i a,nth h i=c5 a->∃f,nth j i=c5 f/\(bN l (g+i)=false->a.st=f.st)
 |[],_,_,_,i,a,c=>by simp[nth] at c
 |q::h,b::j,g,c,i,a,e=>by
  simp only[calm] at c;obtain⟨k,n⟩:=fu c;cases i with
  |zero=>
   simp only[nth,ee] at e;subst e;refine⟨b,rfl,λd=>?_⟩
   rw[hS] at d;rw[d] at k;exact beq_eq k
  |succ i=>
   obtain⟨f,o,m⟩:=Ri n i a e;exact⟨f,o,λd=>m (by rw[<-d];congr 1;omega)⟩
 |_::_,[],_,c,i,a,e=>by simp[calm] at c
def vV{s:Nat->Type}{k n:List (Ob s)}:∀{l:List (Nat×Bool×OP)},wH k n l=true->∀a,a∈l->a.1<k.length/\(a.2.1=true->a.2.2≠ .dead/\∃e b,nth k a.1=c5 e/\nth n a.1=c5 b/\e.aF=b.aF)
 |[],_,a,d=>by cases d
 |e::l,c,a,d=>by
  simp only[wH] at c;cases g:e.2.1 with
  |true=>
   rw[g] at c;simp only[cond_true] at c
   split at c
   .rename_i p o j q;cases f:e.2.2.qj with
    |true=>rw[f] at c;cases c
    |false=>
     rw[f] at c;obtain⟨i,h⟩:=fu c;rcases dd.1 d with rfl |d
     .refine⟨by rw[cJ] at j;exact c9 j,λ_=>⟨λa=>(by rw[a] at f;cases f),p,o,j,q,beq_eq i⟩⟩
     .exact vV h a d
   .cases c
  |false=>
   rw[g] at c;simp only[cond_false] at c;obtain⟨i,h⟩:=fu c;rcases dd.1 d with rfl |d
   .refine⟨by rw[<-eu];exact e4 i,λm=>by rw[g] at m;cases m⟩
   .exact vV h a d
def RZ{d:Nat}:∀{e:List (Nat×Bool×OP)},zE d e=true->∀a,a∈e->a.1<d->a.2.1=true/\a.2.2.qj=false
 |[],_,a,b,_=>by cases b
 |m::e,h,a,b,k=>by
  simp only[zE] at h;obtain⟨c,j⟩:=fu h;rcases dd.1 b with rfl |b
  .cases f:m5 d a.1 with
   |true=>have:=e4 f;omega
   |false=>
    rw[f] at c;simp only[cond_false] at c;obtain⟨i,g⟩:=fu c;refine⟨i,?_⟩
    cases l:a.2.2.qj with
    |false=>rfl
    |true=>rw[l] at g;cases g
  .exact RZ j a b k
def NT(w:cU P B){l H0:List (Ob B.D)}{j:List Rf}{k:List Nat}{ρ:Nat->Nat×Nat}:∀{h:List (Nat×Bool×OP)} {x u:List (TV B.D)},pX l j k h=c5 x->eJ B (ux h) x u->x.length=(ux h).length->
 ∃g,(∀e,pU H0 ρ h (u++e)=(g,e))/\g.map (·.1)=h.map (·.1)/\∀i d,(i,d)∈g->∃a,a∈h/\a.1=i/\d.st=dJ H0 i/\d.aF=(ρ i).2/\
  ((a.2.2= .dead/\d.bd= .dead)\/(a.2.2≠ .dead/\∃p o,dn l j k a.2.2 (.bG i)=c5 p/\eJ B a.2.2.bX p o/\∀e,dI ρ (dJ H0 i) (ρ i).2 a.2.2 (o++e)=(d,e)))
 |[],x,u,y,D,_=>by
  simp only[pX,ee] at y;subst y;cases u with
  |nil=>exact⟨[],λ_=>rfl,rfl,λi d m=>by cases m⟩
  |cons A u=>exact D.elim
 |b::h,x,u,y,D,T=>by
  simp only[pX] at y;obtain⟨n,U,c,I,rfl⟩:=iK y;have O:n.length=b.2.2.bX.length:=by
   cases f:b.2.2 with
   |dead=>rw[f] at c;injection c with c;subst c;rfl
   |aap A M=>rw[f] at c;exact oQ.rD (show dn l j k _ (.bG b.1)=c5 n from c)
   |box Q g=>rw[f] at c;exact oQ.rD (show dn l j k _ (.bG b.1)=c5 n from c)
   |refs A J=>rw[f] at c;exact oQ.rD (show dn l j k _ (.bG b.1)=c5 n from c)
  obtain⟨z,F,rfl,q,H⟩:=eJ.split D O;obtain⟨g,v,t,s⟩:=NT w (H0:=H0) (ρ:=ρ) I H H.len.2;cases f:b.2.2 with
  |dead=>
   rw[f] at c q;injection c with c
   subst c;have N:z=[]:=dT q.len.1;subst N;refine⟨(b.1,⟨dJ H0 b.1,(ρ b.1).2,.dead⟩)::g,λe=>by simp only[pU,f,dI,o3,v],by simp[t],λi d m=>?_⟩
   rcases dd.1 m with a |m
   .injection a with e1 e2
    subst e1;subst e2;exact⟨b,by simp,rfl,rfl,rfl,.inl ⟨f,rfl⟩⟩
   .obtain⟨a,E,C⟩:=s i d m;exact⟨a,c7 _ E,C⟩
  |aap A M=>exact GC w (ρ:=ρ) (H0:=H0) b (by rw[f];simp) (by rw[f] at c;rw[f];exact c) q v t s
  |box Q V=>exact GC w (ρ:=ρ) (H0:=H0) b (by rw[f];simp) (by rw[f] at c;rw[f];exact c) q v t s
  |refs A J=>exact GC w (ρ:=ρ) (H0:=H0) b (by rw[f];simp) (by rw[f] at c;rw[f];exact c) q v t s
where
 GC (w:cU P B) {l H0:List (Ob B.D)} {j:List Rf} {k:List Nat} {ρ:Nat->Nat×Nat} {h:List (Nat×Bool×OP)} {n z F:List (TV B.D)} {g:List (Nat×Ob B.D)} (b:Nat×Bool×OP) (hd:b.2.2≠ .dead)
  (c:dn l j k b.2.2 (.bG b.1)=c5 n) (q:eJ B b.2.2.bX n z) (v:∀e,pU H0 ρ h (F++e)=(g,e)) (t:g.map (·.1)=h.map (·.1))
  (s:∀i d,(i,d)∈g->∃a,a∈h/\a.1=i/\d.st=dJ H0 i/\d.aF=(ρ i).2/\
   ((a.2.2= .dead/\d.bd= .dead)\/(a.2.2≠ .dead/\∃p o,dn l j k a.2.2 (.bG i)=c5 p/\eJ B a.2.2.bX p o/\∀e,dI ρ (dJ H0 i) (ρ i).2 a.2.2 (o++e)=(d,e)))):
  ∃g,(∀e,pU H0 ρ (b::h) (z++F++e)=(g,e))/\g.map (·.1)=(b::h).map (·.1)/\∀i d,(i,d)∈g->∃a,a∈b::h/\a.1=i/\d.st=dJ H0 i/\d.aF=(ρ i).2/\
   ((a.2.2= .dead/\d.bd= .dead)\/(a.2.2≠ .dead/\∃p o,dn l j k a.2.2 (.bG i)=c5 p/\eJ B a.2.2.bX p o/\∀e,dI ρ (dJ H0 i) (ρ i).2 a.2.2 (o++e)=(d,e))):=by
  obtain⟨K,G,S,L,_⟩:=mS w (ρ:=ρ) (dJ H0 b.1) (ρ b.1).2 c q;refine⟨(b.1,K)::g,λe=>?_,by simp[t],λi d m=>?_⟩
  .rw[dv];simp only[pU];rw[G];simp only[v]
  .rcases dd.1 m with a |m
   .injection a with e1 e2
    subst e1;subst e2;exact⟨b,by simp,rfl,S,L,.inr ⟨hd,n,z,c,q,G⟩⟩
   .obtain⟨a,E,C⟩:=s i d m;exact⟨a,c7 _ E,C⟩
def HX{h:List (Ob B.D)}{e:List Rf}{f:List Nat}:∀{j:List (Nat×Bool×OP)} {i:List (TV B.D)},pX h e f j=c5 i->i.length=(ux j).length
 |[],i,c=>by simp[pX] at c;subst c;rfl
 |b::j,i,c=>by
  simp only[pX] at c;obtain⟨g,p,a,k,rfl⟩:=iK c;have m:g.length=b.2.2.bX.length:=by
   cases d:b.2.2 with
   |dead=>rw[d] at a;injection a with a;subst a;rfl
   |aap l s=>rw[d] at a;exact oQ.rD (show dn h e f _ (.bG b.1)=c5 g from a)
   |box o n=>rw[d] at a;exact oQ.rD (show dn h e f _ (.bG b.1)=c5 g from a)
   |refs l q=>rw[d] at a;exact oQ.rD (show dn h e f _ (.bG b.1)=c5 g from a)
  simp only[ux,bK,e5,m,HX k]
def D4{h:Nat->Type}(b:List Nat):∀(f:En h) (a:Nat),lk (mN b f) a=if a∈b then .any else lk f a
 |[],a=>by simp[mN,lk]
 |p::r,a=>by
  simp only[mN];cases e:has b p.1 with
  |true=>
   have g:=(oO _ _).1 e;simp only[cond_true,D4 b r a,lk]
   by_cases c:a∈b
   .rw[if_pos c,if_pos c]
   .rw[if_neg c,if_neg c];cases d:fe p.1 a with
    |true=>rw[beq_eq d] at g;exact absurd g c
    |false=>rfl
  |false=>
   simp only[cond_false,lk];cases d:fe p.1 a with
   |true=>
    have:a∉b:=by rw[<-beq_eq d];exact nA e
    rw[if_neg this]
    rfl
   |false=>exact D4 b r a
def Sg{f:List Nat}:∀{d:List (Nat×CP)},ET f d=true->∀a c,(a,c)∈d->a∈f
 |[],_,a,c,b=>by cases b
 |p::d,e,a,c,b=>by
  simp only[ET] at e;obtain⟨h,g⟩:=fu e;rcases dd.1 b with i |b
  .have:=(oO _ _).1 h;rw[<-i] at this;exact this
  .exact Sg g a c b
def cE.UM{f:Nat->Nat->Prop}{c:PV}(h:cE 0 c):Wf f c:=by
 induction h with
 |any=>exact .any
 |bool b=>exact .bool b
 |int k n=>exact .int k n
 |str s=>exact .str s
 |fS=>exact .fS
 |bg=>exact .bg
 |z0=>exact .z0
 |dB=>exact .dB
 |dw a e=>exact .dw a e
 |vs sz es=>exact .vs sz es
 |ptr r v i e h=>omega
 |sl r v off len h=>omega
 |fl r v h=>omega
 |agg a h d=>exact .agg a d
 |bu a h d=>exact .bu a d
 |fn f a j h m d l=>exact .fn f a j d l
end
def F0{c:Nat->Type}(b:List (Ob c))(i v:Nat):Prop:=∃a,nth b i=c5 a/\v<=a.aF
section
variable {P:Program}{B:Tb}{R:Type}{r:R}
structure Cz (B:Tb) (S:St B.D):Prop where
 e:∀t,Wf (F0 S.H) (pv B (lk S.E t))
 h:∀(q:Nat) (o:Ob B.D) (i j:Nat) (c:PV),nth S.H q=c5 o->abk (aY B o).es i j=c5 c->Wf (F0 S.H) c
def UJ(ab:cU P B){aN:Nat}{a J:St B.D}{s:List Nat}{p:lD}{bh:bi B.D p.bX->Option R}(bk:Ext s a J)(cg:aN<=a.H.length)(a6:Cz B a)(h:nW B aN a s p J bh=c5 r){g:Gh}{N:World}(ca:bF g (av B J.H) N):
 ∃X,bh X=c5 r/\Ext s a (ik B a s p X)/\∃g',bF g' (av B (ik B a s p X).H) N/\Bml.GStep aN g (av B J.H) N g' (av B (ik B a s p X).H) N/\
  ∀t v,VR g (av B J.H) N (pv B (lk J.E t)) v->VR g' (av B (ik B a s p X).H) N (pv B (lk (ik B a s p X).E t)) v:=by
 unfold nW at h;obtain⟨bM,h⟩:=a8 h;obtain⟨bJ,h⟩:=a8 h;obtain⟨bp,h⟩:=a8 h;obtain⟨aP,h⟩:=a8 h;obtain⟨bE,h⟩:=a8 h;obtain⟨bt,h⟩:=a8 h;obtain⟨aU,h⟩:=a8 h;obtain⟨bf,b2,h⟩:=fq h;obtain⟨X,b5,ac⟩:=Ae h;refine⟨X,b5,?_⟩
 obtain⟨cd,cb,ar,bB,rfl⟩:=iK b2;obtain⟨cf,co,an,a4,rfl⟩:=iK bB;obtain⟨I,cm,bO,bP,br⟩:=eJ.split ac (HX ar);obtain⟨a7,ay,rfl,bD,bo⟩:=eJ.split br (oQ an);generalize cc:nQ J p.new=ao at bp aP ar an a4;generalize aZ:nL p.dO (Go.X.len a.H) 0 ao=j at aP ar an a4;have ad:(p.dO.map (·.1)).Nodup:=by rw[<-aov];exact(tw _).1 bE
 let ρ:Nat->Nat×Nat:=λq=>(q,mw a.H p.dO q)
 obtain⟨o,bC,a3,b3⟩:=NT ab (H0:=a.H) (ρ:=ρ) ar bP (HX ar);obtain⟨u,bX,cl,aO⟩:=xN ab (ρ:=ρ) (q0:=Go.X.len a.H) an bD;have bn:ik B a s p X=⟨aX (gR ρ p.dE ay) (mN s a.E),aX (b8 a.H o) u⟩:=by
  unfold ik;rw[bO];show(match pU a.H ρ p.dO (I++(a7++ay)) with |(ch,bf)=>_)=_
  rw[bC];show(match lM ρ (Go.X.len a.H) p.new (a7++ay) with |(ce,bf)=>_)=_
  rw[bX]
 rw[bn];have bd:(b8 a.H o).length=a.H.length:=qy _ _;have b6:(o.map (·.1)).Nodup:=by rw[a3];exact ad
 obtain⟨bY,bR⟩:=I5 (ch:=o) (H:=a.H) b6;have cn:(aX (b8 a.H o) u).length=a.H.length+u.length:=by rw[bK,e5,bd]
 have ba:∀q,q<a.H.length->nth (aX (b8 a.H o) u) q=nth (b8 a.H o) q:=λq k=>by
  rw[cJ,cJ,bK,dt (by omega)]
 have aM:∀q,a.H.length<=q->nth (aX (b8 a.H o) u) q=u[q -a.H.length]? :=λq k=>by
  rw[cJ,bK,dk (by omega),bd]
 have Y:∀q,q<a.H.length->nth j q=c5 (bif gone p.dO q then .gone else .bG q):=λq k=>by
  rw[<-aZ,Jf,eu,if_pos k,e6]
 have aI:∀q,a.H.length<=q->nth j q=ao[q -a.H.length]? :=λq k=>by
  rw[<-aZ,Jf,eu,if_neg (by omega),cJ]
 have ci:j.length=a.H.length+ao.length:=by rw[<-aZ,Pc,eu]
 have ax:∀q x,nth a.H q=c5 x->bN p.dO q=false->nth J.H q=c5 x/\nth (aX (b8 a.H o) u) q=c5 x:=λq x m e=>by
  obtain⟨aF,bb,bq⟩:=Ri bt q x m;have c:=(bk.h q x aF m bb).2 (bq (by rw[e6];exact e));refine⟨by rw[bb,c],?_⟩
  rw[ba q (by rw[cJ] at m;exact c9 m),bR q ?_,m];rw[a3];intro bA;obtain⟨c,d,an⟩:=ey.1 bA;exact adx e c d an
 have mo:∀q,bN p.dO q=true->∃c n,c∈p.dO/\c.1=q/\q<a.H.length/\nth (aX (b8 a.H o) u) q=c5 n/\n.st=dJ a.H q/\n.aF=(ρ q).2/\
  ((c.2.2= .dead/\n.bd= .dead)\/(c.2.2≠ .dead/\∃Q I,dn J.H j (bL j) c.2.2 (.bG q)=c5 Q/\eJ B c.2.2.bX Q I/\∀bl,dI ρ (dJ a.H q) (ρ q).2 c.2.2 (I++bl)=(n,bl))):=λq e=>by
  obtain⟨c,d,rfl⟩:=adS e;have bW:c.1∈o.map (·.1):=by rw[a3];exact hY (f:=(·.1)) d
  obtain⟨⟨q,n⟩,be,k⟩:=ey.1 bW;obtain rfl:q=c.1:=k;obtain⟨y,bZ,bS,ai,M,ae⟩:=b3 c.1 n be;have a0:=(vV aU c d).1;exact⟨y,n,bZ,bS,a0,by rw[ba _ a0];exact bY _ _ be a0,ai,M,ae⟩
 let au:Nat->Prop:=λi=>∀q,eQ j q≠c5 i
 have bv:∀i,au i->∀q,eQ j q≠c5 i:=λ_ h=>h
 have a5:∀i,i∉bL j->au i:=λi E q k=>E (gV (qS k))
 have aV:mR B g J.H (aX (b8 a.H o) u) N j (bL j) (eQ j) ρ:=by
  refine⟨ca,λ_=>rfl,λq i k=>⟨pn k,?_⟩,λq k=>⟨by unfold eQ;rw[k],?_⟩⟩
  .by_cases aa:q<a.H.length
   .have O:=Y q aa;rw[k] at O;cases aA:gone p.dO q with
    |true=>rw[aA] at O;simp at O
    |false=>
     rw[aA] at O;simp only[cond_false,ee,Rf.bG.injEq] at O;subst O;cases e:bN p.dO i with
     |false=>
      have m:nth a.H i=c5 a.H[i]:=by rw[cJ];exact c4 aa
      obtain⟨u1,u2⟩:=ax i _ m e;refine⟨_,_,u1,u2,?_,rfl,rfl⟩
      show _=mw a.H p.dO i
      unfold mw;rw[m];simp[e]
     |true=>
      obtain⟨c,n,d,rfl,_,U,ai,M,ae⟩:=mo i e;rcases ae with⟨K,_⟩ |⟨_,Q,I,C,G,D⟩
      .have:=(rc ad d).1;rw[aA,K] at this;cases this
      .obtain⟨F,V,_,z,Z⟩:=mS ab (ρ:=ρ) (dJ a.H c.1) (ρ c.1).2 C G;obtain rfl:F=n:=by
        have S:=V [];have w:=D [];rw[S] at w;exact(eE w).1
       rcases Z with⟨aw,ap,y,A,aG,ag,ak⟩ |⟨y,_⟩
       .injection y with y
        subst y;exact⟨ap,F,A,U,M,ag,ak⟩
       .cases y
   .rw[aI q (by omega)] at k;obtain⟨aK,Q,I,aB,af,C,G,D,bm⟩:=aO _ _ k;obtain⟨F,V,_,z,Z⟩:=mS ab (ρ:=ρ) 0 (ρ (Go.X.len a.H+(q -a.H.length))).2 C G;obtain rfl:F=aB:=by
     have S:=V [];have w:=D [];rw[S] at w;exact(eE w).1
    rcases Z with⟨aw,ap,c,A,aG,ag,ak⟩ |⟨c,_⟩
    .injection c with c
     subst c;refine⟨ap,F,A,by rw[aM q (by omega)];exact af,?_,ag,ak⟩
     rw[z,eu,show a.H.length+(q -a.H.length)=q by omega]
    .cases c
  .by_cases aa:q<a.H.length
   .have O:=Y q aa;rw[k] at O;cases aA:gone p.dO q <;> rw[aA] at O <;> simp at O
   .rw[aI q (by omega)] at k;obtain⟨aK,Q,I,aB,af,C,G,D,bm⟩:=aO _ _ k;obtain⟨F,V,_,z,Z⟩:=mS ab (ρ:=ρ) 0 (ρ (Go.X.len a.H+(q -a.H.length))).2 C G;obtain rfl:F=aB:=by
     have S:=V [];have w:=D [];rw[S] at w;exact(eE w).1
    rcases Z with⟨aw,ap,c,_⟩ |⟨_,d,_⟩
    .cases c
    .refine⟨F,by rw[aM q (by omega)];exact af,?_,d⟩
     rw[z,eu,show a.H.length+(q -a.H.length)=q by omega]
 have bj:∀{T:PV} {v:Value},VR g (av B J.H) N T v->Wf (F0 a.H) T->VR (dj g (eQ j) au) (av B (aX (b8 a.H o) u)) N T v:=λ{T v} z bw=>by
  refine VR.re (g:=g) (g':=dj g (eQ j) au) (λ_ h=>Or.inl h) (λi v aQ bU m bc=>?_) z bw
  obtain⟨x,az,bx⟩:=bU;have al:i<a.H.length:=by rw[cJ] at az;exact c9 az
  obtain⟨b9,aj,rfl⟩:=oU m;rw[e7] at bc;have bQ:∀c,c∈p.dO->c.1=i->(ρ i).2=bif c.2.1 then x.aF else x.aF+1:=λc d bH=>by
   subst bH;obtain⟨_,aJ,aL⟩:=rc ad d;show mw a.H p.dO c.1=_
   unfold mw;rw[az];simp[aJ,aL]
  cases e:bN p.dO i with
  |false=>
   obtain⟨u1,u2⟩:=ax i x az e;rw[aj] at u1;injection u1 with u1
   subst u1;refine⟨_,df u2,by rw[e7];exact bc,λc=>⟨c,rfl,rfl,?_⟩⟩
   show(eQ j i).bind g.β=_
   rw[pn (i:=i) (by rw[Y i al,IM e];rfl)]
   rfl
  |true=>
   obtain⟨c,n,d,rfl,_,U,ai,M,ae⟩:=mo i e;have L:=bQ c d rfl;cases aq:c.2.1 with
   |false=>
    rw[aq] at L;simp only[cond_false] at L;exact⟨_,df U,by rw[e7,M,L];omega,λaH=>by rw[e7,M,L] at aH;omega⟩
   |true=>
    rw[aq] at L;simp only[cond_true] at L;obtain⟨a2,aC,b,am,W,aS⟩:=(vV aU c d).2 aq;rw[az] at am;injection am with am
    subst am;rw[aj] at W;injection W with W
    subst W;refine⟨_,df U,by rw[e7,M,L];exact bx,λaH=>?_⟩
    rw[e7,M,L] at aH;rcases ae with⟨K,aR⟩ |⟨a1,Q,I,C,G,D⟩
    .exact absurd K a2
    .obtain⟨F,V,_,cj,Z⟩:=mS ab (ρ:=ρ) (dJ a.H c.1) (ρ c.1).2 C G;obtain rfl:F=n:=by
      have S:=V [];have w:=D [];rw[S] at w;exact(eE w).1
     rcases Z with⟨aw,ap,y,A,aG,ag,ak⟩ |⟨y,_⟩
     .injection y with y
      subst y;rw[aj] at A;injection A with A
      subst A;refine⟨by rw[e7,aH];exact aS,ag,ak,?_⟩
      show(eQ j c.1).bind g.β=_
      rw[pn (i:=c.1) (by
       rw[Y c.1 al,(rc ad d).1];cases K:c.2.2 with
       |dead=>exact absurd K a1
       |aap _ _=>rfl
       |refs _ _=>rfl
       |box _ _=>rfl)]
      rfl
     .cases y
 have a9:=λb7 t=>Ip ab aV (λi _ E=>a5 i E) a4 bo b7 t
 refine⟨⟨λt ac=>?_,by show a.H.length<=(aX (b8 a.H o) u).length;omega,λi x aQ aE m=>?_⟩,dj g (eQ j) au,O1 ab aV ((tw _).1 aP) (show j.length<=(aX (b8 a.H o) u).length by omega) bv λq aF l=>?_,?_,λt v z=>?_⟩
 .show lk (aX (gR ρ p.dE ay) (mN s a.E)) t=_
  rcases a9 (mN s a.E) t with⟨T,bs,ah,_⟩ |⟨_,c⟩
  .exact absurd (Sg bJ t T ah) ac
  .rw[c,D4,if_neg ac]
 .have l:nth (aX (b8 a.H o) u) i=c5 aQ:=m;cases e:bN p.dO i with
  |false=>
   obtain⟨_,u2⟩:=ax i x aE e;rw[u2] at l;injection l with l
   subst l;exact⟨ef _,λ_=>rfl⟩
  |true=>
   obtain⟨c,n,d,rfl,_,U,ai,_⟩:=mo i e;rw[U] at l;injection l with l
   subst l;have:n.st=x.st+1:=by rw[ai];unfold dJ;rw[aE]
   exact⟨by omega,λc=>by omega⟩
 .by_cases aa:q<a.H.length
  .have m:nth a.H q=c5 a.H[q]:=by rw[cJ];exact c4 aa
   cases e:bN p.dO q with
   |false=>
    obtain⟨u1,u2⟩:=ax q _ m e;rw[u2] at l;injection l with l
    refine .inr (.inl ⟨q,a.H[q],by rw[Y q aa,IM e];rfl,u1,l.symm,λT v z b1=>bj z ?_⟩)
    obtain⟨cp,aC,bT,ah⟩:=b1;rcases ah with⟨rfl,ah⟩ |ah
    .exact a6.h q _ aC bT T m ah
    .exact cE.UM ah
   |true=>
    obtain⟨c,n,d,rfl,_,U,ai,M,ae⟩:=mo q e;rw[U] at l;injection l with l
    subst l;rcases ae with⟨K,aR⟩ |⟨a1,Q,I,C,G,D⟩
    .refine .inr (.inr ⟨?_,by simp[aY,aR],by simp[aY,aR]⟩)
     unfold eQ;rw[Y _ aa,(rc ad d).1,K]
     rfl
    .refine .inl ⟨c.2.2,c.1,Q,I,_,_,?_,λ_ _ _ _ _ _ _ _ i _ E=>a5 i E,C,G,D⟩
     rw[Y c.1 aa,(rc ad d).1];cases K:c.2.2 with
     |dead=>exact absurd K a1
     |aap _ _=>rfl
     |refs _ _=>rfl
     |box _ _=>rfl
  .have aT:=l;rw[aM q (by omega)] at aT;have k:q -a.H.length<u.length:=c9 aT;have E:ao[q -a.H.length]?=c5 ao[q -a.H.length]:=c4 (by omega);obtain⟨aK,Q,I,aB,af,C,G,D,bm⟩:=aO _ _ E;rw[aT] at af;injection af with af
   subst af;have aD:nth j q=c5 ao[q -a.H.length]:=by rw[aI q (by omega)];exact E
   obtain⟨F,V,_,z,Z⟩:=mS ab (ρ:=ρ) 0 (ρ (Go.X.len a.H+(q -a.H.length))).2 C G;obtain rfl:F=aF:=by
    have S:=V [];have w:=D [];rw[S] at w;exact(eE w).1
   rcases Z with⟨aw,ap,c,_⟩ |⟨c,d,b4⟩
   .rw[c] at aD C;exact .inl ⟨aK,aw,Q,I,_,_,aD,λ_ _ _ _ _ _ _ _ i _ E=>a5 i E,C,G,D⟩
   .rw[c] at aD;exact .inr (.inr ⟨by unfold eQ;rw[aD],d,b4⟩)
 .refine Bml.GStep.re λi aQ E m=>?_
  obtain⟨b9,aj,rfl⟩:=oU m;have al:i<a.H.length:=by omega
  have aE:nth a.H i=c5 a.H[i]:=by rw[cJ];exact c4 al
  cases e:bN p.dO i with
  |false=>
   obtain⟨u1,u2⟩:=ax i _ aE e;rw[aj] at u1;injection u1 with u1
   subst u1;exact⟨_,df u2,ef _,λ_=>⟨pn (by rw[Y i al,IM e];rfl),rfl,rfl⟩⟩
  |true=>
   obtain⟨c,n,d,rfl,_,U,ai,M,ae⟩:=mo i e;have aq:=(RZ bM c d E).1;obtain⟨a2,aC,b,am,W,aS⟩:=(vV aU c d).2 aq;rw[aj] at W;injection W with W
   subst W;obtain⟨_,aJ,aL⟩:=rc ad d;have L:(ρ c.1).2=aC.aF:=by
    show mw a.H p.dO c.1=_
    unfold mw;rw[am];simp[aJ,aL,aq]
   have bI:nth j c.1=c5 (.bG c.1):=by
    rw[Y c.1 al,(rc ad d).1];cases K:c.2.2 with
    |dead=>exact absurd K a2
    |aap _ _=>rfl
    |refs _ _=>rfl
    |box _ _=>rfl
   obtain⟨bV,ck,aF,A,aG,ag,ak,bz⟩:=aV.bG c.1 c.1 bI;rw[aj] at A;injection A with A
   subst A;exact⟨_,df aG,by rw[e7,e7,ag,L,aS];exact ef _,λ_=>⟨bV,ak,bz⟩⟩
 .show VR _ _ N (pv B (lk (aX (gR ρ p.dE ay) (mN s a.E)) t)) v
  rcases a9 (mN s a.E) t with⟨T,bs,_,c,b0⟩ |⟨_,c⟩
  .rw[c];exact b0.2 v z
  .rw[c,D4]
   by_cases ac:t∈s
   .rw[if_pos ac];exact .any v
   .rw[if_neg ac];rw[bk.e t ac] at z;exact bj z (a6.e t)
end
end Go.X
namespace Go.Bml
open Go
def xB(g:Gh)(e:List aO)(f:World)(args:List PV)(b:List Value):Prop:=
 args.length=b.length/\∀(i:Nat) (c:PV) (a:Value),args[i]?=c5 c->b[i]?=c5 a->VR g e f c a
section
variable {P:Program}{nt:Nat}{E:Env}{d:Option Nat}{ty:TypeId}{pos:String}{aft:Array Edge}{gd:Option (Nat×Bool)}
def UP{f:Nat}{s t:List PV}{r:Operand}{k:List Operand}{ci:Array TypeId}{l:Act}{j:World}{g:Gh}{v:List aO}(y:fI g v j nt E l)(D:PE E r= .fn f s t)(F:∀args j,(callFunc f args).run P j= .ok (.enter f args) j):
 ∃w:List Value,(execOp l.eval ⟨d,.call {callee:=.value r,args:=k.toArray,argTypes:=ci},ty,pos,aft,gd⟩).run P j= .ok (.enter f w.toArray) j/\xB g v j (s++k.map (PE E)++t) w:=by
 have m:=D▸y.eval r;have B:∃a vs:List Value,l.eval r= .func (.func f) a.toArray vs.toArray/\s.length=a.length/\(∀(i:Nat) (c:PV) (e:Value),s[i]?=c5 c->a[i]?=c5 e->VR g v j c e)/\t.length=vs.length/\
  (∀(i:Nat) (c:PV) (e:Value),t[i]?=c5 c->vs[i]?=c5 e->VR g v j c e):=by
  generalize l.eval r=z at m;cases m with
  |aW H=>cases H with |fn _ _ _ a vs n m o q=>exact⟨a,vs,rfl,n,λi c e u p=>.aW (m i c e u p),o,λi c e u p=>.aW (q i c e u p)⟩
  |fn _ _ _ a vs n m o q=>exact⟨a,vs,rfl,n,m,o,q⟩
 obtain⟨a,vs,G,n,C,o,q⟩:=B;refine⟨a++k.map l.eval++vs,?_,by simp[n,o],λi c e b h=>?_⟩
 .simp only[execOp,resolve,G,Deferred.ofValue,invoke,kh,m0,h7];rw[show(a.toArray++Array.map l.eval k.toArray++vs.toArray)=(a++k.map l.eval++vs).toArray by simp];exact F _ j
 .by_cases u:i<a.length
  .rw[dv,dt (by omega)] at b h;exact C i c e b h
  .rw[dv,dk (by omega)] at b h;rw[n] at b
   by_cases p:i -a.length<k.length
   .rw[dt (by simpa using p)] at b h;rw[ec] at b h;cases x:k[i -a.length]? with
    |none=>simp[x] at b
    |some A=>
     simp[x] at b h;subst b;subst h;exact y.eval A
   .rw[dk (by simp;omega)] at b h;simp only[l3] at b h;exact q _ c e b h
def WB{H:List aO}{f:Nat}{cs ds:List PV}{fo:Operand}{as:List Operand}{ci:Array TypeId}{K:PV->List aO->Prop}(p:PE E fo= .fn f cs ds)(s:∀args a,(callFunc f args).run P a= .ok (.enter f args) a)
 (m:∀g h a,bF g H a->xB g H a (cs++as.map (PE E)++ds) h->Calls P f h.toArray a λj e=>∃i c v b,j= .returned i/\K v b/\bF c b e/\VR c b e v i/\GStep H.length g H a c b e):
 fJ P ⟨d,.call {callee:=.value fo,args:=as.toArray,argTypes:=ci},ty,pos,aft,ea⟩ E H K:=by
 intro g nt y a k x w l;obtain⟨h,n,q⟩:=UP (d:=d) (ty:=ty) (pos:=pos) (aft:=aft) (gd:=ea) (ci:=ci) k.e p s;unfold r5;rw[n,Oper.upon_enter];refine(m g h a k.m q).mono ?_
 rintro j e ⟨i,c,v,b,rfl,t,o,r,u⟩;exact l i e c v b t r o u
end
end Go.Bml
namespace Go.X
open Go Go.Aml Go.Bml
section
variable {P:Program}{B:Tb}
def en(B:Tb):List Nat->List (TV B.D)->Prop
 |[],[]=>True
 |b::ns,a::d=>(∃c,a=B.tv b c)/\en B ns d
 |_,_=>False
def NA:∀(ns:List Nat) (a:bi B.D ns),en B ns (rQ B ns a)
 |[],_=>trivial
 |[c],a=>⟨⟨a,rfl⟩,trivial⟩
 |c::b::ns,a=>⟨⟨a.1,rfl⟩,NA (b::ns) a.2⟩
def en.split:∀{ns e:List Nat} {a:List (TV B.D)},en B (aX ns e) a->∃c d,a=c++d/\en B ns c/\en B e d
 |[],e,a,h=>⟨[],a,rfl,trivial,h⟩
 |n::ns,e,m::a,h=>by
  obtain⟨c,d,rfl,k,j⟩:=en.split (ns:=ns) h.2;exact⟨m::c,d,rfl,⟨h.1,k⟩,j⟩
 |_::_,_,[],h=>h.elim
def en.nil{a:List (TV B.D)}(h:en B [] a):a=[]:=by
 cases a with
 |nil=>rfl
 |cons m a=>exact h.elim
structure Two (B:Tb) (g g':Gh) (H H':List aO) (w:World) (t t':TV B.D):Prop where
 vr:∀v,VR g H w (pv B t) v->VR g' H' w (pv B t') v
 vi:∀v,VI g.F w (pv B t) v->VI g'.F w (pv B t') v
structure E8 (B:Tb) (g g':Gh) (H H':List aO) (w:World) (ts ts':List (TV B.D)):Prop where
 len:(aP B ts').length=(aP B ts).length
 vr:∀(i:Nat) (c c':PV) (v:Value),(aP B ts)[i]?=c5 c->(aP B ts')[i]?=c5 c'->VR g H w c v->VR g' H' w c' v
 vi:∀(i:Nat) (c c':PV) (v:Value),(aP B ts)[i]?=c5 c->(aP B ts')[i]?=c5 c'->VI g.F w c v->VI g'.F w c' v
variable {g g':Gh}{H H':List aO}{w:World}{ρ ρ':Nat->Nat×Nat}
mutual
def Qy(y:cU P B)(M:∀q v,VR g H w (.ptr (ρ q).1 (ρ q).2 0 0) v->VR g' H' w (.ptr (ρ' q).1 (ρ' q).2 0 0) v)(L:∀q v,VR g H w (.fl (ρ q).1 (ρ q).2) v->VR g' H' w (.fl (ρ' q).1 (ρ' q).2) v):
 ∀(c:CP) (m:List (TV B.D)),en B c.bX m->((∀b,g.F b->g'.F b)\/Kk B.flat c=true)->∃Y X,(∀p,hO ρ c (m++p)=(Y,p))/\(∀p,hO ρ' c (m++p)=(X,p))/\Two B g g' H H' w Y X
 | .any,m,e,_=>by
  obtain rfl:=en.nil e;exact⟨_,_,λ_=>rfl,λ_=>rfl,λv _=>.any v,λv _=>.any v⟩
 | .v u,m,e,o=>by
  match m,e with
  |[ak],⟨⟨d,h⟩,_⟩=>
   subst h;have l:∀v,VI g.F w (pv B (B.tv u d)) v->VI g'.F w (pv B (B.tv u d)) v:=λv a=>by
    rcases o with o |o
    .exact a.mono o λ_ _=>rfl
    .rw[y.tv] at a⊢;exact y.aqv u d o _ _ _ _ v a
   exact⟨_,_,λ_=>rfl,λ_=>rfl,λv a=>.aW (l v (a.dH (by rw[y.tv];exact y.lt u d))),l⟩
 | .p q,m,e,_=>by
  obtain rfl:=en.nil e;exact⟨_,_,λ_=>rfl,λ_=>rfl,M q,λv a=>by cases a⟩
 | .r q,m,e,_=>by
  obtain rfl:=en.nil e;exact⟨_,_,λ_=>rfl,λ_=>rfl,L q,λv a=>by cases a⟩
 | .b b,m,e,_=>by
  obtain rfl:=en.nil e;have l:∀v,VI g.F w (pv B (.bool b)) v->VI g'.F w (pv B (.bool b)) v:=λv a=>by cases a;exact .bool b
  exact⟨.bool b,.bool b,λ_=>rfl,λ_=>rfl,λv a=>.aW (l v (a.dH (.bool b))),l⟩
 | .i F u,m,e,_=>by
  obtain rfl:=en.nil e;have l:∀v,VI g.F w (pv B (.int F u)) v->VI g'.F w (pv B (.int F u)) v:=λv a=>by cases a;exact .int F u
  exact⟨.int F u,.int F u,λ_=>rfl,λ_=>rfl,λv a=>.aW (l v (a.dH (.int F u))),l⟩
 | .ns,m,e,_=>by
  obtain rfl:=en.nil e;have l:∀v,VI g.F w (pv B (.bg)) v->VI g'.F w (pv B .bg) v:=λv a=>by cases a;exact .bg
  exact⟨.bg,.bg,λ_=>rfl,λ_=>rfl,λv a=>.aW (l v (a.dH .bg)),l⟩
 | .z,m,e,_=>by
  obtain rfl:=en.nil e;have l:∀v,VI g.F w (pv B (.dB)) v->VI g'.F w (pv B .dB) v:=λv a=>by cases a;exact .dB
  exact⟨.dB,.dB,λ_=>rfl,λ_=>rfl,λv a=>.aW (l v (a.dH .dB)),l⟩
 | .q G,m,e,o=>by
  have o:∀b,g.F b->g'.F b:=o.elim id λe=>by cases e
  obtain⟨j,x,K,J,r⟩:=sR y M L G m e (.inl o);have l:∀v,VI g.F w (pv B (.vp j 0)) v->VI g'.F w (pv B (.vp x 0)) v:=λv a=>by
   have C:VI g.F w (.dw (aP B j) 0) v:=a;cases C with
   |dw _ _ b ac W Z af E aj=>
    have O:∀(n:Nat) (c:PV),(aP B x)[n]?=c5 c->n<(aP B j).length:=λn c f=>by have:=c9 f;rw[r.len] at this;exact this
    exact .dw (aP B x) 0 b ac W (o b Z) (λn c f=>af n _ (c4 (O n c f))) (λn c f=>E n _ (c4 (O n c f)))
     λn c f=>r.vi n _ c (W n) (c4 (O n c f)) f (aj n _ (c4 (O n c f)))
  exact⟨.vp j 0,.vp x 0,λp=>by simp only[hO,K p],λp=>by simp only[hO,J p],λv a=>.aW (l v (a.dH (.dw _ _))),l⟩
 | .g G,m,e,o=>by
  obtain⟨j,x,K,J,r⟩:=sR y M L G m e o;refine⟨.agg j,.agg x,λp=>by simp only[hO,K p],λp=>by simp only[hO,J p],λv a=>?_,λv a=>?_⟩
  .obtain⟨Q,rfl,t,T⟩:=VR.ky a;refine .agg _ Q (by rw[<-t];exact r.len) λi c d f h=>?_
   have k:i<(aP B j).length:=by have:=c9 h;omega
   exact r.vr i _ c d (c4 k) f (T i _ d (c4 k) h)
  .have C:VI g.F w (.agg (aP B j)) v:=a;cases C with
   |agg _ Q t T=>
    refine .agg _ Q (by rw[<-t];exact r.len) λi c d f h=>?_
    have k:i<(aP B j).length:=by have:=c9 h;omega
    exact r.vi i _ c d (c4 k) f (T i _ d (c4 k) h)
 | .f D G aa,m,e,o=>by
  obtain⟨ag,ae,rfl,E,I⟩:=en.split e;obtain⟨j,x,K,J,r⟩:=sR y M L G ag E (o.imp id λe=>(fu e).1);obtain⟨A,ai,ad,ah,N⟩:=sR y M L aa ae I (o.imp id λe=>(fu e).2);refine⟨.fn D j A,.fn D x ai,λp=>by simp only[hO];rw[dv,K,ad],λp=>by simp only[hO];rw[dv,J,ah],λv a=>?_,λv a=>?_⟩
  .have C:VR g H w (.fn D (aP B j) (aP B A)) v:=a;have ab:∃s vs:List Value,v= .func (.func D) s.toArray vs.toArray/\(aP B j).length=s.length/\(∀(i:Nat) (c:PV) (d:Value),(aP B j)[i]?=c5 c->s[i]?=c5 d->VR g H w c d)/\(aP B A).length=vs.length/\
    (∀(i:Nat) (c:PV) (d:Value),(aP B A)[i]?=c5 c->vs[i]?=c5 d->VR g H w c d):=by
    cases C with
    |aW e=>cases e with |fn _ _ _ s vs t V z S=>exact⟨s,vs,rfl,t,λi c d E I=>.aW (V i c d E I),z,λi c d E I=>.aW (S i c d E I)⟩
    |fn _ _ _ s vs t V z S=>exact⟨s,vs,rfl,t,V,z,S⟩
   obtain⟨s,vs,rfl,t,U,z,R⟩:=ab;refine .fn D _ _ s vs (by rw[<-t];exact r.len) (λi c d f h=>?_) (by rw[<-z];exact N.len) (λi c d f h=>?_)
   .have k:i<(aP B j).length:=by have:=c9 h;omega
    exact r.vr i _ c d (c4 k) f (U i _ d (c4 k) h)
   .have k:i<(aP B A).length:=by have:=c9 h;omega
    exact N.vr i _ c d (c4 k) f (R i _ d (c4 k) h)
  .have C:VI g.F w (.fn D (aP B j) (aP B A)) v:=a;cases C with
   |fn _ _ _ s vs t U z R=>
    refine .fn D _ _ s vs (by rw[<-t];exact r.len) (λi c d f h=>?_) (by rw[<-z];exact N.len) (λi c d f h=>?_)
    .have k:i<(aP B j).length:=by have:=c9 h;omega
     exact r.vi i _ c d (c4 k) f (U i _ d (c4 k) h)
    .have k:i<(aP B A).length:=by have:=c9 h;omega
     exact N.vi i _ c d (c4 k) f (R i _ d (c4 k) h)
def sR(s:cU P B)(u:∀q v,VR g H w (.ptr (ρ q).1 (ρ q).2 0 0) v->VR g' H' w (.ptr (ρ' q).1 (ρ' q).2 0 0) v)(t:∀q v,VR g H w (.fl (ρ q).1 (ρ q).2) v->VR g' H' w (.fl (ρ' q).1 (ρ' q).2) v):
 ∀(f:List CP) (j:List (TV B.D)),en B (CP.gA f) j->((∀b,g.F b->g'.F b)\/rr B.flat f=true)->∃k l,(∀d,jD ρ f (j++d)=(k,d))/\(∀d,jD ρ' f (j++d)=(l,d))/\E8 B g g' H H' w k l
 |[],j,e,_=>by
  obtain rfl:=en.nil e;exact⟨[],[],λ_=>rfl,λ_=>rfl,rfl,by simp[aP],by simp[aP]⟩
 |A::f,j,e,r=>by
  obtain⟨G,F,rfl,C,x⟩:=en.split e;obtain⟨J,z,E,y,p⟩:=Qy s u t A G C (r.imp id λe=>(fu e).1);obtain⟨k,l,D,I,m⟩:=sR s u t f F x (r.imp id λe=>(fu e).2);refine⟨J::k,z::l,λd=>by simp only[jD];rw[dv,E,D],λd=>by simp only[jD];rw[dv,y,I],by simp[aP,m.len],λi n o v a c h=>?_,λi n o v a c h=>?_⟩
  .cases i with
   |zero=>simp[aP] at a c;subst a;subst c;exact p.vr v h
   |succ i=>exact m.vr i n o v (by simpa[aP] using a) (by simpa[aP] using c) h
  .cases i with
   |zero=>simp[aP] at a c;subst a;subst c;exact p.vi v h
   |succ i=>exact m.vi i n o v (by simpa[aP] using a) (by simpa[aP] using c) h
end
end
structure Fits (P:Program) (B:Tb) (c:aq B):Prop where
 Q6:∀args w,(callFunc c.cO args).run P w= .ok (.enter c.cO args) w
 calls:∀x y,c.F x=c5 y->∀(g:Gh) (w:World) (as:List Value),as.length=c.na->bF g (av B (cz B c.par x).H) w->
  (∀t,VR g (av B (cz B c.par x).H) w (pv B (lk (cz B c.par x).E t)) (as.getD t undef))->
  Calls P c.cO as.toArray w λe w'=>∃v g',e= .returned v/\bF g' (av B (cz B c.az y).H) w'/\Bml.GStep c.low g (av B (cz B c.par x).H) w g' (av B (cz B c.az y).H) w'/\
   VR g' (av B (cz B c.az y).H) w' (pv B (kR (cz B c.az y).E)) v
section
variable {P:Program}{B:Tb}
def Iz{ρ ρ':Nat->Nat×Nat}{h:OP}{a:List (TV B.D)}(j v g e:Nat)(b:en B h.bX a):
 ∃d f,(∀c,dI ρ j v h (a++c)=(d,c))/\(∀c,dI ρ' g e h (a++c)=(f,c))/\d.aF=v/\f.aF=e/\(aY B f).ty=(aY B d).ty/\(aY B f).sz=(aY B d).sz/\(aY B f).es.length=(aY B d).es.length:=by
 cases h with
 |aap i y=>
  match a,b with
  |[o],_=>
   cases o <;> exact⟨_,_,λ_=>rfl,λ_=>rfl,rfl,rfl,rfl,rfl,rfl⟩
  |_::_::_,⟨_,b⟩=>exact b.elim
 |box n k=>
  have m:a.length=(CP.gA k).length:=by
   have:∀(ns:List Nat) (a:List (TV B.D)),en B ns a->a.length=ns.length:=λns=>by
    induction ns with
    |nil=>intro a b;rw[en.nil b];rfl
    |cons y ns t=>
     intro a b;cases a with
     |nil=>exact b.elim
     |cons i a=>simp[t a b.2]
   exact this _ _ b
  obtain⟨s,p,x⟩:=pd ρ k a m;obtain⟨u,r,w⟩:=pd ρ' k a m;exact⟨⟨j,v,.box n s⟩,⟨g,e,.box n u⟩,λc=>by simp only[dI,p c],λc=>by simp only[dI,r c],rfl,rfl,rfl,by simp[aY,x,w],rfl⟩
 |dead=>
  obtain rfl:=en.nil b;exact⟨⟨j,v,.dead⟩,⟨g,e,.dead⟩,λ_=>rfl,λ_=>rfl,rfl,rfl,rfl,rfl,rfl⟩
 |refs i l=>
  have h0:en B [] a:=by rw[<-QY l];exact b
  obtain rfl:=en.nil h0;refine⟨⟨j,v,.hole i [] (l.map λq=>.fl (ρ q).1 (ρ q).2)⟩,⟨g,e,.hole i [] (l.map λq=>.fl (ρ' q).1 (ρ' q).2)⟩,λ_=>by simp only[dI,uA,o3],λ_=>by simp only[dI,uA,o3],rfl,rfl,rfl,rfl,by simp[aY,db]⟩
def af9(z:cU P B){g g':Gh}{H H':List aO}{w:World}{h l:Nat->Nat×Nat}(ag:∀q v,VR g H w (.ptr (h q).1 (h q).2 0 0) v->VR g' H' w (.ptr (l q).1 (l q).2 0 0) v)(S:∀q v,VR g H w (.fl (h q).1 (h q).2) v->VR g' H' w (.fl (l q).1 (l q).2) v)
 {r:OP} {t:List (TV B.D)} {ad v X W:Nat} {J N:Ob B.D} (u:en B r.bX t) (n:(∀b,g.F b->g'.F b)\/uT B.flat B.el r=true) (k:∀s,dI h ad v r (t++s)=(J,s)) (e:∀s,dI l X W r (t++s)=(N,s)):
 ∀i c d,abk (aY B N).es i c=c5 d->∃O,abk (aY B J).es i c=c5 O/\∀m,VR g H w O m->VR g' H' w d m:=by
 have k:=k [];have e:=e [];rw[ft] at k e;cases r with
 |aap ac R=>
  match t,u with
  |[U],⟨⟨aa,V⟩,_⟩=>
   intro i c d f;cases U with
   |row F A=>
    simp only[dI,h5,and_true] at k e;subst k;subst e;refine⟨d,f,λm x=>.aW ?_⟩
    have af:∀j,j∈A.map (B.ty F).enc->cE 0 j:=J2 z;have Q:=x.dH (nR af f);rcases n with n |n
    .exact Q.mono n λ_ _=>rfl
    .obtain rfl:=z.el R aa F A V.symm;have a:abk (A.map (B.ty (B.el R)).enc) i c=c5 d:=f;obtain⟨j,o,_⟩:=gw a;unfold abk at a;rw[o] at a;obtain⟨ae,_,rfl⟩:=ey.1 (ej o);exact z.flat _ ae n c d a _ _ _ _ m Q
   |_=>
    simp only[dI,h5,and_true] at e;subst e;obtain⟨j,o,_⟩:=gw f;simp[aY] at o
  |_::_::_,⟨_,u⟩=>exact u.elim
 |box ah T=>
  obtain⟨K,Z,ab,Y,E⟩:=sR z ag S T t u n;have G:=ab [];have M:=Y [];rw[ft] at G M;simp only[dI,G,h5,and_true] at k;simp only[dI,M,h5,and_true] at e;subst k;subst e;intro i c d f
  match i,f with
  |0,f=>
   have L:(aP B Z)[c]?=c5 d:=f;have D:c<(aP B K).length:=by have:=c9 L;rw[E.len] at this;exact this
   exact⟨(aP B K)[c],c4 D,λm x=>E.vr c _ d m (c4 D) L x⟩
 |dead=>
  obtain rfl:=en.nil u;simp only[dI,h5,and_true] at e;subst e;intro i c d f;obtain⟨j,o,_⟩:=gw f;simp[aY] at o
 |refs ac p=>
  simp only[dI,uA,h5] at k e;obtain⟨rfl,_⟩:=k;obtain⟨rfl,_⟩:=e;intro i c d f;have I:∀(y:Nat->Nat×Nat) i,(aP B (p.map λq=>.fl (y q).1 (y q).2))[i]?=(p[i]?).map λq=>PV.fl (y q).1 (y q).2:=λy i=>by
   rw[db,n2,ec]
   rfl
  have a:((aP B (p.map λq=>.fl (l q).1 (l q).2))[i]?.bind λj=>j.cells[c]?)=c5 d:=f;rw[I] at a;cases C:p[i]? with
  |none=>rw[C] at a;cases a
  |some q=>
   rw[C] at a;cases c with
   |succ c=>simp[PV.cells] at a
   |zero=>
    have a:c5 (PV.fl (l q).1 (l q).2)=c5 d:=a;injection a with a
    subst a;refine⟨.fl (h q).1 (h q).2,?_,λm x=>S q m x⟩
    show((aP B (p.map λq=>.fl (h q).1 (h q).2))[i]?.bind λj=>j.cells[0]?)=_
    rw[I,C]
    rfl
def Pj{ρ ρ':Nat->Nat×Nat}:∀{os:List (Nat×List Nat×OP)} {j:List (TV B.D)} {q0:Nat},en B (rS os) j->
 ∃f e,(∀b,lM ρ q0 os (j++b)=(f,b))/\(∀b,lM ρ' q0 os (j++b)=(e,b))/\f.length=os.length/\e.length=os.length/\
  ∀a:Nat,a<os.length->∃d i g h,f[a]?=c5 g/\e[a]?=c5 h/\en B d.bX i/\(oN B.flat B.el os=true->uT B.flat B.el d=true)/\
   (∀b,dI ρ 0 (ρ (q0+a)).2 d (i++b)=(g,b))/\(∀b,dI ρ' 0 (ρ' (q0+a)).2 d (i++b)=(h,b))
 |[],j,q0,c=>by
  obtain rfl:=en.nil c;exact⟨[],[],λ_=>rfl,λ_=>rfl,rfl,rfl,λa k=>by simp at k⟩
 |x::os,j,q0,c=>by
  obtain⟨A,F,rfl,m,p⟩:=en.split c;obtain⟨g,h,n,l,_⟩:=Iz (ρ:=ρ) (ρ':=ρ') 0 (ρ q0).2 0 (ρ' q0).2 m;obtain⟨f,e,w,C,o,r,D⟩:=Pj (os:=os) (q0:=q0+1) p;refine⟨g::f,h::e,λb=>by simp only[lM];rw[dv,n,w],λb=>by simp only[lM];rw[dv,l,C],by simp[o],by simp[r],λa k=>?_⟩
  cases a with
  |zero=>exact⟨x.2.2,A,g,h,rfl,rfl,m,λc=>(fu c).1,n,l⟩
  |succ a=>
   obtain⟨d,i,v,s,q,E,z,y,u,t⟩:=D a (by simpa using k);refine⟨d,i,v,s,by simpa using q,by simpa using E,z,λc=>y (fu c).2,?_,?_⟩
   .rw[show q0+(a+1)=q0+1+a by omega];exact u
   .rw[show q0+(a+1)=q0+1+a by omega];exact t
def OR(x:cU P B){g m:Gh}{t o:List aO}{k:World}{h l:Nat->Nat×Nat}(z:∀q v,VR g t k (.ptr (h q).1 (h q).2 0 0) v->VR m o k (.ptr (l q).1 (l q).2 0 0) v)(y:∀q v,VR g t k (.fl (h q).1 (h q).2) v->VR m o k (.fl (l q).1 (l q).2) v):
 ∀{f:List (Nat×CP)} {j:List (TV B.D)},en B (vu f) j->((∀b,g.F b->m.F b)\/tJ B.flat f=true)->E8 B g m t o k ((gR h f j).map (·.2)) ((gR l f j).map (·.2))
 |[],j,d,_=>⟨rfl,by simp[gR,aP],by simp[gR,aP]⟩
 |p::f,j,d,w=>by
  obtain⟨F,H,rfl,D,A⟩:=en.split d;obtain⟨I,G,E,C,u⟩:=Qy x z y p.2 F D (w.imp id λd=>(fu d).1);have n:=OR x z y A (w.imp id λd=>(fu d).2);simp only[gR,E,C,hz];refine⟨by simp[aP,n.len],λi r s v a c e=>?_,λi r s v a c e=>?_⟩
  .cases i with
   |zero=>simp[aP] at a c;subst a;subst c;exact u.vr v e
   |succ i=>exact n.vr i r s v (by simpa[aP] using a) (by simpa[aP] using c) e
  .cases i with
   |zero=>simp[aP] at a c;subst a;subst c;exact u.vi v e
   |succ i=>exact n.vi i r s v (by simpa[aP] using a) (by simpa[aP] using c) e
def al8{g j:Gh}{k h:List aO}{e:World}{a c:List (Nat×TV B.D)}(d:E8 B g j k h e (a.map (·.2)) (c.map (·.2))){v:Value}(f:VR g k e (pv B (kR a)) v):VR j h e (pv B (kR c)) v:=by
 have r:c.length=a.length:=by
  have:=d.len;simpa[db] using this
 have bu:∀(a c:List (Nat×TV B.D)),E8 B g j k h e (a.map (·.2)) (c.map (·.2))->VR g k e (pv B (.bu (a.map (·.2)))) v->VR j h e (pv B (.bu (c.map (·.2)))) v:=λa c d f=>by
  obtain⟨o,rfl,u,s⟩:=VR.Db f;refine .bu _ o (by rw[<-u];exact d.len) λi t n q l=>?_
  have m:i<(aP B (a.map (·.2))).length:=by have:=c9 l;omega
  exact d.vr i _ t n (c4 m) q (s i _ n (c4 m) l)
 match a,c,r with
 |[],[],_=>exact bu [] [] d f
 |[p],[y],_=>exact d.vr 0 _ _ v rfl rfl f
 |x::b::a,w::z::c,_=>exact bu _ _ d f
end
def rH:∀(b a:List Rf),bL (b++a)=bL b++bL a
 |[],a=>rfl
 | .bG i::b,a=>by simp[bL,rH b a]
 | .new::b,a=>by simp[bL,rH b a]
 | .gone::b,a=>by simp[bL,rH b a]
 | .bad::b,a=>by simp[bL,rH b a]
def uM:∀{ids:List Rf} {i:Nat},i∈bL ids->∃q,nth ids q=c5 (.bG i)
 | .bG c::ids,i,a=>by
  rcases dd.1 a with rfl |a
  .exact⟨0,rfl⟩
  .obtain⟨q,b⟩:=uM a;exact⟨q+1,b⟩
 | .new::ids,i,a=>by obtain⟨q,b⟩:=uM (ids:=ids) a;exact⟨q+1,b⟩
 | .gone::ids,i,a=>by obtain⟨q,b⟩:=uM (ids:=ids) a;exact⟨q+1,b⟩
 | .bad::ids,i,a=>by obtain⟨q,b⟩:=uM (ids:=ids) a;exact⟨q+1,b⟩
def Ql:∀{n:Nat} {ids:List Rf},kA n ids=true->∀q,q<n->∃i,nth ids q=c5 (.bG i)
 |0,_,_,q,a=>by omega
 |n+1,.bG i::b,a,0,_=>⟨i,rfl⟩
 |n+1,.bG i::b,a,q+1,c=>Ql (n:=n) (ids:=b) a q (by omega)
 |n+1,[],a,_,_=>by simp[kA] at a
 |n+1,.new::_,a,_,_=>by simp[kA] at a
 |n+1,.gone::_,a,_,_=>by simp[kA] at a
 |n+1,.bad::_,a,_,_=>by simp[kA] at a
section
variable {D:Nat->Type}{H:List (Ob D)}
def JU:∀{n:Nat} {ids:List Rf} {os:List (Ob D)},kA n ids=true->n<=os.length->(iF H (ids.take n) (os.take n)).map (·.1)=bL (ids.take n)/\∀q i b,q<n->nth ids q=c5 (.bG i)->os[q]?=c5 b->(i,(⟨dJ H i,b.aF,b.bd⟩:Ob D))∈iF H (ids.take n) (os.take n)
 |0,_,_,_,_=>⟨by simp[iF,bL],λq i b a=>by omega⟩
 |n+1,.bG i::f,b::os,a,d=>by
  obtain⟨g,j⟩:=JU (n:=n) (ids:=f) (os:=os) a (by simpa using d);refine⟨by simp[iF,bL,g],λq h k l c e=>?_⟩
  cases q with
  |zero=>
   simp only[nth,ee,Rf.bG.injEq,kc] at c e;subst c;subst e;simp[iF]
  |succ q=>
   simp only[List.take_succ_cons,iF,dd];exact .inr (j q h k (by omega) c (by simpa using e))
 |n+1,.bG i::f,[],a,d=>by simp at d
 |n+1,[],_,a,_=>by simp[kA] at a
 |n+1,.new::_,_,a,_=>by simp[kA] at a
 |n+1,.gone::_,_,a,_=>by simp[kA] at a
 |n+1,.bad::_,_,a,_=>by simp[kA] at a
def tm:∀{ids:List Rf},(∀i,i∈bL ids->∃a,nth H i=c5 a)->(jL H ids).map (·.1)=bL ids/\∀q i a,nth ids q=c5 (.bG i)->nth H i=c5 a->(i,(⟨a.st+1,a.aF+1,.dead⟩:Ob D))∈jL H ids
 |[],_=>⟨rfl,λq i a d=>by simp[nth] at d⟩
 | .bG k::f,d=>by
  obtain⟨l,h⟩:=d k (by simp[bL]);obtain⟨e,g⟩:=tm (ids:=f) λi j=>d i (by simp[bL,j])
  refine⟨by simp[jL,h,bL,e],λq i a b c=>?_⟩
  simp only[jL,h];cases q with
  |zero=>
   simp only[nth,ee,Rf.bG.injEq] at b;subst b;rw[h] at c;injection c with c
   subst c;simp
  |succ q=>exact c7 _ (g q i a b c)
 | .new::f,d=>by
  obtain⟨e,g⟩:=tm (ids:=f) d;exact⟨e,λq i a b c=>by cases q with |zero=>simp[nth] at b |succ q=>exact g q i a b c⟩
 | .gone::f,d=>by
  obtain⟨e,g⟩:=tm (ids:=f) d;exact⟨e,λq i a b c=>by cases q with |zero=>simp[nth] at b |succ q=>exact g q i a b c⟩
 | .bad::f,d=>by
  obtain⟨e,g⟩:=tm (ids:=f) d;exact⟨e,λq i a b c=>by cases q with |zero=>simp[nth] at b |succ q=>exact g q i a b c⟩
def Jy:∀{bs:Nat} {os:List (Ob D)},(news bs os).map (·.1)=o9 bs os.length/\∀(a:Nat) (b:Ob D),os[a]?=c5 b->(bs+a,b)∈news bs os
 |bs,[]=>⟨rfl,λa b c=>by simp at c⟩
 |bs,f::os=>by
  obtain⟨d,e⟩:=Jy (bs:=bs+1) (os:=os);refine⟨by simp[news,d,q7],λa b c=>?_⟩
  cases a with
  |zero=>simp at c;subst c;simp[news]
  |succ a=>
   have:=e a b (by simpa using c);rw[show bs+(a+1)=bs+1+a by omega];exact c7 _ this
end
def gE{D:Nat->Type}(H:List (Ob D))(a d:Nat)(c:List Rf)(b:List (Ob D)):List (Nat×Ob D):=
 aX (iF H (tk a c) (tk a b)) (aX (jL H (drop a c)) (news d (drop a b)))
section
variable {D:Nat->Type}{H:List (Ob D)}
def afH{c:Type}(b:List c)(a q:Nat):nth (b.drop a) q=nth b (a+q):=by
 rw[cJ,cJ,hK]
def agp{a bs:Nat}{ids:List Rf}{os:List (Ob D)}(v:kA a ids=true)(I:a<=os.length)(A:(bL ids).Nodup)(o:∀i,i∈bL ids->∃c,nth H i=c5 c)(x:∀i,i∈bL ids->i<bs)
 (w:∀d,a+d<os.length->∃c,nth H (bs+d)=c5 c):
 (∀q i c,q<a->nth ids q=c5 (.bG i)->os[q]?=c5 c->nth (b8 H (gE H a bs ids os)) i=c5 ⟨dJ H i,c.aF,c.bd⟩)/\
 (∀q i c,a<=q->nth ids q=c5 (.bG i)->nth H i=c5 c->nth (b8 H (gE H a bs ids os)) i=c5 ⟨c.st+1,c.aF+1,.dead⟩)/\
 (∀d c,os[a+d]?=c5 c->nth (b8 H (gE H a bs ids os)) (bs+d)=c5 c)/\
 (∀i,i∉bL ids->(i<bs\/bs+(os.length -a)<=i)->nth (b8 H (gE H a bs ids os)) i=nth H i):=by
 have n:bL ids=bL (ids.take a)++bL (ids.drop a):=by rw[<-rH,gx]
 obtain⟨z,t⟩:=JU (H:=H) (os:=os) v I;obtain⟨G,F⟩:=tm (H:=H) (ids:=ids.drop a) λi e=>o i (by rw[n];exact j5 _ e)
 obtain⟨u,C⟩:=Jy (bs:=bs) (os:=os.drop a);have r:(gE H a bs ids os).map (·.1)=bL ids++o9 bs (os.length -a):=by
  unfold gE;rw[bK,bK,kK,kK,drop_eq,drop_eq,o4,o4,z,G,u,n,dv,ih]
 have s:((gE H a bs ids os).map (·.1)).Nodup:=by
  rw[r,List.nodup_append];refine⟨A,List.nodup_range',λE J b l y=>?_⟩
  subst y;have:=x E J;have:=(m6.1 l).1;omega
 obtain⟨k,K⟩:=I5 (ch:=gE H a bs ids os) (H:=H) s;have j:∀p,p∈iF H (ids.take a) (os.take a)\/p∈jL H (ids.drop a)\/p∈news bs (os.drop a)->p∈gE H a bs ids os:=λp L=>by
  unfold gE;rw[bK,bK,kK,kK,drop_eq,drop_eq,c6,c6];exact L
 have lt:∀{i c},nth H i=c5 c->i<H.length:=λ{i c} g=>by rw[cJ] at g;exact c9 g
 refine⟨λq i c m e f=>?_,λq i c m e f=>?_,λd c f=>?_,λi e l=>?_⟩
 .obtain⟨B,h⟩:=o i (gV e);exact k _ _ (j _ (.inl (t q i c m e f))) (lt h)
 .exact k _ _ (j _ (.inr (.inl (F (q -a) i c (by rw[afH,show a+(q -a)=q by omega];exact e) f)))) (lt f)
 .obtain⟨B,h⟩:=w d (c9 f);exact k _ _ (j _ (.inr (.inr (C d c (by rw[hK];exact f))))) (lt h)
 .refine K i ?_
  rw[r,c6,m6];rintro(g |g)
  .exact e g
  .omega
end
section
variable {P:Program}{B:Tb}
open Classical in
def aeK(aa:cU P B){c:aq B}(aH:Fits P B c){Ea:En B.D}{H:List (Ob B.D)}{ids:List Rf}{bx:List (TV B.D)}{aZ:bi B.D c.par.bX}{an:bi B.D c.az.bX}{bs:Nat}{rs:En B.D}{os:List (Ob B.D)}
 (cr:leaves c.par ⟨Ea,H⟩ ids=c5 bx) (b4:eJ B c.par.bX bx (rQ B c.par.bX aZ)) (a1:c.F aZ=c5 an) (bq:nI B (gu H ids c.low bs) c.az an=⟨rs,os⟩)
 (cB:zc (aX (eW H c.par.dF ids) (gK ⟨Ea,H⟩ c.par.dE))=true\/(oN B.flat B.el c.az.dF=true/\tJ B.flat c.az.dE=true))
 (bT:kA c.low ids=true) (cd:c.low<=os.length) (bN:∀i,i∈bL ids->i<bs) (a7:∀e,c.low+e<os.length->nth H (bs+e)=c5 xt)
 {g:Gh} {w:World} {as:List Value} (ak:bF g (av B H) w) (b6:as.length=c.na) (br:∀ao,VR g (av B H) w (pv B (lk Ea ao)) (as.getD ao undef)):
 Calls P c.cO as.toArray w λt R=>∃v g',t= .returned v/\bF g' (av B (b8 H (gE H c.low bs ids os))) R/\Bml.GStep (av B H).length g (av B H) w g' (av B (b8 H (gE H c.low bs ids os))) R/\
  VR g' (av B (b8 H (gE H c.low bs ids os))) R (pv B (kR rs)) v:=by
 let aD:=aX (eW H c.par.dF ids) (gK ⟨Ea,H⟩ c.par.dE)
 let fz:Nat->Prop:=λi=>i∈aD/\∀q,eQ ids q≠c5 i
 obtain⟨bp,bU,co,cl⟩:=PQ aa cr b4 ak (fz:=fz) (λi a=>a.2) (λi d cc=>⟨d,λq j=>cc (gV (qS j))⟩);refine(aH.calls aZ an a1 _ w as b6 co λao=>cl ao _ (br ao)).mono ?_
 rintro t R ⟨v,x,rfl,ad,O,aS⟩;have aT:∀i,i∈bL ids->∃K,nth H i=c5 K:=λi d=>by
  obtain⟨q,j⟩:=uM d;obtain⟨_,K,_,W,_⟩:=bU.bG q i j;exact⟨K,W⟩
 obtain⟨bQ,bA,bV,bb⟩:=agp (os:=os) (bs:=bs) bT cd bp aT bN λe D=>⟨_,a7 e D⟩
 generalize cn:b8 H (gE H c.low bs ids os)=H2 at bQ bA bV bb⊢;have ch:H2.length=H.length:=by rw[<-cn,qy]
 have ck:=NA (B:=B) c.az.bX an;obtain⟨cM,a8,bP,u1,u2⟩:=en.split ck;obtain⟨J,ce,cp,cj,cI,cL,bX⟩:=Pj (ρ:=λq=>(q,0)) (ρ':=gu H ids c.low bs) (q0:=0) u1;have cq:cz B c.az an=⟨gR (λq=>(q,0)) c.az.dE a8,J⟩:=by
  unfold cz nI;rw[bP,cp]
 have b3:rs=gR (gu H ids c.low bs) c.az.dE a8/\os=ce:=by
  unfold nI at bq;rw[bP,cj] at bq;injection bq with u o
  exact⟨u.symm,o.symm⟩
 obtain⟨rfl,rfl⟩:=b3;rw[cq] at ad O aS
 replace ad:bF x (av B J) R:=ad
 replace O:Bml.GStep c.low (dj g (eQ ids) fz) (av B (cz B c.par aZ).H) w x (av B J) R:=O
 replace aS:VR x (av B J) R (pv B (kR (gR (λq=>(q,0)) c.az.dE a8))) v:=aS
 have cG:J.length=os.length:=by omega
 have a0:∀q b h,(dj g (eQ ids) fz).β q=c5 (b,h)->∃i,nth ids q=c5 (.bG i)/\g.β i=c5 (b,h):=λq b h a=>by
  have k:(eQ ids q).bind g.β=c5 (b,h):=a;cases aI:eQ ids q with
  |none=>rw[aI] at k;cases k
  |some i=>rw[aI] at k;exact⟨i,qS aI,k⟩
 let ag:Nat->Prop:=λi=>∃q,q<c.low/\nth ids q=c5 (.bG i)
 let aJ:Nat->Prop:=λi=>bs<=i/\c.low+(i -bs)<os.length
 let bK:Nat->Prop:=λb=>∃i h,fz i/\g.β i=c5 (b,h)
 let U:Gh:={F:=λb=>x.F b/\¬bK b,β:=λi=>if a:ag i then x.β a.choose else if i∈bL ids then ea else if aJ i then x.β (c.low+(i -bs)) else g.β i}
 have aj:∀q i,q<c.low->nth ids q=c5 (.bG i)->U.β i=x.β q:=λq i j d=>by
  have a:ag i:=⟨q,j,d⟩;show(if a:ag i then x.β a.choose else _)=_
  rw[dif_pos a,ES bp a.choose_spec.2 d]
 have aw:∀q i,c.low<=q->nth ids q=c5 (.bG i)->U.β i=ea:=λq i j d=>by
  have a:¬ag i:=λ⟨E,u,o⟩=>by have:=ES bp o d;omega
  show(if a:ag i then x.β a.choose else if i∈bL ids then ea else _)=_
  rw[dif_neg a,if_pos (gV d)]
 have bS:∀e,bs+e∉bL ids:=λe a=>by have:=bN _ a;omega
 have az:∀e,c.low+e<os.length->U.β (bs+e)=x.β (c.low+e):=λe D=>by
  have a:¬ag (bs+e):=λ⟨E,u,o⟩=>bS e (gV o)
  have o:aJ (bs+e):=⟨by omega,by rw[show bs+e -bs=e by omega];exact D⟩;show(if a:ag (bs+e) then x.β a.choose else if bs+e∈bL ids then ea else if aJ (bs+e) then x.β (c.low+(bs+e -bs)) else _)=_
  rw[dif_neg a,if_neg (bS e),if_pos o,show bs+e -bs=e by omega]
 have ah:∀i,i∉bL ids->(i<bs\/bs+(os.length -c.low)<=i)->U.β i=g.β i:=λi d l=>by
  have a:¬ag i:=λ⟨E,u,o⟩=>d (gV o)
  have o:¬aJ i:=λ⟨u,o⟩=>by omega
  show(if a:ag i then x.β a.choose else if i∈bL ids then ea else if aJ i then x.β (c.low+(i -bs)) else g.β i)=_
  rw[dif_neg a,if_neg d,if_neg o]
 have ai:∀i,(∃q,q<c.low/\nth ids q=c5 (.bG i))\/(∃q,c.low<=q/\nth ids q=c5 (.bG i))\/(∃e,c.low+e<os.length/\i=bs+e)\/(i∉bL ids/\(i<bs\/bs+(os.length -c.low)<=i)):=λi=>by
  by_cases d:i∈bL ids
  .obtain⟨q,j⟩:=uM d;rcases hI q c.low with a |a
   .exact .inl ⟨q,a,j⟩
   .exact .inr (.inl ⟨q,a,j⟩)
  .by_cases a:bs<=i/\i<bs+(os.length -c.low)
   .exact .inr (.inr (.inl ⟨i -bs,by omega,by omega⟩))
   .exact .inr (.inr (.inr ⟨d,by omega⟩))
 have bl:∀q b h,x.β q=c5 (b,h)->w.heap.size<=b\/∃i p,i∈bL ids/\g.β i=c5 (b,p):=λq b h a=>by
  rcases O.oZ q b h a with a |⟨E,p,a⟩
  .exact .inl a
  .obtain⟨i,d,l⟩:=a0 E b p a;exact .inr ⟨i,p,gV d,l⟩
 have bB:∀q i,q<c.low->nth ids q=c5 (.bG i)->∃op r m f V,J[q]?=c5 m/\os[q]?=c5 f/\en B op.bX r/\(oN B.flat B.el c.az.dF=true->uT B.flat B.el op=true)/\(∀y,dI (λq=>(q,0)) 0 0 op (r++y)=(m,y))/\(∀y,dI (gu H ids c.low bs) 0 V.aF op (r++y)=(f,y))/\
  nth H i=c5 V/\nth H2 i=c5 ⟨dJ H i,f.aF,f.bd⟩/\m.aF=0/\f.aF=V.aF/\(aY B f).ty=(aY B m).ty/\(aY B f).sz=(aY B m).sz/\(aY B f).es.length=(aY B m).es.length:=λq i j d=>by
  obtain⟨op,r,m,f,z,Z,N,T,I,C⟩:=bX q (by omega);obtain⟨V,a5⟩:=aT i (gV d);rw[e6] at I C;have bf:(gu H ids c.low bs q).2=V.aF:=by
   unfold gu;rw[show j8 q c.low=true from hM j,d];simp only[cond_true,a5]
  rw[bf] at C;obtain⟨al,am,bI,bj,bh,bc,aK,ax,aA⟩:=Iz (B:=B) (ρ:=λq=>(q,0)) (ρ':=gu H ids c.low bs) 0 0 0 V.aF N;obtain rfl:al=m:=by have M:=bI [];have b:=I [];rw[M] at b;exact(eE b).1
  obtain rfl:am=f:=by have M:=bj [];have b:=C [];rw[M] at b;exact(eE b).1
  exact⟨op,r,al,am,V,z,Z,N,T,I,C,a5,bQ q i am j d Z,bh,bc,aK,ax,aA⟩
 have bC:∀e,c.low+e<os.length->∃op r m f,J[c.low+e]?=c5 m/\os[c.low+e]?=c5 f/\en B op.bX r/\(oN B.flat B.el c.az.dF=true->uT B.flat B.el op=true)/\(∀y,dI (λq=>(q,0)) 0 0 op (r++y)=(m,y))/\(∀y,dI (gu H ids c.low bs) 0 1 op (r++y)=(f,y))/\
  nth H2 (bs+e)=c5 f/\m.aF=0/\f.aF=1/\(aY B f).ty=(aY B m).ty/\(aY B f).sz=(aY B m).sz/\(aY B f).es.length=(aY B m).es.length:=λe D=>by
  obtain⟨op,r,m,f,z,Z,N,T,I,C⟩:=bX (c.low+e) (by omega);rw[e6] at I C;have bf:(gu H ids c.low bs (c.low+e)).2=1:=by
   unfold gu;have:j8 (c.low+e) c.low=false:=by
    cases l:j8 (c.low+e) c.low with
    |false=>rfl
    |true=>have:=e4 l;omega
   rw[this];rfl
  rw[bf] at C;obtain⟨al,am,bI,bj,bh,bc,aK,ax,aA⟩:=Iz (B:=B) (ρ:=λq=>(q,0)) (ρ':=gu H ids c.low bs) 0 0 0 1 N;obtain rfl:al=m:=by have M:=bI [];have b:=I [];rw[M] at b;exact(eE b).1
  obtain rfl:am=f:=by have M:=bj [];have b:=C [];rw[M] at b;exact(eE b).1
  exact⟨op,r,al,am,z,Z,N,T,I,C,bV e am Z,bh,bc,aK,ax,aA⟩
 have bk:∀i b h,g.β i=c5 (b,h)->i<H.length/\b<w.heap.size/\¬g.F b:=λi b h a=>by
  have d:=ak.m8 i b h a;have n:i<H.length:=by rwa [qL] at d
  refine⟨n,ak.qD a,?_⟩
  have:=(ak.obj i _ (c4 d)).mem;rw[a] at this;exact this.1
 have b2:∀b,g.F b->¬bK b:=λb l ⟨i,h,_,a⟩=>(bk i b h a).2.2 l
 have b0:Bml.GStep (av B H).length g (av B H) w U (av B H2) R:=by
  refine⟨O.os,O.tape,O.output,O.size,λb l=>⟨O.F b (.inl l),b2 b l⟩,λb l=>O.jh b (.inl l),λb l aR=>O.rest b l λq h a=>?_,λb l=>?_,λi b h l=>?_,λi K d W=>?_⟩
  .obtain⟨i,_,o⟩:=a0 q b h a;exact aR i h o
  .rcases O.oY b l.1 with a |a |⟨q,h,a⟩
   .rcases a with a |⟨i,h,u,o⟩
    .exact .inl a
    .exact absurd ⟨i,h,u,o⟩ l.2
   .exact .inr (.inl a)
   .obtain⟨i,_,o⟩:=a0 q b h a;exact .inr (.inr ⟨i,h,o⟩)
  .rcases ai i with⟨q,j,d⟩ |⟨q,j,d⟩ |⟨e,D,rfl⟩ |⟨d,S⟩
   .rw[aj q i j d] at l;exact(bl q b h l).imp id λ⟨i,p,_,a⟩=>⟨i,p,a⟩
   .rw[aw q i j d] at l;cases l
   .rw[az e D] at l;exact(bl _ b h l).imp id λ⟨i,p,_,a⟩=>⟨i,p,a⟩
   .rw[ah i d S] at l;exact .inr ⟨i,h,l⟩
  .obtain⟨a6,Q,rfl⟩:=oU W;rcases ai i with⟨q,j,n⟩ |⟨q,j,n⟩ |⟨e,D,rfl⟩ |⟨n,S⟩
   .obtain⟨op,r,m,f,V,z,Z,N,T,I,C,L,X,af,aQ,aC,ac,ab⟩:=bB q i j n;rw[Q] at L;injection L with L
    subst L;refine⟨_,df X,by rw[e7,e7,aQ];exact ef _,λ_=>?_⟩
    obtain⟨aI,K,ay,aV,cw,cs,cm,cx⟩:=bU.bG q i n;rw[Q] at aV;injection aV with aV
    subst aV;obtain⟨cN,a4,cH,ci⟩:=O.dF q _ j (df cw);have cf:(av B J)[q]?=c5 (aY B m):=df (by rw[cJ];exact z);rw[cf] at a4;injection a4 with a4
    subst a4;obtain⟨b1,cy,cC⟩:=ci (by rw[e7,e7,af,cs]);refine⟨?_,?_,?_⟩
    .show(aY B ⟨dJ H i,f.aF,f.bd⟩).sz=_
     rw[show aY B ⟨dJ H i,f.aF,f.bd⟩=aY B f from rfl,ac,b1,cm]
    .show(aY B ⟨dJ H i,f.aF,f.bd⟩).es.length=_
     rw[show aY B ⟨dJ H i,f.aF,f.bd⟩=aY B f from rfl,ab,cy,cx]
    .rw[aj q i j n,cC];show(eQ ids q).bind g.β=_
     rw[aI];rfl
   .have:=bA q i a6 j n Q;exact⟨_,df this,by rw[e7,e7];exact Nat.le_succ _,λt=>by rw[e7,e7] at t;exact absurd t (Nat.succ_ne_self _)⟩
   .obtain⟨op,r,m,f,z,Z,N,T,I,C,L,X,af,_⟩:=bC e D;rw[a7 e D] at Q;injection Q with Q
    subst Q;exact⟨_,df L,by rw[e7];exact l2 _,λt=>by rw[e7,e7,af] at t;cases t⟩
   .exact⟨_,df (by rw[bb i n S];exact Q),ef _,λ_=>⟨rfl,rfl,ah i n S⟩⟩
 have bR:(∀b,x.F b->U.F b)\/(oN B.flat B.el c.az.dF=true/\tJ B.flat c.az.dE=true):=cB.imp (λaR b l=>⟨l,λ⟨i,h,u,_⟩=>by
  have o:i∈aD:=u.1;have aN:aD=[]:=by
   cases b9:aD with
   |nil=>rfl
   |cons M J=>rw[show aX (eW H c.par.dF ids) (gK ⟨Ea,H⟩ c.par.dE)=aD from rfl,b9] at aR;cases aR
  rw[aN] at o;cases o⟩) id
 have ca:∀q,(∃i,q<c.low/\nth ids q=c5 (.bG i))\/c.low<=q:=λq=>by
  rcases hI q c.low with a |a
  .obtain⟨i,d⟩:=Ql bT q a;exact .inl ⟨i,a,d⟩
  .exact .inr a
 have conv:∀q:Nat,∀m,(av B J)[q]?=c5 m->m.aF=0/\∃i f,gu H ids c.low bs q=(i,f.aF)/\(av B H2)[i]?=c5 f/\f.sz=m.sz/\f.es.length=m.es.length/\U.β i=x.β q:=λq m u=>by
  obtain⟨cK,a3,rfl⟩:=oU u;rw[cJ] at a3;rcases ca q with⟨i,j,d⟩ |j
  .obtain⟨op,r,al,f,V,z,Z,N,T,I,C,L,X,af,aQ,aC,ac,ab⟩:=bB q i j d;rw[a3] at z;injection z with z
   subst z;refine⟨by rw[e7,af],i,_,?_,df X,ac,ab,aj q i j d⟩
   unfold gu;rw[show j8 q c.low=true from hM j,d];simp only[cond_true,L,e7,aQ]
  .have cO:q<J.length:=c9 a3;have D:c.low+(q -c.low)<os.length:=by omega
   obtain⟨op,r,al,f,z,Z,N,T,I,C,L,X,af,aC,ac,ab⟩:=bC (q -c.low) D;rw[show c.low+(q -c.low)=q by omega,a3] at z;injection z with z
   subst z;refine⟨by rw[e7,X],bs+(q -c.low),_,?_,df L,ac,ab,by rw[az _ D,show c.low+(q -c.low)=q by omega]⟩
   unfold gu;have:j8 q c.low=false:=by
    cases l:j8 q c.low with
    |false=>rfl
    |true=>have:=e4 l;omega
   rw[this];simp only[cond_false,e7,af]
 have bY:∀q v,VR x (av B J) R (.ptr q 0 0 0) v->VR U (av B H2) R (.ptr (gu H ids c.low bs q).1 (gu H ids c.low bs q).2 0 0) v:=λq v a=>by
  cases a with
  |aW a=>cases a
  |ptr _ _ _ _ m M W br b7=>
   obtain⟨h0,i,f,bz,be,bo,bt,bD⟩:=conv q m W;obtain⟨u,b,h,l,rfl⟩:=b7 h0.symm;rw[bz];exact .ptr i _ 0 0 f _ be (ef _) λ_=>⟨by rw[bt];exact u,b,h,by rw[bD];exact l,by rw[bo]⟩
 have bW:∀q v,VR x (av B J) R (.fl q 0) v->VR U (av B H2) R (.fl (gu H ids c.low bs q).1 (gu H ids c.low bs q).2) v:=λq v a=>by
  cases a with
  |aW a=>cases a
  |fl _ _ m _ W br u cu=>
   obtain⟨h0,i,f,bz,be,bo,bt,bD⟩:=conv q m W;rw[bz];refine .fl i _ f _ be (ef _) u λ_=>?_
   have bM:=cu h0.symm;unfold SL at bM⊢;rw[bo,bt,bD];exact bM
 have bZ:∀q op r m (f:Ob B.D) aO a2,J[q]?=c5 m->en B op.bX r->(oN B.flat B.el c.az.dF=true->uT B.flat B.el op=true)->(∀y,dI (λq=>(q,0)) 0 0 op (r++y)=(m,y))->(∀y,dI (gu H ids c.low bs) aO a2 op (r++y)=(f,y))->
  (aY B f).ty=(aY B m).ty->(aY B f).sz=(aY B m).sz->(aY B f).es.length=(aY B m).es.length->∀i,U.β i=x.β q->qT U (av B H2) R i (aY B f):=λq op r m f aO a2 z N T I C aK ax aA i cD=>by
  obtain⟨bH,bn,ae⟩:=ad.obj q _ (df (by rw[cJ];exact z));have cb:=af9 aa (H:=av B J) (H':=av B H2) (g:=x) (g':=U) (w:=R) bY bW N (bR.imp id λa=>T a.1) I C;refine⟨by rw[ax];exact bH,aeL aa (op:=op) (ms:=r) I C bn,?_⟩
  rw[cD];cases l:x.β q with
  |none=>
   rw[l] at ae;exact dT (by rw[aA,ae];rfl)
  |some bd=>
   obtain⟨b,h⟩:=bd;rw[l] at ae;obtain⟨ba,cells,aE,a9,bE,bm,bv⟩:=ae;refine⟨λa=>ba a.1,cells,by rw[aK];exact aE,by rw[ax];exact a9,bE,by rw[aA];exact bm,λM e b5 aH=>?_⟩
   obtain⟨bw,cv,ct⟩:=cb M e b5 aH;obtain⟨aU,u,o,aN⟩:=bv M e bw cv;exact⟨aU,by rw[ax];exact u,o,ct aU aN⟩
 refine⟨v,U,rfl,⟨λb l=>ad.fb b l.1,λi A b h p a k=>?_,λi b h a=>?_,λi K W=>?_⟩,b0,?_⟩
 .
  have bG:∀i,i∉bL ids->(i<bs\/bs+(os.length -c.low)<=i)->∀b h,g.β i=c5 (b,h)->∀q p,x.β q≠c5 (b,p):=λi d _ b h l q p j=>by
   rcases bl q b p j with a |⟨A,C2,u,o⟩
   .have:=(bk i b h l).2.1;omega
   .obtain rfl:=ak.inj i A b h C2 l o;exact d u
  rcases ai i with⟨q,j,d⟩ |⟨q,j,d⟩ |⟨e,D,rfl⟩ |⟨d,S⟩
  .rw[aj q i j d] at a;rcases ai A with⟨E,Y,n⟩ |⟨E,Y,n⟩ |⟨aL,aM,rfl⟩ |⟨n,ar⟩
   .rw[aj E A Y n] at k;obtain rfl:=ad.inj q E b h p a k;rw[d] at n;injection n with n
    injection n
   .rw[aw E A Y n] at k;cases k
   .rw[az aL aM] at k;have:=ad.inj q _ b h p a k;omega
   .rw[ah A n ar] at k;exact absurd a (bG A n ar b p k q h)
  .rw[aw q i j d] at a;cases a
  .rw[az e D] at a;rcases ai A with⟨E,Y,n⟩ |⟨E,Y,n⟩ |⟨aL,aM,rfl⟩ |⟨n,ar⟩
   .rw[aj E A Y n] at k;have:=ad.inj _ E b h p a k;omega
   .rw[aw E A Y n] at k;cases k
   .rw[az aL aM] at k;have:=ad.inj _ _ b h p a k;omega
   .rw[ah A n ar] at k;exact absurd a (bG A n ar b p k _ h)
  .rw[ah i d S] at a;rcases ai A with⟨E,Y,n⟩ |⟨E,Y,n⟩ |⟨aL,aM,rfl⟩ |⟨n,ar⟩
   .rw[aj E A Y n] at k;exact absurd k (bG i d S b h a E p)
   .rw[aw E A Y n] at k;cases k
   .rw[az aL aM] at k;exact absurd k (bG i d S b h a _ p)
   .rw[ah A n ar] at k;exact ak.inj i A b h p a k
 .rw[qL,ch];rcases ai i with⟨q,j,d⟩ |⟨q,j,d⟩ |⟨e,D,rfl⟩ |⟨d,S⟩
  .obtain⟨K,W⟩:=aT i (gV d);rw[cJ] at W;exact c9 W
  .rw[aw q i j d] at a;cases a
  .have:=a7 e D;rw[cJ] at this;exact c9 this
  .rw[ah i d S] at a;exact(bk i b h a).1
 .obtain⟨a6,Q,rfl⟩:=oU W;rcases ai i with⟨q,j,d⟩ |⟨q,j,d⟩ |⟨e,D,rfl⟩ |⟨d,S⟩
  .obtain⟨op,r,m,f,V,z,Z,N,T,I,C,L,X,af,aQ,aC,ac,ab⟩:=bB q i j d;rw[Q] at X;injection X with X
   subst X;exact bZ q op r m f 0 V.aF z N T I C aC ac ab i (aj q i j d)
  .obtain⟨V,a5⟩:=aT i (gV d);have:=bA q i V j d a5;rw[Q] at this;injection this with this
   subst this;refine⟨qb,λM t G=>by simp[aY] at G,?_⟩
   rw[aw q i j d]
   rfl
  .obtain⟨op,r,m,f,z,Z,N,T,I,C,L,X,af,aC,ac,ab⟩:=bC e D;rw[Q] at L;injection L with L
   subst L;exact bZ (c.low+e) op r m a6 0 1 z N T I C aC ac ab _ (az e D)
  .rw[bb i d S] at Q;obtain⟨bH,bn,ae⟩:=ak.obj i _ (df Q);refine⟨bH,bn,?_⟩
   rw[ah i d S];cases l:g.β i with
   |none=>rw[l] at ae;exact ae
   |some bd=>
    obtain⟨b,h⟩:=bd;rw[l] at ae;obtain⟨ba,cells,aE,a9,bE,bm,bv⟩:=ae;have bO:∀q p,(dj g (eQ ids) fz).β q≠c5 (b,p):=λq p a=>by
     obtain⟨A,u,o⟩:=a0 q b p a;obtain rfl:=ak.inj i A b h p l o;exact d (gV u)
    refine⟨λa1=>?_,cells,(O.rest b (nN aE) bO).trans aE,a9,bE,bm,λM e bw aH=>?_⟩
    .rcases O.oY b a1.1 with a |a |⟨q,p,a⟩
     .rcases a with a |⟨A,p,u,o⟩
      .exact ba a
      .exact a1.2 ⟨A,p,u,o⟩
     .have:=nN aE;omega
     .exact bO q p a
    .obtain⟨aU,u,o,aN⟩:=bv M e bw aH;exact⟨aU,u,o,aN.nZ b0⟩
 .exact al8 (OR aa bY bW u2 (bR.imp id λa=>a.2)) aS
where
 aeL (aa:cU P B) {ρ ρ':Nat->Nat×Nat} {s v aO a2:Nat} {op:OP} {ms:List (TV B.D)} {K ay:Ob B.D} (a:∀y,dI ρ s v op (ms++y)=(K,y)) (k:∀y,dI ρ' aO a2 op (ms++y)=(ay,y))
  (hw:∀(i:Nat) (t:PV),(aY B K).es[i]?=c5 t->t.cells.length=(aY B K).sz):∀(i:Nat) (t:PV),(aY B ay).es[i]?=c5 t->t.cells.length=(aY B ay).sz:=by
  have a:=a [];have k:=k [];rw[ft] at a k;cases op with
  |refs r aG=>
   simp only[dI,uA,h5] at a k;obtain⟨rfl,_⟩:=a;obtain⟨rfl,_⟩:=k;have bJ:∀(aF:Nat->Nat×Nat) i,(aP B (aG.map λq=>.fl (aF q).1 (aF q).2))[i]?=(aG[i]?).map λq=>PV.fl (aF q).1 (aF q).2:=λaF i=>by
    rw[db,n2,ec]
    rfl
   intro i t G;have G:(aP B (aG.map λq=>.fl (ρ' q).1 (ρ' q).2))[i]?=c5 t:=G;rw[bJ] at G;cases j:aG[i]? with
   |none=>rw[j] at G;cases G
   |some q=>
    rw[j] at G;injection G with G
    subst G;exact hw i (.fl (ρ q).1 (ρ q).2) (by show(aP B (aG.map λq=>.fl (ρ q).1 (ρ q).2))[i]?=_;rw[bJ,j];rfl)
  |aap r ap=>
   refine HK aa ay λap au aB t=>?_
   cases ms with
   |nil=>
    simp only[dI] at k;obtain⟨rfl,_⟩:=eE k;cases t
   |cons J bx=>cases J <;> (simp only[dI] at k;obtain⟨rfl,_⟩:=eE k;cases t)
  |box ao cg=>
   refine HK aa ay λap au aB t=>?_
   simp only[dI] at k;obtain⟨rfl,_⟩:=eE k;cases t
  |dead=>
   refine HK aa ay λap au aB t=>?_
   simp only[dI] at k;obtain⟨rfl,_⟩:=eE k;cases t
 HK (aa:cU P B) (K:Ob B.D) (hnh:∀ap au aB,K.bd≠ .hole ap au aB):∀(i:Nat) (t:PV),(aY B K).es[i]?=c5 t->t.cells.length=(aY B K).sz:=λi t G=>by
  obtain⟨cF,cE,cA⟩:=K;cases cA with
  |aap r au=>
   obtain⟨an,_,rfl⟩:=ey.1 (ej G);exact aa.wid r an
  |box ao cg=>
   match i,G with
   |0,G=>
    simp only[aY,kc,ee] at G;subst G;simp[aY,PV.cells,db]
  |dead=>simp[aY] at G
  |hole ap au aB=>exact absurd rfl (hnh ap au aB)
end
section
variable {P:Program}{B:Tb}{H H':List (Ob B.D)}
def rT{i v:Nat}(a:nth H' i=nth H i):aK H' i v=aK H i v:=by unfold aK;rw[a]
def R5{b:List Nat}:∀(a:List (TV B.D)),(∀i,i∈iB a->nth H' i=nth H i)->qf H' b a=qf H b a
 |[],_=>rfl
 |e::a,c=>by
  simp only[qf];rw[R5 a λi d=>c i (by simp only[iB,bK,c6];exact .inr d)]
  congr 1
  cases e with
  |fl q v=>simp only[ml];rw[rT (c q (by simp[iB,refs,bK]))]
  |_=>rfl
def Ki:∀(a:List Nat),(∀i,i∈a->nth H' i=nth H i)->kY H' a=kY H a
 |[],_=>rfl
 |r::a,b=>by
  unfold kY;rw[b r (by simp),Ki a λi c=>b i (c7 _ c)]
mutual
def H6{h:List Nat}:∀(d:TV B.D),(∀i,jN H (refs d) i->nth H' i=nth H i)->kJ H' h d=kJ H h d
 | .any,_=>rfl
 | .z0,_=>rfl
 | .fS,_=>rfl
 | .bg,_=>rfl
 | .dB,_=>rfl
 | .int ..,_=>rfl
 | .bool _,_=>rfl
 | .str _,_=>rfl
 | .row ..,_=>rfl
 | .rv ..,_=>rfl
 | .vp ..,_=>rfl
 | .ptr ..,_=>rfl
 | .bu _,_=>rfl
 | .jC _,_=>rfl
 | .fl q v,a=>by
  simp only[kJ];rw[rT (a q (.one (by simp[refs])))]
  split
  .rfl
  .rename_i j g l;obtain⟨n,m⟩:=fx l;rw[R5 g λi b=>a i ?_];unfold jN;rw[bK,c6];exact .inr (yx.2 ⟨q,n,v,j,g,by simp[refs],m,b⟩)
  .rfl
 | .sl q v o len,a=>by simp only[kJ];rw[rT (a q (.one (by simp[refs])))]
 | .agg c,a=>by simp only[kJ];rw[v8 c a]
 | .fn f c k,a=>by
  simp only[kJ];rw[v8 c λi b=>a i (b.mono λr e=>by simp only[refs,bK,c6];exact .inl e),v8 k λi b=>a i (b.mono λr e=>by simp only[refs,bK,c6];exact .inr e)]
def v8{d:List Nat}:∀(a:List (TV B.D)),(∀i,jN H (iB a) i->nth H' i=nth H i)->jS H' d a=jS H d a
 |[],_=>rfl
 |f::a,e=>by
  simp only[jS];rw[H6 f λi b=>e i (b.mono λr c=>by simp only[iB,bK,c6];exact .inl c),v8 a λi b=>e i (b.mono λr c=>by simp only[iB,bK,c6];exact .inr c)]
end
mutual
def Mh{r:List Rf}{t:List Nat}(n:∀i,i∈bL r->nth H' i=nth H i):∀(p:CP) (c:TV B.D) (d:List (TV B.D)),eR H r t p c=c5 d->(∀i,i∈jn H p c->nth H' i=nth H i)->eR H' r t p c=c5 d/\jn H' p c=jn H p c
 | .any,c,d,a,_=>⟨a,rfl⟩
 | .v v,c,d,a,h=>by
  simp only[eR] at a⊢;have A:∀i,jN H (refs c) i->nth H' i=nth H i:=h;rw[H6 c A];refine⟨a,?_⟩
  simp only[jn];rw[Ki (refs c) λi m=>A i (.one m)]
 | .p q,c,d,a,N=>by
  refine⟨?_,rfl⟩
  simp only[eR] at a⊢
  split at a
  .rename_i i z
   split at a
   .rename_i R k y j l;obtain⟨g,e⟩:=a8 a;obtain rfl:=beq_eq g;rw[rT (n i (gV l)),j,l];simp only[hQ,cond_true];exact e
   .cases a
  .cases a
 | .r q,c,d,a,N=>by
  refine⟨?_,rfl⟩
  simp only[eR] at a⊢
  split at a
  .rename_i i z
   split at a
   .rename_i v D y j l;obtain⟨g,e⟩:=a8 a;obtain rfl:=beq_eq g;rw[rT (n i (gV l)),j,l];simp only[hQ,cond_true];exact e
   .rename_i v D V y j l;obtain⟨g,e⟩:=a8 a;obtain rfl:=beq_eq g;rw[rT (n i (gV l)),j,l];simp only[hQ,cond_true];exact e
   .cases a
  .exact a
  .exact a
  .cases a
 | .q o,c,d,a,h=>by
  simp only[eR] at a⊢
  split at a
  .rename_i i z;have m:nth H' i=nth H i:=h i (by simp[jn])
   split at a
   .rename_i R k j;obtain⟨W,w⟩:=fx j;rw[rT m,j];cases x:has t i with
    |true=>rw[x] at a;cases a
    |false=>
     rw[x] at a;obtain⟨g,e⟩:=a8 a;obtain⟨u,s⟩:=pY n o k d e λJ C=>h J (by simp only[jn,w,dd];exact .inr C)
     simp only[g,cond_true,cond_false];refine⟨u,?_⟩
     simp only[jn,m,w,s]
   .cases a
  .rename_i k;obtain⟨g,e⟩:=a8 a;obtain⟨u,s⟩:=pY n o k d e h;simp only[g,cond_true];exact⟨u,s⟩
  .cases a
 | .f U o E,c,d,a,h=>by
  simp only[eR] at a⊢
  split at a
  .rename_i f k I;obtain⟨K,L⟩:=a8 a;obtain⟨G,O,g,e,rfl⟩:=iK L;obtain⟨Q,S⟩:=pY n o k G g λi m=>h i (by simp only[jn,bK,c6];exact .inl m)
   obtain⟨M,F⟩:=pY n E I O e λi m=>h i (by simp only[jn,bK,c6];exact .inr m)
   refine⟨by rw[K];simp[Q,M,cat],by simp only[jn,S,F]⟩
  .cases a
 | .g o,c,d,a,h=>by
  simp only[eR] at a⊢
  split at a
  .rename_i k;exact pY n o k d a h
  .cases a
 | .b b,c,d,a,_=>⟨a,rfl⟩
 | .i T v,c,d,a,_=>⟨a,rfl⟩
 | .z,c,d,a,_=>⟨a,rfl⟩
 | .ns,c,d,a,_=>⟨a,rfl⟩
def pY{e:List Rf}{h:List Nat}(j:∀i,i∈bL e->nth H' i=nth H i):∀(b:List CP) (c:List (TV B.D)) (d:List (TV B.D)),fg H e h b c=c5 d->(∀i,i∈gJ H b c->nth H' i=nth H i)->fg H' e h b c=c5 d/\gJ H' b c=gJ H b c
 |[],[],d,a,_=>⟨a,rfl⟩
 |o::b,s::c,d,a,g=>by
  simp only[fg] at a⊢;obtain⟨m,p,q,k,rfl⟩:=iK a;obtain⟨r,t⟩:=Mh j o s m q λi f=>g i (by simp only[gJ,bK,c6];exact .inl f)
  obtain⟨n,l⟩:=pY j b c p k λi f=>g i (by simp only[gJ,bK,c6];exact .inr f)
  exact⟨by simp[r,n,cat],by simp only[gJ,t,l]⟩
 |[],_::_,d,a,_=>by simp[fg] at a
 |_::_,[],d,a,_=>by simp[fg] at a
end
def Bu{t:List Rf}{y:List Nat}(n:∀i,i∈bL t->nth H' i=nth H i):∀{h:List (Nat×List Nat×OP)} {d:List Rf} {l:List (TV B.D)},(∀i,i∈bL d->nth H' i=nth H i)->iP H t y h d=c5 l->(∀i,i∈eW H h d->nth H' i=nth H i)->
 iP H' t y h d=c5 l/\eW H' h d=eW H h d/\∀i,i∈bL d->∃D,nth H i=c5 D
 |[],[],l,_,e,_=>⟨e,rfl,by simp[bL]⟩
 |(J,M,E)::h,i::d,l,p,e,o=>by
  simp only[iP] at e⊢;obtain⟨x,L,b,s,rfl⟩:=iK e;have r:∀c,c∈bL d->nth H' c=nth H c:=λc a=>p c (by cases i <;> simp[bL,a])
  cases E with
  |aap G Q=>
   obtain⟨k,f,m⟩:=Bu n r s λc a=>o c (by simpa[eW] using a)
   cases i with
   |bG q=>
    have j:=p q (by simp[bL]);simp only[dn,j] at b⊢;refine⟨by rw[b,k];rfl,by simpa[eW] using f,λc a=>?_⟩
    rcases dd.1 a with rfl |a
    .split at b
     .exact⟨_,by assumption⟩
     .cases b
    .exact m c a
   |new=>
    refine⟨?_,by simpa[eW] using f,λc a=>m c (by simpa[bL] using a)⟩
    simp only[dn] at b⊢;rw[b,k];rfl
   |gone=>simp[dn] at b
   |bad=>simp[dn] at b
  |box O z=>
   cases i with
   |bG q=>
    have j:=p q (by simp[bL]);simp only[dn,j] at b⊢
    split at b
    .rename_i K C g;obtain⟨u,v⟩:=a8 b;obtain⟨w,I⟩:=pY n z C x v λc a=>o c (by simp only[eW,g,bK,c6];exact .inl a)
     obtain⟨k,f,m⟩:=Bu n r s λc a=>o c (by simp only[eW,g,bK,c6];exact .inr a)
     refine⟨by rw[u,k];simp[w,cat],by simp only[eW,j,g,I,f],λc a=>?_⟩
     rcases dd.1 a with rfl |a
     .exact⟨_,g⟩
     .exact m c a
    .cases b
   |new=>simp[dn] at b
   |gone=>simp[dn] at b
   |bad=>simp[dn] at b
  |dead=>cases i <;> simp[dn] at b
  |refs G A=>
   cases i with
   |bG q=>
    have j:=p q (by simp[bL]);simp only[dn,j] at b⊢
    split at b
    .rename_i N F g;obtain⟨u,v⟩:=a8 b;obtain⟨w,_⟩:=pY n (iQ A) F x v λc a=>by rw[Fq] at a;cases a
     obtain⟨k,f,m⟩:=Bu n r s λc a=>o c (by simpa[eW] using a)
     refine⟨by rw[u,k];simp[w,cat],by simpa[eW] using f,λc a=>?_⟩
     rcases dd.1 a with rfl |a
     .exact⟨_,g⟩
     .exact m c a
    .cases b
   |new=>simp[dn] at b
   |gone=>simp[dn] at b
   |bad=>simp[dn] at b
 |[],_::_,l,_,e,_=>by simp[iP] at e
 |_::_,[],l,_,e,_=>by simp[iP] at e
def N0{f:List Rf}{h:List Nat}{b:En B.D}(j:∀i,i∈bL f->nth H' i=nth H i):∀{a:List (Nat×CP)} {c:List (TV B.D)},oz ⟨b,H⟩ f h a=c5 c->(∀i,i∈gK ⟨b,H⟩ a->nth H' i=nth H i)->
 oz ⟨b,H'⟩ f h a=c5 c/\gK ⟨b,H'⟩ a=gK ⟨b,H⟩ a
 |[],c,d,_=>⟨d,rfl⟩
 |p::a,c,d,g=>by
  simp only[oz] at d⊢;obtain⟨n,s,m,l,rfl⟩:=iK d;obtain⟨k,o⟩:=Mh j p.2 _ n m λi e=>g i (by simp only[gK,bK,c6];exact .inl e)
  obtain⟨q,r⟩:=N0 j l λi e=>g i (by simp only[gK,bK,c6];exact .inr e)
  exact⟨by simp[k,q,cat],by simp only[gK,o,r]⟩
def NS{p:bY}{c:En B.D}{a:List Rf}{g:List (TV B.D)}(b:leaves p ⟨c,H⟩ a=c5 g)(e:∀i,i∈aX (bL a) (aX (eW H p.dF a) (gK ⟨c,H⟩ p.dE))->nth H' i=nth H i):
 leaves p ⟨c,H'⟩ a=c5 g/\aX (eW H' p.dF a) (gK ⟨c,H'⟩ p.dE)=aX (eW H p.dF a) (gK ⟨c,H⟩ p.dE)/\∀i,i∈bL a->∃k,nth H i=c5 k:=by
 unfold leaves at b⊢;obtain⟨q,b⟩:=a8 b;obtain⟨h,b⟩:=a8 b;obtain⟨t,u,n,j,rfl⟩:=iK b;have f:∀i,i∈bL a->nth H' i=nth H i:=λi d=>e i (by simp only[bK,c6];exact .inl d)
 obtain⟨r,s,o⟩:=Bu f f n λi d=>e i (by simp only[bK,c6];exact .inr (.inl d))
 obtain⟨m,l⟩:=N0 f j λi d=>e i (by simp only[bK,c6];exact .inr (.inr d))
 refine⟨?_,by rw[s,l],o⟩
 rw[q,h];show cat (iP H' a (bL a) p.dF a) (oz ⟨c,H'⟩ a (bL a) p.dE)=_
 rw[r,m]
 rfl
def aeG{a:List Rf}{low bs:Nat}(b:∀i,i∈bL a->nth H' i=nth H i):gu H' a low bs=gu H a low bs:=by
 funext q
 unfold gu;cases j8 q low with
 |false=>rfl
 |true=>
  simp only[cond_true];cases c:nth a q with
  |none=>rfl
  |some r=>
   cases r with
   |bG i=>simp only[b i (gV c)]
   |new=>rfl
   |gone=>rfl
   |bad=>rfl
def Xs{d:List Rf}{low bs:Nat}{os:List (Ob B.D)}(k:∀i,i∈bL d->nth H' i=nth H i):gE H' low bs d os=gE H low bs d os:=by
 have l:bL d=bL (d.take low)++bL (d.drop low):=by rw[<-rH,gx]
 have b:∀(a:List Rf) (os:List (Ob B.D)),(∀i,i∈bL a->nth H' i=nth H i)->iF H' a os=iF H a os:=λa=>by
  induction a with
  |nil=>intro os _;rfl
  |cons j a e=>
   intro os c;cases j with
   |bG i=>
    cases os with
    |nil=>rfl
    |cons n os=>
     simp only[iF,dJ,c i (by simp[bL])];rw[e os λh g=>c h (by simp[bL,g])]
   |new=>cases os <;> rfl
   |gone=>cases os <;> rfl
   |bad=>cases os <;> rfl
 have m:∀(a:List Rf),(∀i,i∈bL a->nth H' i=nth H i)->jL H' a=jL H a:=λa=>by
  induction a with
  |nil=>intro _;rfl
  |cons j a e=>
   intro c;cases j with
   |bG i=>
    simp only[jL,c i (by simp[bL])];rw[e λh g=>c h (by simp[bL,g])]
   |new=>exact e c
   |gone=>exact e c
   |bad=>exact e c
 unfold gE;rw[kK,drop_eq,b _ _ λi f=>k i (by rw[l];exact oi _ f),m _ λi f=>k i (by rw[l];exact j5 _ f)]
end
section
variable {P:Program}{B:Tb}{R:Type}{r:R}
def Dz{f:Nat->Type}:∀(c:List (TV f)) (a b:Nat),lk (fi a c) (a+b)=(c[b]?).getD .any
 |[],_,_=>rfl
 |e::c,a,0=>by simp[fi,lk,hQ]
 |e::c,a,b+1=>by
  have:fe a (a+(b+1))=false:=by
   cases d:fe a (a+(b+1)) with
   |false=>rfl
   |true=>have:=beq_eq d;omega
  simp only[fi,lk,this,cond_false];rw[show a+(b+1)=a+1+b by omega,Dz c (a+1) b];simp
def QD{c:Nat->Type}:∀(a:List (TV c)) (b:Nat),(fi b a).length=a.length
 |[],_=>rfl
 |d::a,b=>by simp[fi,QD a]
def ZT{g:Gh}{e:List aO}{h:World}{b:List (TV B.D)}{c:List Value}(j:xB g e h (aP B b) c)(a:Nat):VR g e h (pv B (lk (fi 0 b) a)) (c.getD a undef):=by
 have i:=Dz b 0 a;rw[e6] at i;rw[i];cases d:b[a]? with
 |none=>exact .any _
 |some l=>
  have k:=c9 d;have f:a<c.length:=by rw[<-j.1,db,l3];exact k
  have:=j.2 a (pv B l) c[a] (EL d) (c4 f);rw[h8,c4 f];exact this
def Z3(aG:cU P B){u:List (aq B)}(U:∀b,b∈u->Fits P B b){x:Nat}{c:List (TV B.D)}{H:List (Ob B.D)}{G:cr B.D->Option R}(a:nz B x ⟨fi 0 c,H⟩ G u=c5 r):
 ∃k,G k=c5 r/\iZ H k/\∃b,b∈u/\b.cO=x/\∀(H':List (Ob B.D)),(∀i,i∈aX k.rd (eV k.wr)->nth H' i=nth (aX H (dx k.nw)) i)->∀g t n,bF g (av B H') n->xB g (av B H') n (aP B c) t->
  Calls P x t.toArray n λA q=>∃z o v p,A= .returned z/\(v=pv B k.val/\p=av B (b8 H' k.wr))/\bF o p q/\VR o p q v z/\Bml.GStep (av B H').length g (av B H') n o p q:=by
 induction u with
 |nil=>simp[nz] at a
 |cons b u N=>
  have next:nz B x ⟨fi 0 c,H⟩ G u=c5 r->∃k,G k=c5 r/\iZ H k/\∃y,y∈b::u/\y.cO=x/\∀(H':List (Ob B.D)),(∀i,i∈aX k.rd (eV k.wr)->nth H' i=nth (aX H (dx k.nw)) i)->∀g t n,bF g (av B H') n->xB g (av B H') n (aP B c) t->
   Calls P x t.toArray n λA q=>∃z o v p,A= .returned z/\(v=pv B k.val/\p=av B (b8 H' k.wr))/\bF o p q/\VR o p q v z/\Bml.GStep (av B H').length g (av B H') n o p q:=λa=>by
   obtain⟨k,s,C,y,I,ah⟩:=N (λy aB=>U y (c7 _ aB)) a;exact⟨k,s,C,y,c7 _ I,ah⟩
  simp only[nz] at a;cases L:(bif fe b.cO x then fe (len (fi 0 c)) b.na else false) with
  |false=>rw[L] at a;exact next a
  |true=>
   rw[L] at a;obtain⟨E,ag⟩:=fu L;have E:=beq_eq E;simp only[cond_true] at a
   split at a
   .rename_i aL w;unfold Nv at a;obtain⟨S,a⟩:=a8 a;obtain⟨O,a⟩:=a8 a;obtain⟨Y,a⟩:=a8 a;obtain⟨z,a,ad⟩:=Ae a;obtain⟨al,ap,a⟩:=ei.1 a;generalize aM:nQ (D:=B.D) ⟨fi 0 c,H⟩ b.par.dF=ids at w S O Y a;generalize ao:nI B (gu H ids b.low (len H)) b.az al=aD at a;obtain⟨rs,os⟩:=aD;obtain⟨am,aE⟩:=a8 a;have aa:b.low<=os.length:=by rw[<-eu];exact e4 am
    have an:zc (aX (eW H b.par.dF ids) (gK ⟨fi 0 c,H⟩ b.par.dE))=true\/(oN B.flat B.el b.az.dF=true/\tJ B.flat b.az.dE=true):=by
     cases ae:zc (aX (eW H b.par.dF ids) (gK ⟨fi 0 c,H⟩ b.par.dE)) with
     |true=>exact .inl rfl
     |false=>
      rw[ae] at S;exact .inr (fu S)
    obtain⟨_,_,Q⟩:=NS (H':=H) w λ_ _=>rfl
    have X:(bL ids).Nodup:=by
     unfold leaves at w;obtain⟨_,w⟩:=a8 w;obtain⟨X,_⟩:=a8 w;exact(tw _).1 X
    have M:∀i,i∈bL ids->i<len H:=λi d=>by
     obtain⟨e,h⟩:=Q i d;rw[cJ] at h;rw[eu];exact c9 h
    have ab:(len (drop b.low os))=os.length -b.low:=by rw[eu,drop_eq,ih]
    have J:bL ids=bL (ids.take b.low)++bL (ids.drop b.low):=by rw[<-rH,gx]
    obtain⟨aC,aK⟩:=JU (H:=H) (os:=os) O aa;obtain⟨ax,aJ⟩:=tm (H:=H) (ids:=ids.drop b.low) λi d=>Q i (by rw[J];exact j5 _ d)
    obtain⟨aj,ar⟩:=Jy (bs:=len H) (os:=os.drop b.low);refine⟨_,aE,?_,b,by simp,E,?_⟩
    .intro i j l;have l:(i,j)∈gE H b.low (len H) ids os:=l;unfold gE at l;rw[bK,bK,kK,kK,drop_eq,drop_eq,c6,c6] at l;show i<H.length+len (drop b.low os)/\_
     rw[ab];rcases l with l |l |l
     .have d:i∈bL ids:=by
       rw[J];refine oi _ ?_;rw[<-aC];exact hY (f:=(·.1)) l
      have:=M i d;rw[eu] at this;refine⟨by omega,λe h=>?_⟩
      have:j.st=dJ H i:=Nh _ _ _ _ l;rw[this];unfold dJ;rw[h];exact l1 _
     .have d:i∈bL ids:=by
       rw[J];refine j5 _ ?_;rw[<-ax];exact hY (f:=(·.1)) l
      have:=M i d;rw[eu] at this;refine⟨by omega,λe h=>?_⟩
      obtain⟨aI,F,ay⟩:=s9 _ _ _ l;rw[h] at F;injection F with F
      subst F;rw[ay];exact l1 _
     .have d:i∈o9 (len H) (os.drop b.low).length:=by rw[<-aj];exact hY (f:=(·.1)) l
      have:=m6.1 d;rw[ih,eu] at this;refine⟨by omega,λe h=>?_⟩
      rw[cJ] at h;have:=c9 h;omega
    .intro H' V g t n l W;have Z:∀i,i∈bL ids\/i∈aX (eW H b.par.dF ids) (gK ⟨fi 0 c,H⟩ b.par.dE)->nth H' i=nth (aX H (dx (len (drop b.low os)))) i:=λi d=>V i (by
      show i∈aX (aX (bL ids) (aX (eW H b.par.dF ids) (gK ⟨fi 0 c,H⟩ b.par.dE))) _
      rw[bK,bK,c6,c6];exact .inl d)
     have T:∀i e,nth H i=c5 e->nth (aX H (dx (len (drop b.low os)))) i=c5 e:=λi e h=>Dy h
     have K:∀i,i∈bL ids->nth H' i=nth H i:=λi d=>by
      obtain⟨e,h⟩:=Q i d;rw[Z i (.inl d),T i e h,h]
     obtain⟨aH,ai,_⟩:=NS (H':=H') w λi d=>by
      rw[bK,c6] at d;rcases d with d |d
      .exact K i d
      .obtain⟨e,h⟩:=Ni Y i d;rw[Z i (.inr d),T i e h,h]
     have ak:=aeG (low:=b.low) (bs:=len H) K;have aF:=Xs (low:=b.low) (bs:=len H) (os:=os) K;have ac:=aeK aG (U b (by simp)) (Ea:=fi 0 c) (H:=H') (ids:=ids) (bs:=len H) (rs:=rs) (os:=os) aH ad ap (by rw[ak];exact ao) (by rw[ai];exact an) O aa M (λm az=>by
      have au:len H+m∈eV (gE H b.low (len H) ids os):=by
       have aA:(os.drop b.low)[m]?=c5 os[b.low+m]:=by rw[hK];exact c4 az
       have:=ar m _ aA;have:(len H+m,os[b.low+m])∈gE H b.low (len H) ids os:=by
        unfold gE;rw[bK,bK,kK,kK,drop_eq,drop_eq,c6,c6];exact .inr (.inr this)
       exact Z4 this
      have:=V (len H+m) (by
       show len H+m∈aX _ (eV (gE H b.low (len H) ids os))
       rw[bK,c6];exact .inr au)
      rw[this];exact PK (by show m<len (drop b.low os);rw[ab];omega)) l (as:=t) (by
       have s:=beq_eq ag;rw[eu,QD] at s;rw[<-W.1,db,l3,s]) (ZT W)
     rw[<-E];refine ac.mono ?_
     rintro A q ⟨v,o,aw,s,C,I⟩;rw[aF] at s C I;exact⟨v,o,_,_,aw,⟨rfl,rfl⟩,s,I,C⟩
   .exact next a
where
 Z4 {D:Nat->Type} {c:List (Nat×Ob D)} {i:Nat} {e:Ob D} (a:(i,e)∈c):i∈eV c:=by
  induction c with
  |nil=>cases a
  |cons af c N=>
   rcases dd.1 a with A |a
   .simp[eV, <-A]
   .simp[eV,N a]
 Nh {D:Nat->Type} {H:List (Ob D)}:∀(c:List Rf) (os:List (Ob D)) (i:Nat) (j:Ob D),(i,j)∈iF H c os->j.st=dJ H i
  | .bG m::c,e::os,i,j,a=>by
   simp only[iF,dd,h5] at a;rcases a with⟨rfl,rfl⟩ |a
   .rfl
   .exact Nh c os i j a
  |[],_,_,_,a=>by simp[iF] at a
  | .bG m::c,[],_,_,a=>by simp[iF] at a
  | .new::c,_,_,_,a=>by simp[iF] at a
  | .gone::c,_,_,_,a=>by simp[iF] at a
  | .bad::c,_,_,_,a=>by simp[iF] at a
 s9 {D:Nat->Type} {H:List (Ob D)}:∀(c:List Rf) (i:Nat) (j:Ob D),(i,j)∈jL H c->∃e,nth H i=c5 e/\j.st=e.st+1
  | .bG m::c,i,j,a=>by
   simp only[jL] at a
   split at a
   .rename_i e h;simp only[dd,h5] at a;rcases a with⟨rfl,rfl⟩ |a
    .exact⟨e,h,rfl⟩
    .exact s9 c i j a
   .exact s9 c i j a
  |[],_,_,a=>by simp[jL] at a
  | .new::c,i,j,a=>s9 c i j a
  | .gone::c,i,j,a=>s9 c i j a
  | .bad::c,i,j,a=>s9 c i j a
 Ni {D:Nat->Type} {H:List (Ob D)}:∀{c:List Nat},here H c=true->∀i,i∈c->∃e,nth H i=c5 e
  |[],_,i,d=>by cases d
  |af::c,a,i,d=>by
   simp only[here] at a
   split at a
   .rename_i e h;rcases dd.1 d with rfl |d
    .exact⟨e,h⟩
    .exact Ni a i d
   .cases a
end
end Go.X
namespace Go.Bml
open Go
section
variable {P:Program}{nt:Nat}{E:Env}{H:List aO}{d:Option Nat}{ty:TypeId}{pos:String}{aft:Array Edge}{x y:Operand}{t:TypeId}
def aiA{c b:List PV}{a:Nat}(j:a+b.length<=c.length)(i e:Nat):abk (c.take a++b++c.drop (a+b.length)) i e=if i<a then abk c i e else if i<a+b.length then abk b (i -a) e else abk c i e:=by
 have h:(c.take a).length=a:=by simp;omega
 unfold abk;rw[dv]
 by_cases f:i<a
 .rw[if_pos f,dt (by omega),eo f]
 .rw[if_neg f,dk (by omega),h]
  by_cases g:i<a+b.length
  .rw[if_pos g,dt (by omega)]
  .rw[if_neg g,dk (by omega),hK]
   congr 2
   omega
def bF.put{g:Gh}{m:World}{r b C off:Nat}{o:aO}{a:List PV}{j:List Value}{aK:Array Value}(W:bF g H m)(S:H[r]?=c5 o)(I:g.β r=c5 (b,C))(Y:m.heap[b]?=c5 (.cells aK o.ty (0,0)))
 (R:gI g H m o.sz a j) (ag:∀(i:Nat) (e:PV),a[i]?=c5 e->e.cells.length=o.sz) (ac:off+a.length<=o.es.length):
 GStep H.length g H m (g.push r (c5 (b,C))) (H.set r ⟨o.ty,o.sz,o.es.take off++a++o.es.drop (off+a.length),o.aF⟩) (m.setRow b (aK.toList.take (off*o.sz)++j++aK.toList.drop (off*o.sz+j.length)).toArray)/\
 bF (g.push r (c5 (b,C))) (H.set r ⟨o.ty,o.sz,o.es.take off++a++o.es.drop (off+a.length),o.aF⟩) (m.setRow b (aK.toList.take (off*o.sz)++j++aK.toList.drop (off*o.sz+j.length)).toArray):=by
 have D:=W.obj r o S;have Z:=D.mem;rw[I] at Z;obtain⟨_,ao,w,T,ab,ai,N⟩:=Z;rw[Y] at w;injection w with w
 injection w with w _ _
 subst w;have U:j.length=a.length*o.sz:=R.1;have an:off*o.sz+j.length<=aK.size:=by
  rw[T,U, <-j9];exact gb _ (by omega)
 have X:(o.es.take off++a++o.es.drop (off+a.length)).length=o.es.length:=by simp;omega
 generalize K:(aK.toList.take (off*o.sz)++j++aK.toList.drop (off*o.sz+j.length)).toArray=s;have ae:s.size=aK.size:=by
  rw[<-K];simp only[List.size_toArray,e5,hq,ih,Array.length_toList];omega
 have M:(aK.toList.take (off*o.sz)).length=off*o.sz:=by simp;omega
 have ah:∀k,k<j.length->s[off*o.sz+k]?=j[k]? :=λk Q=>by
  rw[<-K,gy,dv,dk (by omega),M,dt (by omega)]
  congr 1
  omega
 have O:∀q,q<off*o.sz\/off*o.sz+j.length<=q->s[q]?=aK[q]? :=λq J=>by
  rw[<-K,gy,dv];rcases J with J |J
  .rw[dt (by omega),eo J,j6]
  .rw[dk (by omega),M,dk (by omega),hK,j6]
   congr 1
   omega
 refine W.set (r:=r) (o:=o) (o':=⟨o.ty,o.sz,o.es.take off++a++o.es.drop (off+a.length),o.aF⟩) (p:=c5 (b,C)) S rfl rfl rfl (by simp)
  (λV ap af=>setRow_other m b V s (λe=>af C (by rw[e];exact I))) (ef _) (λ_=>⟨rfl,X,I.symm⟩)
  (λV al h=>by injection h with h;injection h with A u;subst A;exact .inl ⟨C,I⟩) D.pos
  (λi e he=>?_) ?_
 .have am:(o.es.take off).length=off:=by simp;omega
  simp only at he;rw[dv] at he
  by_cases A:i<off
  .rw[dt (by omega),eo A] at he;exact D.width i e he
  .rw[dk (by omega)] at he
   by_cases u:i - (o.es.take off).length<a.length
   .rw[dt u] at he;exact ag _ e he
   .rw[dk (by omega),hK] at he;exact D.width _ e he
 .refine⟨s,setRow_heap m b aK s o.ty (0,0) Y,by rw[ae,T],ab,by rw[X];exact ai,λi F c n=>?_⟩
  show ∃l,s[i*o.sz+F]?=c5 l/\l.oneCell'=true/\VR g H m c l
  simp only at n;rw[aiA ac] at n
  split at n
  .rename_i A;obtain⟨l,B,u,G⟩:=N i F c n;obtain⟨aa,ad,ak⟩:=gw n;have aj:=D.width i aa ad;have:(i+1)*o.sz<=off*o.sz:=gb _ A;rw[j9,qq] at this;exact⟨l,(O _ (.inl (by omega))).trans B,u,G⟩
  .rename_i A
   split at n
   .rename_i u;obtain⟨l,B,G,L⟩:=R.2 _ _ c n;refine⟨l,?_,G,L⟩
    have Q:=(e0.1 B).1;rw[show i*o.sz+F=off*o.sz+((i -off)*o.sz+F) by rw[<-Nat.add_assoc, <-j9];congr 2;omega,ah _ Q];exact B
   .rename_i u;obtain⟨l,B,G,L⟩:=N i F c n;have:(off+a.length)*o.sz<=i*o.sz:=gb _ (by omega);rw[j9, <-U] at this;exact⟨l,(O _ (.inr (by omega))).trans B,G,L⟩
def al0{g:Gh}{w:World}{b:Value}{z:PV}{a n:Nat}(A:kP b=z)(C:z.cells.length=a)(J:z.cells.all PV.one=true):gI g H w a (hB n z) (ez b.cells n).toList/\∀e∈(ez b.cells n).toList,e.oneCell'=true:=by
 have I:VR g H w z b:=A▸ .aW (AE _ _ _);obtain⟨K,B⟩:=I.tZ J (λvs=>A▸Hl b vs);have f:b.cells.size=a:=by simp at K;omega
 have u:∀c,c<n*a->(ez b.cells n).toList[c]?=b.cells[c%a]? :=λc j=>by
  have r:0<a:=m3 λp=>by rw[p] at j;omega
  have m:c%a<b.cells.size:=by rw[f];exact Nat.mod_lt _ r
  rw[j6];unfold ez;rw[Array.getElem?_map,Array.getElem?_range,if_pos (by rw[f];exact j)];simp only[l4,f];rw[getElem!_def,h9 m]
 have F:(ez b.cells n).toList.length=n*a:=by simp[ez,f]
 refine⟨⟨by rw[F,j7],λi l G h=>?_⟩,λe q=>?_⟩
 .obtain⟨L,h⟩:=Rq h;obtain⟨e,q,o,s⟩:=B l G h;have k:l<a:=by rw[<-C];exact(e0.1 h).1
  refine⟨e,?_,o,s⟩
  have m:i*a+l<n*a:=by
   have:(i+1)*a<=n*a:=gb _ (by omega);rw[j9,qq] at this;omega
  rw[u _ m,Nat.mul_comm,Nat.mul_add_mod,Nat.mod_eq_of_lt k];exact q
 .obtain⟨c,j,rfl⟩:=oo q;have v:c<n*a:=by omega
  have r:0<a:=m3 λp=>by rw[p] at v;omega
  have k:c%a<z.cells.length:=by rw[C];exact Nat.mod_lt _ r
  obtain⟨e,D,o,s⟩:=B _ _ (c4 k);have:=u c v;rw[D,c4 j] at this;injection this with this
  rw[this];exact o
def aog{a:Act}{b:World}:(execOp a.eval ⟨d,.call {callee:=.builtin .clear,args:=#[x],argTypes:=#[t]},ty,pos,aft,ea⟩).run P b=
 ((j1 #[t] ty #[a.eval x]).run P b).andThen λv c=>.ok (.value v) c:=by
 simp[execOp,resolve,invoke,builtin]
def ou{r:Nat}{b:aO}(c:H[r]?=c5 b):H.set r b=H:=by
 refine p6 λi=>?_
 by_cases a:i=r
 .subst a;rw[ev (e0.1 c).1,c]
 .rw[eH (Ne.symm a)]
def Wy{r v off len:Nat}{o:aO}{c:Value}{z:PV}(O:PE E x= .sl r v off len)(A:ek H r o)(M:o.aF=v)(D:dU P t=c5 o.ty)(Q:dV P o.ty=c5 c)(U:kP c=z)(I:z.cells.length=o.sz)(X:z.cells.all PV.one=true):
 fJ P ⟨d,.call {callee:=.builtin .clear,args:=#[x],argTypes:=#[t]},ty,pos,aft,ea⟩ E H λT H1=>T= .bu []/\H1=H.set r ⟨o.ty,o.sz,o.es.take off++hB len z++o.es.drop (off+len),o.aF⟩:=by
 intro g nt k w s ag ae K;have N:=lh (O▸s.e.eval x) A M;obtain⟨ac,u⟩:=id N;have B:H[r]?=c5 o:=A;have R:∃a e,(j1 #[t] ty #[k.eval x]).run P w= .ok (.tuple #[]) a/\GStep H.length g H w e (H.set r ⟨o.ty,o.sz,o.es.take off++hB len z++o.es.drop (off+len),o.aF⟩) a/\
  bF e (H.set r ⟨o.ty,o.sz,o.es.take off++hB len z++o.es.drop (off+len),o.aF⟩) a:=by
  have zero:len=0->(∃h cap,k.eval x= .slice h 0 cap)->∃a e,(j1 #[t] ty #[k.eval x]).run P w= .ok (.tuple #[]) a/\GStep H.length g H w e (H.set r ⟨o.ty,o.sz,o.es.take off++hB len z++o.es.drop (off+len),o.aF⟩) a/\
   bF e (H.set r ⟨o.ty,o.sz,o.es.take off++hB len z++o.es.drop (off+len),o.aF⟩) a:=by
   rintro rfl ⟨h,cap,f⟩;have j:(j1 #[t] ty #[k.eval x]).run P w= .ok (.tuple #[]) w:=by
    rw[f];cases h <;> simp[j1,run_underlying (gD D)]
   have L:(⟨o.ty,o.sz,o.es.take off++hB 0 z++o.es.drop (off+0),o.aF⟩:aO)=o:=by simp
   rw[L,ou B];exact⟨w,g,j,GStep.refl _ _ _ _,s.m⟩
  cases l:g.β r with
  |none=>
   rw[l] at u;obtain⟨_,h0,h,f⟩:=u;subst h0;exact zero rfl ⟨h,0,f⟩
  |some p=>
   obtain⟨b,aj⟩:=p;rw[l] at u;obtain⟨cap,h,f,ad,Z,_⟩:=u
   by_cases h0:len=0
   .subst h0;exact zero rfl ⟨h,cap,f⟩
   .rw[Z h0] at f;have S:=(s.m.obj r o A);have J:=S.mem;rw[l] at J;obtain⟨_,aK,F,aa,ai,al,af⟩:=J;obtain⟨C,W⟩:=al0 (g:=g) (H:=H) (w:=w) (n:=len) U I X;have ab:(ez c.cells len).toList.length=len*o.sz:=by rw[C.1,j7]
    have Y:off*o.sz+0+(ez c.cells len).toList.length<=aK.size:=by
     rw[aa,ab,hS, <-j9];exact gb _ (by omega)
    have G:=run_storeCells_at P b (off*o.sz) o.ty (ez c.cells len).toList 0 aK w F Y W;simp only[hS] at G;have j:(j1 #[t] ty #[k.eval x]).run P w= .ok (.tuple #[]) (w.setRow b (aK.toList.take (off*o.sz)++(ez c.cells len).toList++aK.toList.drop (off*o.sz+(ez c.cells len).toList.length)).toArray):=by
     rw[f];obtain⟨ak,rfl⟩:∃n,len=n+1:=⟨len -1,by omega⟩;simp[j1,run_underlying (gD D),Ey Q,G]
    obtain⟨q,m⟩:=s.m.put B l F C (λi ah V=>by have:=ej V;rw[k0 this];exact I) (off:=off) (by simpa using ac);rw[j7] at q m;exact⟨_,_,j,q,m⟩
 obtain⟨a,e,j,q,m⟩:=R;unfold r5;rw[aog,j];exact K (.tuple #[]) a e (.bu []) _ ⟨rfl,rfl⟩ (.aW (.bu [] [] rfl (by simp))) m q
def Yo{a:Act}{b:World}:(execOp a.eval ⟨d,.call {callee:=.builtin .copy,args:=#[x,y],argTypes:=#[t,t]},ty,pos,aft,ea⟩).run P b=
 ((k6 #[t,t] ty #[a.eval x,a.eval y]).run P b).andThen λv c=>.ok (.value v) c:=by
 simp[execOp,resolve,invoke,builtin]
def aem{g:Gh}{A:World}{a b:Nat}{e:List PV}{l:List Value}(j:gI g H A a e l)(v:∀(i:Nat) (h:PV),e[i]?=c5 h->h.cells.length=a)(z:b<=e.length):gI g H A a (e.take b) (l.take (b*a))/\∀f∈l.take (b*a),f.oneCell'=true:=by
 have w:b*a<=e.length*a:=gb _ z;refine⟨⟨by rw[hq,hq,j.1,o6 w,o6 z],λi r k c=>?_⟩,λf o=>?_⟩
 .have u:i<b:=by
   obtain⟨h,n,_⟩:=gw c;have:=(e0.1 n).1;simp at this;omega
  have q:abk e i r=c5 k:=by
   unfold abk at c⊢;rw[eo u] at c;exact c
  obtain⟨f,o,m,C⟩:=j.2 i r k q;obtain⟨h,n,K⟩:=gw q;have L:=v i h n;have:(i+1)*a<=b*a:=gb _ u;rw[j9,qq] at this;exact⟨f,by rw[eo (by omega)];exact o,m,C⟩
 .obtain⟨B,F,rfl⟩:=oo o;have s:B<b*a:=by simp at F;omega
  have J:0<a:=m3 λj=>by rw[j] at s;omega
  obtain⟨I,D,G⟩:=Jv J (Nat.lt_of_lt_of_le s w);obtain⟨k,c⟩:=Gg v I D;obtain⟨f,p,m,_⟩:=j.2 _ _ k c;rw[G] at p;rw[List.getElem_take];have:=(e0.1 p).2;rw[this];exact m
def US{r v off len:Nat}{o:aO}{p:PV}{a:List PV}(ab:PE E x= .sl r v off len)(D:ek H r o)(Y:o.aF=v)(aj:PE E y=p)(aC:lE H p o.sz a)(L:dU P t=c5 o.ty)(O:cH P o.ty=c5 o.sz):
 fJ P ⟨d,.call {callee:=.builtin .copy,args:=#[x,y],argTypes:=#[t,t]},ty,pos,aft,ea⟩ E H λaf H1=>af= .int .i64 ((min len a.length:Nat):Int)/\H1=H.set r ⟨o.ty,o.sz,o.es.take off++a.take len++o.es.drop (off+(a.take len).length),o.aF⟩:=by
 intro g nt k e n aJ aH W;have aa:=lh (ab▸n.e.eval x) D Y;obtain⟨aN,u⟩:=id aa;have K:=n.m.obj r o D;have aB:=K.pos;have w:H[r]?=c5 o:=D;obtain⟨Q,aq,aG,M,Z⟩:=aC.real n.m (aj▸n.e.eval y) aB;have ac:∃f j,(k6 #[t,t] ty #[k.eval x,k.eval y]).run P e= .ok (goInt ((min len a.length:Nat):Int)) f/\GStep H.length g H e j (H.set r ⟨o.ty,o.sz,o.es.take off++a.take len++o.es.drop (off+(a.take len).length),o.aF⟩) f/\
  bF j (H.set r ⟨o.ty,o.sz,o.es.take off++a.take len++o.es.drop (off+(a.take len).length),o.aF⟩) f:=by
  have ax:Nat.min a.length len=min len a.length:=rb _ _;have zero:min len a.length=0->(∃m cap,k.eval x= .slice m len cap)->∃f j,(k6 #[t,t] ty #[k.eval x,k.eval y]).run P e= .ok (goInt ((min len a.length:Nat):Int)) f/\GStep H.length g H e j (H.set r ⟨o.ty,o.sz,o.es.take off++a.take len++o.es.drop (off+(a.take len).length),o.aF⟩) f/\
   bF j (H.set r ⟨o.ty,o.sz,o.es.take off++a.take len++o.es.drop (off+(a.take len).length),o.aF⟩) f:=by
   rintro h0 ⟨m,cap,l⟩;have al:a.take len=[]:=dT (by rw[hq];exact h0);have I:(⟨o.ty,o.sz,o.es.take off++a.take len++o.es.drop (off+(a.take len).length),o.aF⟩:aO)=o:=by rw[al];simp
   refine⟨e,g,?_,by rw[I,ou w];exact GStep.refl _ _ _ _,by rw[I,ou w];exact n.m⟩
   rw[h0];rw[l,M];cases m <;> cases aq <;> simp[k6,run_underlying (gD L),r4,run_sizeOf O,ax,h0,p0,loadCells,loadCellsFrom,storeCells]
  cases s:g.β r with
  |none=>
   rw[s] at u;obtain⟨_,h0,m,l⟩:=u;subst h0;exact zero (by simp) ⟨m,0,l⟩
  |some q=>
   obtain⟨b,aM⟩:=q;rw[s] at u;obtain⟨cap,m,l,aE,ar,_⟩:=u
   by_cases h0:min len a.length=0
   .exact zero h0 ⟨m,cap,l⟩
   .have ah:len≠0:=by omega
    have az:a≠[]:=λav=>by rw[av] at h0;simp at h0
    rw[ar ah] at l;obtain⟨G,h,rfl,ao,ak⟩:=Z.resolve_left az;have V:=K.mem;rw[s] at V;obtain⟨_,aK,U,au,aL,aF,aI⟩:=V;have ad:a.take len=a.take (min len a.length):=by
     rw[List.take_eq_take_iff];omega
    rw[ad];generalize am:min len a.length=c at*;have aD:c<=len:=by omega
    have R:c<=a.length:=by omega
    obtain⟨J,an⟩:=aem ao Q R;have S:(h.take (c*o.sz)).length=c*o.sz:=by rw[J.1,hq,o6 R]
    have ap:off*o.sz+0+(h.take (c*o.sz)).length<=aK.size:=by
     rw[au,S,hS, <-j9];exact gb _ (by omega)
    have T:=run_storeCells_at P b (off*o.sz) o.ty (h.take (c*o.sz)) 0 aK e U ap an;simp only[hS] at T;have aA:(loadCells G (c*o.sz)).run P e= .ok (h.take (c*o.sz)).toArray e:=by
     have:=run_loadCells_list (P:=P) e G (h.take (c*o.sz)) λN ae F=>ak N ae (by
      have X:N<c*o.sz:=by have:=(e0.1 F).1;omega
      rw[eo X] at F;exact F)
     rw[S] at this;exact this
    have A:(k6 #[t,t] ty #[k.eval x,k.eval y]).run P e= .ok (goInt c) (e.setRow b (aK.toList.take (off*o.sz)++h.take (c*o.sz)++aK.toList.drop (off*o.sz+(h.take (c*o.sz)).length)).toArray):=by
     rw[l,M];have aw:Nat.min a.length len=c:=by rw[<-am];exact rb _ _
     simp[k6,run_underlying (gD L),r4,run_sizeOf O,aw,p0,aA,T]
    have ag:(a.take c).length=c:=by rw[hq];omega
    obtain⟨B,z⟩:=n.m.put w s U J (λi ai C=>by
     have ay:i<c:=by have:=(e0.1 C).1;omega
     rw[eo ay] at C;exact Q i ai C) (off:=off) (by rw[ag];omega)
    exact⟨_,_,A,B,z⟩
 obtain⟨f,j,A,B,z⟩:=ac;unfold r5;rw[Yo,A];exact W (goInt ((min len a.length:Nat):Int)) f j (.int .i64 ((min len a.length:Nat):Int)) _ ⟨rfl,rfl⟩ (.aW (VI.int .i64 _)) z B
def apT{z:Op}{r v len:Nat}{o:aO}(f:cM P ⟨d,z,ty,pos,aft,ea⟩ E H (.sl r v 0 len))(q:ek H r o)(F:o.aF=v):
 fJ P ⟨d,z,ty,pos,aft,ea⟩ E H λJ H1=>J= .fl r (v+1)/\H1=H.set r ⟨o.ty,o.sz,o.es.take len,v+1⟩:=by
 intro g nt V n s Z Y C;obtain⟨x,L,U⟩:=f g nt V n s;have G:=lh U q F;obtain⟨aa,j⟩:=id G;have k:=s.m.obj r o q;have w:H[r]?=c5 o:=q;have K:(o.es.take len).length=len:=by simp;omega
 obtain⟨Q,M⟩:=s.m.set (r:=r) (o:=o) (o':=⟨o.ty,o.sz,o.es.take len,v+1⟩) (w':=n) (p:=g.β r) w rfl rfl rfl (ef _) (λ_ _ _=>rfl) (by simp;omega) (λf=>by simp at f;omega) (λb m f=>.inl ⟨m,f⟩) k.pos
  (λi A a=>by
   have l:i<len:=by have:=(e0.1 a).1;simp at this;omega
   simp only at a;rw[eo l] at a;exact k.width i A a)
  (by
   have h:=k.mem;cases c:g.β r with
   |none=>
    rw[c] at h;show o.es.take len=[]
    rw[show o.es=[] from h];simp
   |some p=>
    obtain⟨b,m⟩:=p;rw[c] at h;obtain⟨_,cells,I,W,R,ab,N⟩:=h;refine⟨cells,I,W,R,by simp;omega,λi O S e=>N i O S ?_⟩
    obtain⟨A,a,_⟩:=gw e;have l:i<len:=by have:=(e0.1 a).1;simp at this;omega
    unfold abk at e⊢;simp only at e;rw[eo l] at e;exact e)
 unfold r5;rw[L];have B:x.oneCell'=true/\SL (g.push r (g.β r)) ⟨o.ty,o.sz,o.es.take len,v+1⟩ r 0 (o.es.take len).length x:=by
  unfold SL;rw[Gh.kg,K];cases c:g.β r with
  |none=>
   rw[c] at j;obtain⟨_,h0,u,a⟩:=j;exact⟨by rw[a];rfl,by simp,rfl,h0,u,a⟩
  |some p=>
   obtain⟨b,m⟩:=p;rw[c] at j;obtain⟨cap,u,a,D,T,X⟩:=j;exact⟨by rw[a];rfl,by simp,cap,u,a,D,T,X⟩
 exact C x n _ (.fl r (v+1)) _ ⟨rfl,rfl⟩ (.fl r (v+1) _ x (ev (e0.1 w).1) (ef _) B.1 λ_=>B.2) M Q
end
end Go.Bml
namespace Go.X
open Go Go.Aml Go.Bml
section
variable {P:Program}{B:Tb}{R:Type}{r:R}
def D0(c:TV B.D)(q v b a d:Nat):Prop:=(c= .fl q v/\b=0/\a=d)\/c= .sl q v b a
def MJ{j:List (Ob B.D)}{k:TV B.D}{i:Nat->Nat->Nat->Nat->(b:Nat)->List (B.D b)->Option R}(a:B4 B j k i=c5 r):
 ∃q v f e b c d,nth j q=c5 ⟨d,v,.aap b c⟩/\D0 (B:=B) k q v f e c.length/\i q v f e b c=c5 r:=by
 unfold B4 at a
 split at a
 .rename_i q v
  split at a
  .rename_i b c g;obtain⟨d,h⟩:=fx g;exact⟨q,v,0,_,b,c,d,h,.inl ⟨rfl,rfl,rfl⟩,a⟩
  .cases a
 .rename_i q v f e
  split at a
  .rename_i b c g;obtain⟨d,h⟩:=fx g;exact⟨q,v,f,e,b,c,d,h,.inr rfl,a⟩
  .cases a
 .cases a
def Lj{a:Option Nat}{b:Nat}(c:KK a b=true):a=c5 b:=by
 cases a with
 |none=>cases c
 |some d=>rw[beq_eq c]
def MH{n:Oper}{b:Env}{a:List aO}{h:Operand}{q j e:Nat}{ob:aO}{o:PV->List aO->Prop}(s:(PE b h= .fl q ob.aF/\j=0/\e=ob.es.length)\/PE b h= .sl q ob.aF j e)(m:ek a q ob)
 (c:∀g,PE g h= .sl q ob.aF j e->(∀f k d,kV a (PE b f) k d->kV a (PE g f) k d)->fJ P n g a o):fJ P n b a o:=by
 rcases s with⟨i,rfl,rfl⟩ |i
 .obtain⟨t,rfl,l⟩:=ri i;refine yP l m rfl (c _ ?_ λf k d p=>JM p l m)
  exact ni _ _ _
 .exact c b i λ_ _ _ c=>c
def Ln{c:En B.D}{d:Operand}{g:TV B.D}{q v e b f:Nat}{a:aO}(m:D0 (B:=B) g q v e b f)(h:PE (aU B c) d=pv B g)(k:a.aF=v)(l:a.es.length=f):
 (PE (aU B c) d= .fl q a.aF/\e=0/\b=a.es.length)\/PE (aU B c) d= .sl q a.aF e b:=by
 subst k;subst l;rcases m with⟨rfl,j,i⟩ |rfl
 .exact .inl ⟨h,j,i⟩
 .exact .inr h
def aiS(K:cU P B){t a q v off c g:Nat}{x y:Operand}{E:En B.D}{H:List (Ob B.D)}{b f:List (B.D a)}{n:List Nat}(w:D0 (B:=B) (pe E x) q v off c b.length)(j:nth H q=c5 ⟨g,v,.aap a b⟩)(u:yd B H (pe E y) a f n)
 (s:dU P t=c5 a) (I:cH P a=c5 (B.sz a)):
 gY P (.call {callee:=.builtin .copy,args:=#[x,y],argTypes:=#[t,t]}) E H ⟨.int .i64 ((min c f.length:Nat):Int),[(q,⟨dJ H q,v,.aap a (mg f off c b)⟩)],0,q::n⟩:=by
 have m:x∈(s3 {callee:=.builtin .copy,args:=#[x,y],argTypes:=#[t,t]}).operands/\y∈(s3 {callee:=.builtin .copy,args:=#[x,y],argTypes:=#[t,t]}).operands:=by simp[ma,oS]
 intro d ty pos aft p h e;have l:=df (e.lN (.inl (by simp)) j);have k:kV (av B h) (PE (aU B p) y) (B.sz a) (f.map (B.ty a).enc):=by rw[e.pe m.2];exact u h λi o z j=>e.lN (.inl (by simp[z])) j
 refine MH (ob:=aY B ⟨g,v,.aap a b⟩) (Ln w (e.pe m.1) rfl (by simp[aY])) l λJ C A=>?_
 refine uL (x:=y) (A _ _ _ k) λF k D=>?_
 have G:=US (P:=P) (E:=F) (H:=av B h) (d:=d) (ty:=ty) (pos:=pos) (aft:=aft) (x:=x) (y:=y) (r:=q) (v:=v) (off:=off) (len:=c) (t:=t) (o:=aY B ⟨g,v,.aap a b⟩) (D x _ C (by simp)) l rfl rfl k s I;refine lI G ?_
 rintro v L ⟨rfl,rfl⟩;refine⟨by simp[pv],?_⟩
 rw[mc];simp[aY,mg,mb,oq]
def Uj(m:cU P B){t a q v off g h:Nat}{x:Operand}{E:En B.D}{H:List (Ob B.D)}{e:List (B.D a)}{z:Value}{j:B.D a}(G:D0 (B:=B) (pe E x) q v off g e.length)(K:nth H q=c5 ⟨h,v,.aap a e⟩)
 (F:dU P t=c5 a) (u:dV P a=c5 z) (J:jj (dN (cv (D:=B.D) z))=true) (O:B.up a (cv z)=c5 j):
 gY P (.call {callee:=.builtin .clear,args:=#[x],argTypes:=#[t]}) E H ⟨.bu [],[(q,⟨dJ H q,v,.aap a (iG j off g e)⟩)],0,[q]⟩:=by
 have Q:x∈(s3 {callee:=.builtin .clear,args:=#[x],argTypes:=#[t]}).operands:=by simp[ma,oS]
 obtain⟨U,n⟩:=m.up a _ j O;have I:(pv B (cv z)).cells.length=B.sz a:=by rw[n.cells.1,m.wid]
 intro d ty pos aft T w p;have k:=df (p.lN (.inl (by simp)) K);refine MH (ob:=aY B ⟨h,v,.aap a e⟩) (Ln G (p.pe Q) rfl (by simp[aY])) k λy A _=>?_
 have M:=Wy (P:=P) (E:=y) (H:=av B w) (d:=d) (ty:=ty) (pos:=pos) (aft:=aft) (x:=x) (r:=q) (v:=v) (off:=off) (len:=g) (t:=t) (o:=aY B ⟨h,v,.aap a e⟩) A k rfl F u (DK B z).symm I (by rw[l5];exact oK J);have s:jB ⟨a,B.sz a,((aY B ⟨h,v,.aap a e⟩).es.take off++hB g (pv B (cv z))++(aY B ⟨h,v,.aap a e⟩).es.drop (off+g)),v⟩ ⟨a,B.sz a,(iG j off g e).map (B.ty a).enc,v⟩:=by
  refine jB.of (by simp[aY,iG]) (λi W b f c=>?_) λi V L=>?_
  .simp only[aY,iG,o4,mb,oq,List.map_replicate, <-dv] at f c
   by_cases l:i<(List.take off (List.map (B.ty a).enc e)++hB g (pv B (cv z))).length
   .rw[dt l] at f;rw[dt (by simpa using l)] at c
    by_cases C:i<(List.take off (List.map (B.ty a).enc e)).length
    .rw[dt C] at f c;rw[f] at c;injection c with c
     subst c;exact .refl _
    .rw[dk (by omega)] at f c;rw[k0 (ej f),k0 (ej c)];exact n
   .rw[dk (by omega)] at f;rw[dk (by simpa using l)] at c;simp only[e5,j7] at f c;rw[f] at c;injection c with c
    subst c;exact .refl _
  .obtain⟨N,_,rfl⟩:=ey.1 (ej L);exact m.wid a N
 refine lI (tu M (c9 k) s (.refl _)) ?_
 rintro S X ⟨rfl,rfl⟩;refine⟨rfl,?_⟩
 rw[mc]
 rfl
def ao6{t:TypeId}{x:Operand}{hi:Option Operand}{E:En B.D}{H:List (Ob B.D)}{c:cr B.D->Option R}(h:shrink B P E H t (pe E x) hi c=c5 r):
 ∃k,c k=c5 r/\iZ H k/\gY P (.slice t x ea hi ea) E H k:=by
 unfold shrink at h
 split at h
 .rename_i q v F
  split at h
  .rename_i e i G;obtain⟨S,y⟩:=fx G;obtain⟨s,Q⟩:=a8 h;obtain⟨b,C,D⟩:=fq Q;obtain⟨W,j,O⟩:=ei.1 D;obtain⟨_,V,U,rfl⟩:=Kt j;refine⟨_,O,pz y,λd ty pos aft f J u=>?_⟩
   have A:∀z,z∈(Op.slice t x ea hi ea).operands->PE (aU B f) z=pv B (pe E z):=λz I=>u.pe I
   have m:=df (u.lN (.inl (by simp)) y);have ops:∀a,hi=c5 a->∀c e,pe E a= .int c e->PE (aU B f) a= .int c e:=λa j c e n=>by
    rw[A a (by subst j;simp[ma]),n];rfl
   obtain⟨g,rfl,p⟩:=ri (show PE (aU B f) x= .fl q v by rw[A x (by simp[ma]),F];rfl);refine yP p m rfl ?_
   have K:PE ((g,PV.sl q v 0 i.length)::aU B f) (.tmp g)= .sl q v 0 i.length:=ni _ _ _;have L:∀a,hi=c5 a->∀c e,pe E a= .int c e->PE ((g,PV.sl q v 0 i.length)::aU B f) a= .int c e:=λa j c e n=>by
    have o:=ops a j c e n
    by_cases w:a= .tmp g
    .subst w;rw[show PE (aU B f) (.tmp g)= .fl q v from p] at o;cases o
    .rw[wD a w];exact o
   have:=SC (P:=P) (E:=(g,PV.sl q v 0 i.length)::aU B f) (H:=av B J) (d:=d) (ty:=ty) (pos:=pos) (aft:=aft) (gd:=ea) (t:=t) (x:=.tmp g) (lo:=ea) (hi:=hi) (l:=0) (h:=b.toNat) K m rfl (mh s).1 (mh s).2 rfl (wk (by simpa[aY] using C) (by omega) L) (by omega) (by simp[aY];omega);rw[e6,s5] at this;have M:=apT this m rfl;have N:(aY B ⟨S,v,.aap e i⟩).es.length=i.length:=by simp[aY]
   rw[N];refine lI M ?_
   rintro T X ⟨rfl,rfl⟩;refine⟨rfl,?_⟩
   rw[mc];simp[aY,mb]
  .cases h
 .cases h
end
section
variable {P:Program}{B:Tb}{R:Type}{r:R}
def iW{f:Op}{d:En B.D}{a:List (Ob B.D)}{e:List Nat}{v:TV B.D}{c:cr B.D->Option R}(g:c ⟨v,[],0,e⟩=c5 r)(h:fW P f d a e v):∃b,c b=c5 r/\iZ a b/\gY P f d a b:=
 ⟨_,g,S6,h.sound⟩
def anX{g:Op}{f:En B.D}{a:List (Ob B.D)}{e:cr B.D->Option R}(d:∃v c,e ⟨v,[],0,c⟩=c5 r/\fW P g f a c v):∃b,e b=c5 r/\iZ a b/\gY P g f a b:=by
 obtain⟨v,c,h,d⟩:=d;exact iW h d
def ML{f:En B.D}{d:List Operand}{e:TV B.D}(a:fB f d=[e]):∃c,d=[c]/\pe f c=e:=by
 match d,a with
 |[c],a=>exact⟨c,rfl,by simpa[fB] using a⟩
 |[],a=>cases a
 |c::b::d,a=>simp[fB] at a
def GZ{e:En B.D}{d:List Operand}{g f:TV B.D}(a:fB e d=[g,f]):∃c b,d=[c,b]/\pe e c=g/\pe e b=f:=by
 match d,a with
 |[c,b],a=>exact⟨c,b,rfl,by simpa[fB] using a⟩
 |[],a=>cases a
 |[c],a=>simp[fB] at a
 |c::b::h::d,a=>simp[fB] at a
def oy{a:Type}{b:Array a}{c:List a}(d:b.toList=c):b=c.toArray:=by
 rw[<-d,hU]
def OQ{f:Type}:∀(c e:List f) {d:f},d∈nf c e->d∈c\/d∈e
 |[],_,_,a=>.inr a
 |b::c,e,d,a=>by
  rcases OQ c (b::e) a with a |a
  .exact .inl (c7 _ a)
  .rcases dd.1 a with rfl |a
   .exact .inl j3
   .exact .inr a
def MI(M:cU P B){G:List (aq B)}(p:∀h,h∈G->Fits P B h){l:Nat}{cs ds:List (TV B.D)}{fo:Operand}{args:Array Operand}{ci:Array TypeId}{E:En B.D}{H:List (Ob B.D)}{m:cr B.D->Option R}
 (z:pv B (pe E fo)= .fn l (aP B cs) (aP B ds)) (L:nz B l ⟨fi 0 (aX cs (aX (fB E args.toList) ds)),H⟩ m G=c5 r):
 ∃b,m b=c5 r/\iZ H b/\gY P (.call {callee:=.value fo,args:=args,argTypes:=ci}) E H b:=by
 obtain⟨b,D,O,h,u,t,x⟩:=Z3 M p L;refine⟨b,D,O,λd ty pos aft n j k=>?_⟩
 have q:∀a,a=fo\/a∈args->a∈(s3 {callee:=.value fo,args:=args,argTypes:=ci}).operands:=λa c=>by
  simp only[ma,oS];rcases c with rfl |c
  .simp
  .simp[c]
 have e:=WB (P:=P) (E:=aU B n) (H:=av B j) (d:=d) (ty:=ty) (pos:=pos) (aft:=aft) (fo:=fo) (as:=args.toList) (ci:=ci) (f:=l) (cs:=aP B cs) (ds:=aP B ds) (K:=λv K=>v=pv B b.val/\K=av B (b8 j b.wr))
  (by rw[k.pe (q fo (.inl rfl)),z]) (by rw[<-t];exact(p h u).Q6) (λg w I N s=>by
   have o:aP B cs++args.toList.map (PE (aU B n))++aP B ds=aP B (aX cs (aX (fB E args.toList) ds)):=by
    rw[<-DE (E:=E) λa c=>k.pe (q a (.inr (hX.1 c)))];simp[bK,db]
   rw[o] at s;refine(x j (λi A=>k.h i A) g w I N s).mono ?_
   rintro o S ⟨a,y,v,K,J,Q,F,e,C⟩;exact⟨a,y,v,K,J,Q,F,e,C⟩)
 rw[hU] at e;exact e
def aaE(n:cU P B){G:List (aq B)}(ad:∀d,d∈G->Fits P B d){Y:Bool}{w:En B.D}{H:List (Ob B.D)}{S:Op}{aa:cr B.D->Option R}(a:step B P G Y w H S aa=c5 r):
 ∃ai,aa ai=c5 r/\iZ H ai/\gY P S w H ai:=by
 cases S with
 |move e=>exact iW a anB
 |assign e=>exact iW a aqt
 |pick d h b=>
  simp only[step] at a
  split at a
  .rename_i b j;exact iW a (akp j)
  .cases a
 |binOp S t e C yt=>
  simp only[step] at a;obtain⟨v,g,m⟩:=afA (H:=H) (yt:=yt) a;exact iW g m
 |unOp S t e=>
  simp only[step] at a;obtain⟨v,g,m⟩:=amY (P:=P) (t:=t) (H:=H) a;exact iW g m
 |convert aQ aM e=>
  simp only[step] at a
  split at a
  .rename_i b D h c aB;obtain⟨m,g⟩:=a8 a;exact iW g (aip c aB m)
  .cases a
 |extract e i=>
  simp only[step] at a
  split at a
  .rename_i cs c;obtain⟨v,K,g⟩:=fq a;exact iW g (ahW c K)
  .cases a
 |nilCheck e=>
  simp only[step] at a
  split at a
  .rename_i q v i L c;exact iW a (Gw (.inl ⟨q,v,i,L,rfl⟩) c)
  .rename_i cs L c;exact iW a (Gw (.inr (.inl ⟨cs,L,rfl⟩)) c)
  .rename_i f cs ds c;exact iW a (Gw (.inr (.inr ⟨f,cs,ds,rfl⟩)) c)
  .cases a
 |field t e f=>
  simp only[step] at a
  split at a
  .rename_i cs aH ak c y;obtain⟨v,K,g⟩:=fq a;exact iW g (aex c y K)
  .cases a
 |fieldAddr t e f=>
  simp only[step] at a
  split at a
  .rename_i aH ak y
   split at a
   .rename_i p m
    split at a
    .rename_i q v i L c;exact iW a (R3 y m (.inl ⟨q,v,i,L,c,rfl⟩))
    .rename_i cs L c;exact iW a (R3 y m (.inr ⟨cs,L,c,rfl⟩))
    .cases a
   .cases a
  .cases a
 |indexAddr t e i=>exact anX (amg n a)
 |index t e i=>exact anX (ame a)
 |load t e=>exact anX (PD n a)
 |store t e C=>exact amr n a
 |slice t e V ac am=>
  cases am with
  |none=>
   simp only[step] at a;cases Y with
   |false=>exact anX (aqA a)
   |true=>
    cases V with
    |none=>exact ao6 a
    |some V=>cases a
  |some am=>
   cases V with
   |some V=>cases ac <;> simp[step] at a
   |none=>
    cases ac with
    |none=>simp[step] at a
    |some ac=>exact anX (VT n a)
 |box t e=>
  simp only[step] at a;obtain⟨o,a⟩:=a8 a;obtain⟨k,g⟩:=a8 a;exact⟨_,g,xO,W5 o k⟩
 |alloc t=>
  simp only[step] at a
  split at a
  .rename_i z s;obtain⟨o,a⟩:=a8 a;obtain⟨k,g⟩:=a8 a;exact⟨_,g,xO,ac4 s o k⟩
  .cases a
 |build t ar=>
  simp only[step] at a
  split at a
  .rename_i z aJ s ax;obtain⟨o,a⟩:=a8 a;obtain⟨A,F,a⟩:=fq a;obtain⟨cs,y,g⟩:=fq a;exact iW g (agn s ax o F y)
  .cases a
 |buildSlice t A ar=>
  simp only[step] at a
  split at a
  .rename_i p u;obtain⟨k,a⟩:=a8 a;obtain⟨J,a⟩:=a8 a;obtain⟨X,a⟩:=a8 a
   split at a
   .rename_i Z c;obtain⟨o,a⟩:=a8 a;exact(aaJ n u c o k J X).sound a
   .exact aco n a u k J X
  .cases a
 |makeSlice t A d=>
  simp only[step] at a;obtain⟨au,a⟩:=a8 a
  split at a
  .rename_i p aR D u F
   split at a
   .rename_i z aE s N;obtain⟨o,a⟩:=a8 a;obtain⟨k,a⟩:=a8 a;obtain⟨aI,al,a⟩:=fq a;obtain⟨Z,c,a⟩:=ei.1 a;exact(aoF n au F u s N o k al c).sound a
   .cases a
  .cases a
 |makeFunc fn h d=>
  cases fn with
  |func f=>exact iW a W8
  |_=>simp[step] at a
 |call d=>
  obtain⟨callee,args,W⟩:=d;cases callee with
  |value f=>
   simp only[step] at a
   split at a
   .rename_i ab cs ds y;refine MI n (G:=bif Y then nf G [] else G) (λd j=>ad d ?_) (by rw[y];rfl) a
    cases Y with
    |false=>exact j
    |true=>exact(OQ G [] j).resolve_right q8
   .rename_i aO y;obtain⟨ab,rfl,a⟩:=ei.1 a;have av:∀A,sV B ab ⟨fi 0 (fB w args.toList),H⟩ aa A=c5 r->(∀d,d∈A->Fits P B d)->∃d,d∈A/\nz B ab ⟨fi 0 (fB w args.toList),H⟩ aa [d]=c5 r:=λA=>by
     induction A with
     |nil=>intro a;simp[sV] at a
     |cons h A an=>
      intro a F;simp only[sV] at a;cases h0:(bif fe (len (fi 0 (fB w args.toList))) h.na then(leaves h.par ⟨fi 0 (fB w args.toList),H⟩ (nQ ⟨fi 0 (fB w args.toList),H⟩ h.par.dF)).isSome else false) with
      |false=>
       rw[h0] at a;obtain⟨d,j,k⟩:=an a λd j=>F d (c7 _ j)
       exact⟨d,c7 _ j,k⟩
      |true=>
      rw[h0] at a;simp only[cond_true] at a;cases ae:fe ab h.cO with
      |true=>
       rw[ae] at a;exact⟨h,by simp,by rw[beq_eq ae];exact a⟩
      |false=>
       rw[ae] at a;obtain⟨d,j,k⟩:=an a λd j=>F d (c7 _ j)
       exact⟨d,c7 _ j,k⟩
    obtain⟨d,j,k⟩:=av G a ad;refine MI n (G:=[d]) (cs:=[]) (ds:=[]) (λaL aG=>by rw[List.mem_singleton.1 aG];exact ad d j) (by rw[y];rfl) ?_
    rw[aX,bK,ft];exact k
   .cases a
  |invoke _ _=>simp[step] at a
  |builtin b=>
   cases b <;> simp only[step] at a <;> first |(cases a;done) |skip
   case len=>
    split at a
    .rename_i e t c u
     split at a
     .rename_i p M;obtain⟨h,l,aj⟩:=ML c;have l:args=#[h]:=oy l;subst l;have j:W=#[t]:=oy u;subst j;subst aj;exact anX (Vw n M a)
     .cases a
    .cases a
   case min=>
    obtain⟨v,K,g⟩:=fq a;obtain⟨e,C,h,b,D,p,ag,c,Q,T,rfl⟩:=Nx K;exact iW g (adE rfl ag c Q T)
   case max=>
    obtain⟨v,K,g⟩:=fq a;obtain⟨e,C,h,b,D,p,ag,c,Q,T,rfl⟩:=Nx K;exact iW g (alY rfl ag c Q T)
   case append=>
    split at a
    .rename_i aP e t aw c u;obtain⟨af,x⟩:=a8 a;clear a;obtain rfl:=beq_eq af
     split at x
     .rename_i p M
      split at x
      .rename_i aE N;obtain⟨O,x⟩:=a8 x;obtain⟨h,b,l,E,U⟩:=GZ c;have l:args=#[h,b]:=oy l;subst l;have j:W=#[t,t]:=oy u;subst j;subst U;cases ap:SG B H (pe w b) with
       |true=>
        rw[ap,cond_true, <-E] at x;exact agG n x M N O
       |false=>
       rw[ap,cond_false] at x;obtain⟨aA,aC,a,m⟩:=Rz x
       split at a
       .obtain⟨ao,s,a⟩:=ei.1 a;exact(MY n (.inl E) m M N O s).sound a
       .obtain⟨ao,s,a⟩:=ei.1 a;exact(MY n (.inr E) m M N O s).sound a
       .rename_i q v
        split at a
        .rename_i D Z j;obtain⟨aK,I⟩:=fx j;obtain⟨aN,az,a⟩:=fq a;obtain⟨rfl,rfl⟩:=AG az;obtain⟨ao,s,g⟩:=ei.1 a;exact⟨_,g,pz I,YX n E I m M N O s⟩
        .cases a
       .cases a
      .cases x
     .cases x
    .cases a
   case clear=>
    split at a
    .rename_i e t c u;obtain⟨q,v,ak,aF,p,Z,aD,I,m,o⟩:=MJ a;obtain⟨ah,k⟩:=a8 o;obtain⟨_,J⟩:=a8 k
     split at J
     .rename_i z s;obtain⟨F,X⟩:=a8 J;obtain⟨aI,al,g⟩:=fq X;obtain⟨h,l,aj⟩:=ML c;have l:args=#[h]:=oy l;subst l;have j:W=#[t]:=oy u;subst j;subst aj;exact⟨_,g,pz I,Uj n m I (Lj ah) s F al⟩
     .cases J
    .cases a
   case copy=>
    split at a
    .rename_i e C t aw c u;obtain⟨af,h0⟩:=a8 a;obtain rfl:=beq_eq af;obtain⟨q,v,ak,aF,p,Z,aD,I,m,o⟩:=MJ h0;obtain⟨ah,k⟩:=a8 o;obtain⟨O,J⟩:=a8 k;obtain⟨aA,aC,g,Q⟩:=Rz J;obtain⟨ay,_⟩:=qY O;obtain⟨h,b,l,E,U⟩:=GZ c;have l:args=#[h,b]:=oy l;subst l;have j:W=#[t,t]:=oy u;subst j;subst E;subst U;exact⟨_,g,pz I,aiS n m I Q (Lj ah) ay⟩
    .cases a
 |_=>simp[step] at a
where
 Nx {f:Int->Int->Int} {args:Array Operand} {w:En B.D} {v:TV B.D} (a:Dm B f (fB w args.toList)=c5 v):∃e C h b D p,args=#[e,C]/\pe w e= .int h D/\pe w C= .int b p/\fV h b=true/\v= .int h (f D p):=by
  unfold Dm at a
  split at a
  .rename_i h D b p c;obtain⟨T,a⟩:=a8 a;injection a with a
   obtain⟨e,C,l,E,U⟩:=GZ c;exact⟨e,C,h,b,D,p,oy l,E,U,T,a.symm⟩
  .cases a
end
section
variable {P:Program}{B:Tb}{R:Type}{r:R}
def H8{a:Type}{b:List a}{i:Nat}{d:a}(c:nth b i=c5 d):i<b.length:=by
 rw[cJ] at c;exact c9 c
def SE{f:Type}:∀{ch:List (Nat×f)} {b d:List f} {i:Nat},nth b i=nth d i->nth (b8 b ch) i=nth (b8 d ch) i
 |[],_,_,_,a=>a
 |p::ch,b,d,i,a=>by
  refine SE (ch:=ch) ?_
  rw[iL,iL,cJ,cJ];rw[cJ,cJ] at a
  by_cases e:p.1=i
  .subst e;cases c:b[p.1]? with
   |none=>
    rw[c] at a;rw[ga (by rw[h6];exact m4.1 c),ga (by rw[h6];exact m4.1 a.symm)]
   |some g=>
    rw[c] at a;rw[ev (c9 c),ev (c9 a.symm)]
  .rw[eH e,eH e];exact a
def Mu{d:Type}:∀{c b:List (Nat×d)} {a:List d},b8 a (aX c b)=b8 (b8 a c) b
 |[],_,_=>rfl
 |p::c,b,a=>by simp only[aX,b8];exact Mu
def Rn{f:Nat->Type}{b c:List (Ob f)}:∀{a:List Nat},(∀i,i∈a->nth b i=nth c i)->gU b a=gU c a
 |[],_=>rfl
 |q::a,d=>by
  simp only[gU];rw[d q (by simp),Rn λi e=>d i (by simp[e])]
def FG{m:Nat->Type}{X:List (Ob m)}:∀{fr:List Nat} {Z:List (Ob m)},Z.length=X.length->(∀i,i∈fr->nth Z i=nth X i\/∃c,nth X i=c5 c/\nth Z i=c5 ⟨c.st+1,c.aF+1,.dead⟩)->
 (∀i,i∈fr->∀c,nth X i=c5 c->nth (b8 Z (gU X fr)) i=c5 ⟨c.st+1,c.aF+1,.dead⟩)/\(∀i,i∉fr->nth (b8 Z (gU X fr)) i=nth Z i)
 |[],Z,_,_=>⟨λi a=>(q8 a).elim,λi _=>rfl⟩
 |q::fr,Z,h,n=>by
  simp only[gU];cases f:nth X q with
  |none=>
   obtain⟨l,g⟩:=FG (X:=X) (fr:=fr) (Z:=Z) h λi a=>n i (by simp[a])
   refine⟨λi a c d=>?_,λi a=>g i λb=>a (by simp[b])⟩
   rcases dd.1 a with rfl |a
   .rw[f] at d;cases d
   .exact l i a c d
  |some e=>
   have p:q<Z.length:=by rw[h];exact H8 f
   have k:∀i,nth (me Z q ⟨e.st+1,e.aF+1,.dead⟩) i=if q=i then c5 ⟨e.st+1,e.aF+1,.dead⟩ else nth Z i:=λi=>by
    rw[iL,cJ,cJ]
    by_cases b:q=i
    .subst b;rw[if_pos rfl,ev p]
    .rw[if_neg b,eH b]
   obtain⟨l,g⟩:=FG (X:=X) (fr:=fr) (Z:=me Z q ⟨e.st+1,e.aF+1,.dead⟩) (by rw[iL,h6,h]) λi a=>by
    rw[k]
    by_cases b:q=i
    .subst b;exact .inr ⟨e,f,by rw[if_pos rfl]⟩
    .rw[if_neg b];exact n i (by simp[a])
   refine⟨λi a c d=>?_,λi a=>?_⟩
   .by_cases j:i∈fr
    .exact l i j c d
    .rcases dd.1 a with rfl |a
     .rw[b8,g i j,k,if_pos rfl];rw[f] at d;injection d with d
      rw[d]
     .exact absurd a j
   .have o:q≠i:=λb=>a (by simp[b])
    rw[b8,g i λb=>a (by simp[b]),k,if_neg o]
def lX(b:List Nat)(a:Nat)(q:Nat):Option Nat:=bif has b q then ea else bif j8 q a then c5 q else ea
def u7{b:List Nat}{d q i:Nat}(a:lX b d q=c5 i):i=q/\q∉b/\q<d:=by
 unfold lX at a;cases e:has b q with
 |true=>rw[e] at a;cases a
 |false=>
  rw[e] at a;simp only[cond_false] at a;cases c:j8 q d with
  |false=>rw[c] at a;cases a
  |true=>
   rw[c] at a;injection a with a
   exact⟨a.symm,nA e,e4 c⟩
def KI{a:List Nat}{b q:Nat}(e:q∉a)(d:q<b):lX a b q=c5 q:=by
 unfold lX;have c:has a q=false:=by
  cases g:has a q with
  |false=>rfl
  |true=>exact absurd ((oO a q).1 g) e
 have f:j8 q b=true:=hM d;rw[c,f]
 rfl
def apa{g:Gh}{X:List (Ob B.D)}{l:World}(D:bF g (av B X) l)(fr:List Nat)(U:∀i,i∈fr->i<X.length)(S:Nat):
 bF (dj g (lX fr X.length) (λi=>i∈fr)) (av B (b8 X (gU X fr))) l/\
 (∀e o,VR g (av B X) l e o->VR (dj g (lX fr X.length) (λi=>i∈fr)) (av B (b8 X (gU X fr))) l e o)/\
 Bml.GStep S g (av B X) l (dj g (lX fr X.length) (λi=>i∈fr)) (av B (b8 X (gU X fr))) l:=by
 obtain⟨O,K⟩:=FG (X:=X) (fr:=fr) (Z:=X) rfl λi _=>.inl rfl
 have E:(b8 X (gU X fr)).length=X.length:=qy _ _;have x:∀q a,(av B X)[q]?=c5 a->∃d,(av B (b8 X (gU X fr)))[q]?=c5 d/\((q∈fr/\a.aF<d.aF/\d.es=[]/\d.sz=1)\/(q∉fr/\d=a)):=λq a n=>by
  obtain⟨J,s,rfl⟩:=oU n
  by_cases u:q∈fr
  .refine⟨_,df (O q u J s),.inl ⟨u,?_,rfl,rfl⟩⟩
   rw[e7];exact l1 _
  .exact⟨_,df (by rw[K q u];exact s),.inr ⟨u,rfl⟩⟩
 have z:∀e o,VR g (av B X) l e o->VR (dj g (lX fr X.length) (λi=>i∈fr)) (av B (b8 X (gU X fr))) l e o:=λe o p=>by
  refine VR.re (f:=λr v=>∃a,(av B X)[r]?=c5 a/\v<=a.aF) (g':=dj g (lX fr X.length) (λi=>i∈fr)) (λb F=>Or.inl F) (λr v a _ n I=>?_) p p.wf
  obtain⟨d,m,t⟩:=x r a n;rcases t with⟨c,G,_⟩ |⟨c,rfl⟩
  .exact⟨d,m,by omega,λj=>by omega⟩
  .refine⟨_,m,I,λj=>⟨j,rfl,rfl,?_⟩⟩
   have h:=c9 n;rw[qL] at h;show(lX fr X.length r).bind g.β=g.β r
   rw[KI c h]
   rfl
 refine⟨?_,z,?_⟩
 .refine bF.re D (λi N q k=>?_) (λq Y i p M=>?_) (λq i p=>?_) λq d m=>?_
  .obtain⟨j,c,_⟩:=u7 k;subst j;exact c N
  .rw[<-(u7 p).1, <-(u7 M).1]
  .rw[qL,E];exact(u7 p).2.2
  .have h:=c9 m;rw[qL,E] at h;have y:(av B X)[q]?=c5 ((av B X)[q]'(by rw[qL];exact h)):=c4 _;obtain⟨W,w,t⟩:=x q _ y;rw[m] at w;injection w with w
   subst w;rcases t with⟨c,_,A,T⟩ |⟨c,rfl⟩
   .refine⟨by rw[T];exact qb,λi j C=>by rw[A] at C;simp at C,λ_=>A,λi k=>?_⟩
    exact absurd c (u7 k).2.1
   .have s:=D.obj q _ y;refine⟨s.pos,s.width,λk=>?_,λi k=>?_⟩
    .rw[KI c h] at k;cases k
    .obtain⟨j,_,_⟩:=u7 k;subst j;exact⟨_,y,rfl,rfl,rfl,λi V e H=>⟨e,H,λL Q=>z e L Q⟩⟩
 .refine GStep.re λq a _ n=>?_
  obtain⟨d,m,t⟩:=x q a n;have h:=c9 n;rw[qL] at h;rcases t with⟨c,G,_⟩ |⟨c,rfl⟩
  .exact⟨d,m,by omega,λj=>by omega⟩
  .exact⟨_,m,ef _,λ_=>⟨KI c h,rfl,rfl⟩⟩
def SN{h:Nat->Type}{d:Nat}{e:List (Nat×Ob h)}:∀{b:List Nat},Jd d e b=true->∀i,i∈b->d<=i/\i∈eV e
 |[],_,i,a=>by cases a
 |q::b,j,i,a=>by
  obtain⟨g,c⟩:=fu j;obtain⟨c,f⟩:=fu c;rcases dd.1 a with rfl |a
  .exact⟨e4 g,(oO _ _).1 c⟩
  .exact SN f i a
def KW{e:Nat->Type}{f:List (Ob e)}:∀{b:List Nat} {i:Nat} {d:Ob e},(i,d)∈gU f b->i∈b
 |[],_,_,a=>by cases a
 |q::b,i,d,a=>by
  simp only[gU] at a
  split at a
  .rcases dd.1 a with c |a
   .injection c with c _
    simp[c]
   .exact c7 _ (KW a)
  .exact c7 _ (KW a)
def QB{c:Type}:∀{a b:List (Nat×c)},eV (aX a b)=aX (eV a) (eV b)
 |[],_=>rfl
 |p::a,b=>by simp only[aX,eV,QB]
def T1{e:Nat->Type}{c:List (Ob e)}:∀{b:List Nat} {i:Nat},i∈eV (gU c b)->i∈b
 |[],_,a=>by cases a
 |q::b,i,a=>by
  simp only[gU] at a
  split at a
  .simp only[eV,dd] at a;rcases a with d |a
   .simp[d]
   .exact c7 _ (T1 a)
  .exact c7 _ (T1 a)
def Zj(U:cU P B){z:Op}{J:En B.D}{H:List (Ob B.D)}{a y:cr B.D}(f:Fs H a=c5 y)(K:iZ H a)(ah:gY P z J H a):iZ H y/\gY P z J H y:=by
 unfold Fs at f;obtain⟨am,f⟩:=a8 f;obtain⟨S,f⟩:=a8 f;injection f with f
 subst f;have q:=SN am;refine⟨λi N d=>?_,?_⟩
 .have d:(i,N)∈aX a.wr (gU (behind H a) (refs a.val)):=d;rw[bK,c6] at d;rcases d with d |d
  .exact K i N d
  .have b:=KW d;obtain⟨s,x⟩:=q i b;have E:∃e,(i,e)∈a.wr:=F1 x;obtain⟨e,l⟩:=E;refine⟨(K i e l).1,λax af=>?_⟩
   have:=H8 af;rw[eu] at s;omega
 .intro Y ai X ak M c C g aa Q an au ac Z V;have I:Ag z (aX a.rd (eV a.wr)) J M (aX H (dx a.nw)) c:=⟨C.e,λi b=>C.h i (by
   show i∈aX a.rd (eV (aX a.wr _))
   rw[bK,c6] at b⊢;rcases b with b |b
   .exact .inl b
   .exact .inr (by rw[QB,bK,c6];exact .inl b)),C.le⟩
  refine ah Y ai X ak M c I g aa Q an au ac Z λF T ae v az ap k d ar=>?_
  obtain⟨rfl,rfl⟩:=ap;have t:∀i,i∈refs a.val->nth (behind H a) i=nth (b8 c a.wr) i:=λi b=>by
   unfold behind;refine SE ?_
   have:=I.h i (by rw[bK,c6];exact .inr (q i b).2);exact this.symm
  have ao:∀i,i∈refs a.val->i<(b8 c a.wr).length:=λi b=>by
   rw[qy];have s:=I.h i (by rw[bK,c6];exact .inr (q i b).2);obtain⟨e,l⟩:=F1 (q i b).2;have x:=(K i e l).1;have E:i<(aX H (dx a.nw)).length:=by rw[bK,e5,qV];exact x
   have aw:nth (aX H (dx a.nw)) i=c5 ((aX H (dx a.nw))[i]):=by rw[cJ];exact c4 E
   rw[aw] at s;exact H8 s
  obtain⟨aq,ay,al⟩:=apa d (refs a.val) ao (av B c).length;refine V F T _ (pv B (G0 (behind H a) a.val)) (av B (b8 (b8 c a.wr) (gU (b8 c a.wr) (refs a.val)))) ⟨rfl,?_⟩ ?_ aq (ar.trans al)
  .show av B _=av B (b8 c (aX a.wr (gU (behind H a) (refs a.val))))
   rw[Mu,Rn t]
  .have W:kY (b8 c a.wr) (refs a.val)=[]:=by
    rw[Ki (H:=behind H a) (refs a.val) λi b=>(t i b).symm];cases o:kY (behind H a) (refs a.val) with
    |nil=>rfl
    |cons Q n=>rw[o] at S;cases S
   have u:∀i,jN (b8 c a.wr) (refs a.val) i->i∈refs a.val:=λi b=>by
    unfold jN at b
    rwa [W,bK,ft] at b
   have aj:∀m:TV B.D,(∀i,i∈refs m->i∈refs a.val)->kJ (behind H a) [] m=kJ (b8 c a.wr) [] m:=λm A=>H6 m λi b=>t i (u i (b.mono A))
   have ag:∀j:List (TV B.D),(∀i,i∈iB j->i∈refs a.val)->jS (behind H a) [] j=jS (b8 c a.wr) [] j:=λj A=>v8 j λi b=>t i (u i (b.mono A))
   unfold G0
   split
   .rename_i w G;rw[ag w λi b=>by rw[G];exact b];rw[G] at k;have k:VR ae (av B (b8 c a.wr)) T (.bu (aP B w)) F:=k;obtain⟨L,rfl,o,ab⟩:=k.Db;have O:=pH (kept:=[]) (src:=lX (refs a.val) (b8 c a.wr).length) (fz:=λi=>i∈refs a.val) U d w L (λi b _=>u i (by rw[G];exact b)) o ab;exact .aW (.bu _ L (by rw[O.1];exact o) O.2)
   .rw[aj a.val λi b=>b];exact .aW (Jt (kept:=[]) (src:=lX (refs a.val) (b8 c a.wr).length) (fz:=λi=>i∈refs a.val) U d a.val F (λi b _=>u i b) k)
where
 F1 {D:Nat->Type}:∀{n:List (Nat×Ob D)} {i:Nat},i∈eV n->∃e,(i,e)∈n
  |[],_,h=>by cases h
  |p::n,i,h=>by
   simp only[eV,dd] at h;rcases h with ad |h
   .exact⟨p.2,by rw[ad];simp⟩
   .obtain⟨e,l⟩:=F1 h;exact⟨e,c7 _ l⟩
def aaq(k:cU P B){e:List (aq B)}(t:∀h,h∈e->Fits P B h){n i:Bool}{l:En B.D}{c:List (Ob B.D)}{f:Op}{d:cr B.D->Option R}(j:zM B P e n i l c f d=c5 r):
 ∃a,d a=c5 r/\iZ c a/\gY P f l c a:=by
 unfold zM at j;obtain⟨a,b,m,g⟩:=aaE k t j;cases i with
 |false=>exact⟨a,b,m,g⟩
 |true=>
  obtain⟨p,q,b⟩:=fq b;obtain⟨s,o⟩:=Zj k q m g;exact⟨p,b,s,o⟩
end
section
variable {P:Program}{B:Tb}{R:Type}{r:R}
def qo{b:Nat->Type}(c:Oper)(a:St b):Option (cr b)->St b
 |some d=>⟨gr a.E c.dst d.val,behind a.H d⟩
 |none=>⟨gr a.E c.dst (.bu []),a.H⟩
def fG{c:Nat->Type}(b:List Oper)(a:Oper):Option (cr c)->Lg
 |some d=>rV b a d
 |none=>xo b a
def tQ{e:Nat->Type}(f:List Oper)(h:Oper)(g:En e)(p:Bool->TV e->Prop):Prop:=∃d c a b,h.guard=c5 (d,c)/\nth f d=c5 a/\a.dst=c5 b/\p c (lk g b)
def Ij(P:Program)(B:Tb)(f:List Oper)(c:Oper)(a:St B.D):Option (cr B.D)->Prop
 |some e=>(c.guard=ea\/tQ f c a.E λd v=>v= .bool d)/\gY P c.op a.E a.H e/\iZ a.H e/\∀i,i∈e.rd->i<a.H.length
 |none=>tQ f c a.E λd v=>v= .bu []\/∃b,v= .bool b/\b≠d
def l6(P:Program)(B:Tb)(c:List Oper):List Oper->St B.D->List (Option (cr B.D))->St B.D->Prop
 |[],a,[],b=>b=a
 |e::f,a,d::g,b=>Ij P B c e a d/\l6 P B c f (qo e a d) g b
 |_,_,_,_=>False
def mF{f:Nat->Type}(a:List Oper):List Oper->List (Option (cr f))->List Lg
 |d::b,c::e=>fG a d c::mF a b e
 |_,_=>[]
def SI{c:Nat}:∀{b:List Nat},Dp c b=true->∀i,i∈b->i<c
 |[],_,i,a=>by cases a
 |g::b,f,i,a=>by
  obtain⟨e,d⟩:=fu f;rcases dd.1 a with rfl |a
  .exact e4 e
  .exact SI d i a
def qg(F:cU P B){q:List (aq B)}(D:∀s,s∈q->Fits P B s){p:List Nat}{c:List Oper}{l:List Lg->St B.D->Option R}:∀{j:List Oper} {i:Nat} {k:List Lg} {a:St B.D},ops B P q p c l i j k a=c5 r->
 ∃g h,l6 P B c j a g h/\l ((mF c j g).reverse++k) h=c5 r
 |[],i,k,a,d=>⟨[],a,rfl,d⟩
 |e::j,i,k,a,d=>by
  simp only[ops] at d;have go:∀(m:e.guard=ea\/tQ c e a.E λo v=>v= .bool o),(zM B P q (has p i) (has p (i+1000)) a.E a.H e.op λf=>bif Dp (len a.H) f.rd then
   bif zL i c then match f.val with
    | .bool s=>cond s (ops B P q p c l (i+1) j (rV c e f::k) ⟨gr a.E e.dst (.bool true),behind a.H f⟩) (ops B P q p c l (i+1) j (rV c e f::k) ⟨gr a.E e.dst (.bool false),behind a.H f⟩)
    |_=>ea
   else ops B P q p c l (i+1) j (rV c e f::k) ⟨gr a.E e.dst f.val,behind a.H f⟩
   else ea)=c5 r->∃g h,l6 P B c (e::j) a g h/\l ((mF c (e::j) g).reverse++k) h=c5 r:=λm d=>by
   obtain⟨f,n,N,K⟩:=aaq F D d;obtain⟨M,n⟩:=a8 n;have I:∀i,i∈f.rd->i<a.H.length:=λi L=>by rw[<-eu];exact SI M i L
   have next:ops B P q p c l (i+1) j (rV c e f::k) ⟨gr a.E e.dst f.val,behind a.H f⟩=c5 r->∃g h,l6 P B c (e::j) a g h/\l ((mF c (e::j) g).reverse++k) h=c5 r:=λd=>by
    obtain⟨g,h,C,x⟩:=qg F D d;refine⟨c5 f::g,h,⟨⟨m,K,N,I⟩,C⟩,?_⟩
    simp only[mF,fG,p7,dv,o8];exact x
   cases G:zL i c with
   |false=>rw[G] at n;exact next n
   |true=>
    rw[G] at n;simp only[cond_true] at n
    split at n
    .rename_i s H;refine next ?_
     rw[H];cases s <;> exact n
    .cases n
  have skip:(tQ c e a.E λo v=>v= .bu []\/∃b,v= .bool b/\b≠o)->ops B P q p c l (i+1) j (xo c e::k) ⟨gr a.E e.dst (.bu []),a.H⟩=c5 r->∃g h,l6 P B c (e::j) a g h/\l ((mF c (e::j) g).reverse++k) h=c5 r:=λm d=>by
   obtain⟨g,h,C,x⟩:=qg F D d;refine⟨ea::g,h,⟨m,C⟩,?_⟩
   simp only[mF,fG,p7,dv,o8];exact x
  split at d
  .rename_i m;exact go (.inl m) d
  .rename_i A o m
   split at d
   .rename_i y w
    split at d
    .rename_i E z
     split at d
     .rename_i b t;cases u:Bool.xor b o with
      |true=>
       rw[u] at d;exact skip ⟨A,o,y,E,m,w,z,.inr ⟨b,t,λJ=>by subst J;cases b <;> cases u⟩⟩ d
      |false=>
       rw[u] at d;refine go (.inr ⟨A,o,y,E,m,w,z,?_⟩) d
       rw[t];cases b <;> cases o <;> first |rfl |cases u
     .rename_i t;exact skip ⟨A,o,y,E,m,w,z,.inl t⟩ d
     .cases d
    .cases d
   .cases d
def Mc(b a:List (Ob B.D)):av B (aX b a)=av B b++av B a:=by rw[bK];simp[av]
def ab3{c n:Nat}{g:Gh}{d:Env}{a:List aO}{f:Act}{b:World}(i:Rel g c d a f b):∃e,Rel e c d (a++[⟨0,1,[],0⟩]) f b/\Bml.GStep n g a b e (a++[⟨0,1,[],0⟩]) b:=by
 obtain⟨h,j⟩:=i.m.T6 0 1 qb;exact⟨_,⟨j,i.e.step h⟩,h.every⟩
def G6{e n:Nat}{h:Env}{k:Act}{c:World}:∀(b:Nat) {g:Gh} {a:List aO},Rel g e h a k c->∃i,Rel i e h (a++av B (dx b)) k c/\Bml.GStep n g a c i (a++av B (dx b)) c
 |0,g,a,d=>⟨g,by simpa[dx,av] using d,by simpa[dx,av] using Bml.GStep.refl n g a c⟩
 |b+1,g,a,d=>by
  obtain⟨q,m,p⟩:=ab3 (n:=n) d;obtain⟨l,f,j⟩:=G6 b m;have o:a++[⟨0,1,[],0⟩]++av B (dx b)=a++av B (dx (b+1)):=by simp[dx,av,aY,xt]
  rw[o] at f j;exact⟨l,f,p.trans j⟩
def OT{c n:Nat}{a:Array Oper}{d:List Oper}{b:fE}{j:Env}{i:List (Ob B.D)}(h:Nat)(t:gp P c n a d b j (av B (aX i (dx h)))):gp P c n a d b j (av B i):=by
 intro g s q w m u;obtain⟨l,e,f⟩:=G6 (B:=B) (n:=n) h w;rw[<-Mc] at e f;exact t l s q e m λp k v o=>u p k v (eI.trans f o)
def Sf{c:Op}{d:List Nat}{b:En B.D}{a:List (Ob B.D)}:Ag c d b b a a:=⟨λ_ _=>rfl,λ_ _=>rfl,ef _⟩
def yW{nt n:Nat}{i:List Oper}{Q:fE}:∀{l:List Oper} {S:St B.D} {z:List (Option (cr B.D))} {h:St B.D},l6 P B i l S z h->(∀e,e∈l->fL nt e.dst=true)->Q .normal (aU B h.E) (av B h.H)->
 gp P nt n i.toArray l Q (aU B S.E) (av B S.H)
 |[],S,[],h,a,_,w=>by
  obtain rfl:h=S:=a;exact Of w
 |e::l,S,d::z,h,a,C,w=>by
  obtain⟨E,a⟩:=a;have q:=yW (nt:=nt) (n:=n) a (λe J=>C e (c7 _ J)) w;have u:=C e (by simp);obtain⟨f,A,s,o,t,gd⟩:=e;have D:∀{p:Bool->TV B.D->Prop},tQ i ⟨f,A,s,o,t,gd⟩ S.E p->∃g c d,gd=c5 (g,c)/\(i.toArray[g]?).bind (·.dst)=c5 d/\p c (lk S.E d):=λa=>by
   obtain⟨g,c,O,d,I,x,H,L⟩:=a;refine⟨g,c,d,I,?_,L⟩
   rw[cJ] at x;simp[x,H]
  cases d with
  |none=>
   obtain⟨g,c,d,rfl,m,k⟩:=D (p:=λc v=>v= .bu []\/∃b,v= .bool b/\b≠c) E;rcases k with k |⟨b,F,K⟩
   .refine MO m (by rw[ep,k];rfl) u ?_
    rw[show li (aU B S.E) f (.bu [])=aU B (gr S.E f (.bu [])) by rw[sx];rfl];exact q
   .refine Sk m (by rw[ep,F];rfl) K u ?_
    rw[show li (aU B S.E) f (.bu [])=aU B (gr S.E f (.bu [])) by rw[sx];rfl];exact q
  |some y=>
   obtain⟨j,G,T,N⟩:=E;have run:gp P nt n i.toArray (⟨f,A,s,o,t,ea⟩::l) Q (aU B S.E) (av B S.H):=by
    refine OT y.nw (Sz (G f s o t S.E (aX S.H (dx y.nw)) Sf) u ?_)
    rintro v M ⟨rfl,rfl⟩;rw[<-sx];exact q
   rcases j with j |j
   .obtain rfl:gd=ea:=j;exact run
   .obtain⟨g,c,d,rfl,m,k⟩:=D j;exact S7 m (by rw[ep,k];rfl) run
 |[],_,_::_,_,a,_,_=>a.elim
 |_::_,_,[],_,a,_,_=>a.elim
def alB{a:List (Ob B.D)}{b:cr B.D}:(behind a b).length=a.length+b.nw:=by
 unfold behind;rw[qy,bK,e5,qV]
def Fk{d:Type}:∀{b:List (Nat×d)} {a:List d} {i:Nat},(∀c,(i,c)∉b)->nth (b8 a b) i=nth a i
 |[],_,_,_=>rfl
 |p::b,a,i,e=>by
  rw[b8,Fk λc f=>e c (c7 _ f),cJ,cJ,iL,eH];intro g;exact e p.2 (by subst g;exact j3)
def RD{d:Type}:∀{ch:List (Nat×d)} {b:List d} {i:Nat} {c:d},nth (b8 b ch) i=c5 c->(i,c)∈ch\/nth b i=c5 c
 |[],_,_,_,a=>.inr a
 |p::ch,b,i,c,a=>by
  rcases RD (ch:=ch) a with a |a
  .exact .inl (c7 _ a)
  .rw[cJ,iL] at a
   by_cases f:p.1=i
   .subst f;rcases hI p.1 b.length with e |e
    .rw[ev e] at a;injection a with a
     subst a;exact .inl j3
    .rw[ga (by rw[h6];exact e)] at a;cases a
   .rw[eH f, <-cJ] at a;exact .inr a
def td{e:Nat->Type}(d:En e)(a:Option Nat)(v:TV e)(b:Nat):lk (gr d a v) b=if a=c5 b then v else lk d b:=by
 cases a with
 |none=>simp[gr]
 |some a=>
  simp only[gr,lk]
  by_cases c:a=b
  .subst c;simp[hQ]
  .have:fe a b=false:=by
    cases f:fe a b with
    |false=>rfl
    |true=>exact absurd (beq_eq f) c
   simp[this,c]
def ah1{j:List Nat}{q:List Oper}{c:Oper}{b:St B.D}{a:Option (cr B.D)}(k:Ij P B q c b a)(s:∀l,c.dst=c5 l->l∈j):Ext j b (qo c b a):=by
 have p:∀v a,a∉j->lk (gr b.E c.dst v) a=lk b.E a:=λv a f=>by
  rw[td,if_neg];intro o;exact f (s a o)
 cases a with
 |none=>exact⟨λa f=>p _ a f,ef _,λi m c k e=>by
  have e:nth b.H i=c5 c:=e;rw[k] at e;injection e with e;subst e;exact⟨ef _,λ_=>rfl⟩⟩
 |some g=>
  obtain⟨_,_,t,_⟩:=k;refine⟨λa f=>p _ a f,by show b.H.length<=(behind b.H g).length;rw[alB];omega,λi m c h0 h=>?_⟩
  have h:nth (b8 (aX b.H (dx g.nw)) g.wr) i=c5 c:=h;rcases RD h with d |d
  .have:=(t i c d).2 m h0;exact⟨by omega,λo=>by omega⟩
  .have:=Dy (n:=g.nw) h0;rw[this] at d;injection d with d
   subst d;exact⟨ef _,λ_=>rfl⟩
def Pe{g:List Nat}{j:List Oper}:∀{e:List Oper} {c:St B.D} {i:List (Option (cr B.D))} {d:St B.D},l6 P B j e c i d->(∀b,b∈e->∀f,b.dst=c5 f->f∈g)->Ext g c d
 |[],c,[],d,a,_=>by obtain rfl:d=c:=a;exact .refl _ _
 |b::e,c,l::i,d,a,h=>(ah1 a.1 (h b (by simp))).trans (Pe a.2 λb k=>h b (c7 _ k))
 |[],_,_::_,_,a,_=>a.elim
 |_::_,_,[],_,a,_=>a.elim
end
section
variable {P:Program}{B:Tb}
def gT{b:Nat->Type}:List Oper->List (Option (cr b))->Nat->St b->St b
 |e::c,d::f,i+1,a=>gT c f i (qo e a d)
 |_,_,_,a=>a
def wq{a:Nat->Type}:Option (cr a)->TV a
 |some b=>b.val
 |none=>.bu []
def jM{a:Nat->Type}:Option (cr a)->List (Nat×Ob a)
 |some b=>b.wr
 |none=>[]
def xL{a:Nat->Type}:Option (cr a)->Nat
 |some b=>b.nw
 |none=>0
def jH{c:Nat->Type}:List (Option (cr c))->Nat
 |[]=>0
 |a::b=>xL a+jH b
def gN{b:Nat->Type}(d:Nat->Bool):Nat->List Oper->List (Option (cr b))->En b->En b
 |c,g::e,f::h,a=>gN d (c+1) e h (if d c then gr a g.dst (wq f) else a)
 |_,_,_,a=>a
def eA{b:Nat->Type}(d:Nat->Bool):Nat->List (Option (cr b))->List (Ob b)->List (Ob b)
 |c,e::f,a=>eA d (c+1) f (if d c then b8 a (jM e) else a)
 |_,_,a=>a
def Td{d:Nat->Type}(b:Oper)(c:St d)(a:Option (cr d)):(qo b c a).E=gr c.E b.dst (wq a):=by cases a <;> rfl
def LO{j:List Oper}:∀{b:List Oper} {c:St B.D} {d:List (Option (cr B.D))} {e:St B.D},l6 P B j b c d e->
 d.length=b.length/\gT b d b.length c=e/\∀(i:Nat) (h:Oper),b[i]?=c5 h->∃f,d[i]?=c5 f/\Ij P B j h (gT b d i c) f
 |[],c,[],e,a=>⟨rfl,by have a:e=c:=a;rw[a];rfl,by simp⟩
 |h::b,c,f::d,e,a=>by
  obtain⟨n,m,k⟩:=LO a.2;refine⟨by simp[n],m,λi q g=>?_⟩
  cases i with
  |zero=>
   simp at g;subst g;refine⟨f,rfl,?_⟩
   have:=a.1;simpa[gT] using this
  |succ i=>
   obtain⟨o,p,l⟩:=k i q (by simpa using g);exact⟨o,by simpa using p,l⟩
 |[],_,_::_,_,a=>a.elim
 |_::_,_,[],_,a=>a.elim
def RW{f:Nat->Type}:∀{l:List Oper} {ts:List (Option (cr f))} {i:Nat} {S:St f} {e:Oper} {d:Option (cr f)},l[i]?=c5 e->ts[i]?=c5 d->gT l ts (i+1) S=qo e (gT l ts i S) d
 |g::l,b::ts,0,S,e,d,c,a=>by
  simp at c a;subst c;subst a;cases l <;> cases ts <;> rfl
 |g::l,b::ts,i+1,S,e,d,c,a=>by
  have:=RW (l:=l) (ts:=ts) (i:=i) (S:=qo g S b) (by simpa using c) (by simpa using a);exact this
 |[],_,_,_,_,_,c,_=>by simp at c
 |_::_,[],_,_,_,_,_,a=>by simp at a
def vg{l:Nat->Type}{m n:Nat->Bool}{c:Nat}:∀(i:List Oper) (a:Nat) (j:List (Option (cr l))) (d k:En l),(∀e g,i[e]?=c5 g->g.dst=c5 c->m (a+e)=n (a+e))->lk d c=lk k c->lk (gN m a i j d) c=lk (gN n a i j k) c
 |[],_,_,_,_,_,h=>by simpa[gN] using h
 |_::_,_,[],_,_,_,h=>by simpa[gN] using h
 |g::i,a,v::j,d,k,p,h=>by
  simp only[gN];refine vg i (a+1) j _ _ (λe r q f=>by
   have:=p (e+1) r (by simpa using q) f
   rwa [show a+(e+1)=a+1+e by omega] at this) ?_
  by_cases f:g.dst=c5 c
  .have h0:=p 0 g rfl f;simp only[hS] at h0;rw[h0]
   split
   .rw[td,td,if_pos f,if_pos f]
   .exact h
  .have o:∀(b:Bool) (d:En l),lk (if b=true then gr d g.dst (wq v) else d) c=lk d c:=λb d=>by
    split
    .rw[td,if_neg f]
    .rfl
   rw[o,o,h]
def IR{g:Nat->Type}{f:Nat->Bool}:∀(d:List Oper) (a:Nat) (e:List (Option (cr g))) (b:En g),(∀c,a<=c->f c=false)->gN f a d e b=b
 |[],_,_,_,_=>by simp[gN]
 |_::_,_,[],_,_=>by simp[gN]
 |j::d,a,v::e,b,h=>by
  simp only[gN];rw[h a (ef _)];exact IR d (a+1) e b λc i=>h c (by omega)
def Nt{f:Nat->Type}:∀(i a:Nat) (d:List Oper) (b:List (Option (cr f))) (c:St f),gN (λe=>c3 (e<a+i)) a d b c.E=(gT d b i c).E
 |0,a,d,b,c=>by
  rw[IR d a b c.E λe j=>by simp;omega];cases d <;> cases b <;> rfl
 |i+1,a,[],b,c=>by cases b <;> rfl
 |i+1,a,_::_,[],c=>rfl
 |i+1,a,h::d,g::b,c=>by
  simp only[gN,gT];rw[if_pos (by simp), <-Td];have:=Nt i (a+1) d b (qo h c g);rw[show a+1+i=a+(i+1) by omega] at this;exact this
def xq{d:Nat->Type}{e:Nat->Bool}:∀(c:List (Option (cr d))) (a:Nat) (b:List (Ob d)),(eA e a c b).length=b.length
 |[],_,_=>rfl
 |f::c,a,b=>by
  simp only[eA];rw[xq c (a+1)]
  split
  .exact qy _ _
  .rfl
def O2{c:Type}{a:List (Nat×c)}{i:Nat}{f:c}(b:(i,f)∈a):i∈eV a:=by
 induction a with
 |nil=>cases b
 |cons g a d=>
  rcases dd.1 b with e |b
  .simp[eV, <-e]
  .simp[eV,d b]
def Fu{f:Type}:∀{ch:List (Nat×f)} {a b:List f} {i:Nat},a.length=b.length->nth a i=nth b i->nth (b8 a ch) i=nth (b8 b ch) i
 |[],_,_,_,_,c=>c
 |p::ch,a,b,i,g,c=>by
  refine Fu (ch:=ch) (by rw[iL,iL,h6,h6,g]) ?_
  rw[cJ,cJ] at c;rw[cJ,cJ,iL,iL]
  by_cases e:p.1=i
  .subst e;rcases hI p.1 a.length with d |d
   .rw[ev d,ev (by omega)]
   .rw[ga (by rw[h6];exact d),ga (by rw[h6];omega)]
  .rw[eH e,eH e,c]
def vT{l:Nat->Type}{o q:Nat->Bool}{i:Nat}:∀(f:List (Option (cr l))) (c:Nat) (k h:List (Ob l)),k.length=h.length->(∀d e,f[d]?=c5 e->i∈eV (jM e)->o (c+d)=q (c+d))->nth k i=nth h i->nth (eA o c f k) i=nth (eA q c f h) i
 |[],_,_,_,_,_,g=>g
 |e::f,c,k,h,n,m,g=>by
  simp only[eA];have len:∀(b:Bool) (a:List (Ob l)),(if b=true then b8 a (jM e) else a).length=a.length:=λb a=>by
   split
   .exact qy _ _
   .rfl
  refine vT f (c+1) _ _ (by rw[len,len,n]) (λd s r j=>by
   have:=m (d+1) s (by simpa using r) j
   rwa [show c+(d+1)=c+1+d by omega] at this) ?_
  by_cases j:i∈eV (jM e)
  .have h0:=m 0 e rfl j;simp only[hS] at h0;rw[h0]
   split
   .exact Fu n g
   .exact g
  .have p:∀(b:Bool) (a:List (Ob l)),nth (if b=true then b8 a (jM e) else a) i=nth a i:=λb a=>by
    split
    .exact Fk λu t=>j (O2 t)
    .rfl
   rw[p,p,g]
def vP{f:Nat->Type}{e:Nat->Bool}:∀(d:List (Option (cr f))) (a:Nat) (b:List (Ob f)),(∀c,a<=c->e c=false)->eA e a d b=b
 |[],_,_,_=>rfl
 |i::d,a,b,g=>by
  simp only[eA];rw[g a (ef _)];exact vP d (a+1) b λc h=>g c (by omega)
def PZ{e:Type}:∀{c:List (Nat×e)} {a b:List e},(∀i d,(i,d)∈c->i<a.length)->b8 (aX a b) c=aX (b8 a c) b
 |[],_,_,_=>rfl
 |p::c,a,b,f=>by
  have h:me (aX a b) p.1 p.2=aX (me a p.1 p.2) b:=by
   rw[iL,iL,bK,bK,List.set_append_left _ _ (f p.1 p.2 j3)]
  rw[b8,h,PZ λi d g=>by rw[iL,h6];exact f i d (c7 _ g)]
  rfl
def MM{d:Nat->Type}(a b:Nat):(dx (a+b):List (Ob d))=aX (dx a) (dx b):=by
 induction a with
 |zero=>rw[e6];rfl
 |succ a c=>rw[show a+1+b=(a+b)+1 by omega];simp[dx,aX,c]
def QS{r:List Oper}:∀(i d:Nat) {f:List Oper} {b:St B.D} {a:List (Option (cr B.D))} {h:St B.D} {m:Nat},l6 P B r f b a h->i<=f.length->
 ∃j,eA (λp=>c3 (p<d+i)) d a (aX b.H (dx (m+jH a)))=aX (gT f a i b).H (dx (m+j))/\(∀g,a[i]?=c5 g->xL g<=j)/\(i=f.length->j=0)
 |0,d,[],b,[],h,m,c,_=>⟨0,by simp[eA,jH,gT],by simp,λ_=>rfl⟩
 |0,d,l::f,b,g::a,h,m,c,_=>⟨jH (g::a),by rw[vP _ _ _ λp w=>by simp;omega];rfl,λq k=>by
  simp at k;subst k;simp[jH],λc=>by simp at c⟩
 |i+1,d,l::f,b,g::a,h,m,c,o=>by
  obtain⟨j,u,s,t⟩:=QS i (d+1) (m:=m) c.2 (by simpa using o);refine⟨j,?_,λq k=>s q (by simpa using k),λn=>t (by simpa using n)⟩
  simp only[eA,gT];rw[if_pos (by simp), <-u,show d+1+i=d+(i+1) by omega]
  congr 1
  cases g with
  |none=>simp[jM,b8,qo,jH,xL]
  |some e=>
   have n:(m+jH (c5 e::a))=e.nw+(m+jH a):=by simp[jH,xL];omega
   rw[n,MM];show b8 (aX b.H (aX (dx e.nw) (dx (m+jH a)))) e.wr=aX (behind b.H e) (dx (m+jH a))
   rw[show aX b.H (aX (dx e.nw) (dx (m+jH a)))=aX (aX b.H (dx e.nw)) (dx (m+jH a)) by simp[bK]];rw[PZ λi l v=>by
    have:=(c.1.2.2.1 i l v).1;rw[bK,e5,qV];exact this]
   rfl
 |i+1,d,[],b,a,h,m,c,o=>by simp at o
 |_,_,[],_,_::_,_,_,c,_=>c.elim
 |_,_,_::_,_,[],_,_,c,_=>c.elim
def tD{a c:List Nat}{d:Nat}(b:d∈a)(e:d∈c):meets a c=true:=by
 induction a with
 |nil=>cases b
 |cons h a g=>
  simp only[meets];cases f:has c h with
  |true=>rfl
  |false=>
   rcases dd.1 b with rfl |b
   .exact absurd e (nA f)
   .exact g b
def Ny{f:List Oper}{k:Lg}{j:Nat}:∀{e:List Lg} {c i:Nat} {b:Lg},vK f k j c e=true->e[i]?=c5 b->mm k b=true->before f (len f) (c+i) j=true
 |[],_,_,_,_,a,_=>by simp at a
 |b::e,c,0,m,a,d,g=>by
  simp at d;subst d;simp only[vK] at a;obtain⟨h,_⟩:=fu a;rw[g] at h;exact h
 |b::e,c,i+1,m,a,d,g=>by
  simp only[vK] at a;obtain⟨_,l⟩:=fu a;have:=Ny l (by simpa using d) g;rw[show c+(i+1)=c+1+i by omega];exact this
def Jn{h:List Oper}:∀{f pre:List Lg} {c:Nat},n4 h pre c f=true->pre.length=c->∀i e d b,c<=i->(pre++f)[i]?=c5 e->(pre++f)[d]?=c5 b->d<i->mm e b=true->before h (len h) d i=true
 |[],pre,c,_,j,i,e,d,b,m,a,_,_,_=>by
  have:=c9 a;simp at this;omega
 |p::f,pre,c,l,j,i,e,d,b,m,a,g,r,k=>by
  simp only[n4] at l;obtain⟨o,n⟩:=fu l
  by_cases q:i=c
  .subst q;rw[dk (by omega)] at a;rw[show i -pre.length=0 by omega] at a;simp at a;subst a;rw[dt (by omega)] at g;have:=Ny o g k
   rwa [e6] at this
  .refine Jn (pre:=aX pre [p]) n (by simp[bK,j]) i e d b (by omega) ?_ ?_ r k
   .rw[bK,dv];exact a
   .rw[bK,dv];exact g
def IG{d:Edge}:∀{c:List Edge},d∈c->m1 .any d=true->d.on∈iw c
 |e::c,a,b=>by
  simp only[iw];rcases dd.1 a with rfl |a
  .rw[b];simp
  .cases m1 .any e with
   |true=>simp[IG a b]
   |false=>simpa using IG a b
 |[],a,_=>by cases a
def G3{h:Nat}:∀{d:List Edge},h∈iw d->∃b,b∈d/\m1 .any b=true/\b.on=h
 |g::d,a=>by
  simp only[iw] at a;cases c:m1 .any g with
  |true=>
   rw[c] at a;rcases dd.1 a with rfl |a
   .exact⟨g,by simp,c,rfl⟩
   .obtain⟨b,f,e⟩:=G3 a;exact⟨b,c7 _ f,e⟩
  |false=>
   rw[c] at a;obtain⟨b,f,e⟩:=G3 a;exact⟨b,c7 _ f,e⟩
 |[],a=>by cases a
def JZ{p:Nat->Bool}:∀{c:List Nat},oF p c=true->∃b,b∈c/\p b=true
 |d::c,a=>by
  simp only[oF] at a;cases e:p d with
  |true=>exact⟨d,by simp,e⟩
  |false=>
   rw[e] at a;obtain⟨b,g,f⟩:=JZ a;exact⟨b,c7 _ g,f⟩
 |[],a=>by cases a
def RV{p:Nat->Bool}:∀{c:List Nat},oF p c=false->∀b,b∈c->p b=false
 |f::c,a,b,d=>by
  simp only[oF] at a;cases e:p f with
  |true=>rw[e] at a;cases a
  |false=>
   rw[e] at a;rcases dd.1 d with rfl |d
   .exact e
   .exact RV a b d
def I7{g:List Oper}{c:Nat->Bool}(k:∀i b,g[i]?=c5 b->c i=true->∀e,e∈iw b.after.toList->c e=true):∀{f i d:Nat},before g f i d=true->c d=true->c i=true
 |0,_,_,a,_=>by simp[before] at a
 |f+1,i,d,a,m=>by
  simp only[before] at a
  split at a
  .rename_i b l;rw[cJ] at l;have h:=k d b l m;cases j:has (iw b.after.toList) i with
   |true=>exact h i ((oO _ _).1 j)
   |false=>
    rw[j] at a;obtain⟨e,o,n⟩:=JZ a;exact I7 k n (h e o)
  .cases a
def U6{e:List Oper}{c:Nat->Bool}(m:∀i b,e[i]?=c5 b->c i=true->∀a,a∈iw b.after.toList->c a=true){f i j:Nat}{b:Oper}(n:e[j]?=c5 b)(h:∀a,a∈iw b.after.toList->c a=true)(d:before e f i j=true):c i=true:=by
 cases f with
 |zero=>simp[before] at d
 |succ f=>
  simp only[before,cJ,n] at d;cases g:has (iw b.after.toList) i with
  |true=>exact h i ((oO _ _).1 g)
  |false=>
   rw[g] at d;obtain⟨a,l,k⟩:=JZ d;exact I7 m k (h a l)
def Ns:∀{f:List Oper} {c i:Nat} {g:Oper},m7 c f=true->f[i]?=c5 g->∀b,b∈iw g.after.toList->b<c+i
 |j::f,c,0,g,a,d,b,h=>by
  simp at d;subst d;simp only[m7] at a;cases e:oF (λb=>m5 c b) (iw j.after.toList) with
  |true=>rw[e] at a;cases a
  |false=>
   have:=RV e b h;rw[hS];rcases hI b c with a |a
   .exact a
   .rw[hM a] at this;cases this
 |j::f,c,i+1,g,a,d,b,h=>by
  simp only[m7] at a;cases e:oF (λb=>m5 c b) (iw j.after.toList) with
  |true=>rw[e] at a;cases a
  |false=>
   rw[e] at a;have:=Ns a (by simpa using d) b h;omega
 |[],_,_,_,_,d,_,_=>by simp at d
def vZ{f:Nat->Type}{all:List Oper}:∀{l:List Oper} {ts:List (Option (cr f))} {i:Nat} {e:Oper} {d:Option (cr f)},l[i]?=c5 e->ts[i]?=c5 d->(mF all l ts)[i]?=c5 (fG all e d)
 |g::l,b::ts,0,e,d,c,a=>by simp at c a;subst c;subst a;rfl
 |g::l,b::ts,i+1,e,d,c,a=>by
  have:=vZ (all:=all) (l:=l) (ts:=ts) (i:=i) (by simpa using c) (by simpa using a);simpa[mF] using this
 |[],_,_,_,_,c,_=>by simp at c
 |_::_,[],_,_,_,_,a=>by simp at a
def J8{c:Type}:∀(a b:List c),nf a b=a.reverse++b
 |[],_=>rfl
 |d::a,b=>by simp[nf,J8 a]
end
def countP_set{a i:Nat}{p q:Nat->Bool}(k:i<a)(j:p i=false)(f:q i=true)(c:∀b,b<a->b≠i->p b=q b):(gv a).countP q=(gv a).countP p+1:=by
 induction a with
 |zero=>omega
 |succ a g=>
  rw[List.range_succ,p4,p4]
  by_cases e:i=a
  .subst e;rw[List.countP_congr (l:=gv i) (p:=q) (q:=p) λb d=>by rw[c b (by have:=hL.1 d;omega) (by have:=hL.1 d;omega)]];simp[j,f]
  .rw[g (by omega) λb d h=>c b (by omega) h];have:=c a (by omega) (λc=>e c.symm);simp[List.countP_cons,this];omega
section
variable {P:Program}{B:Tb}
def LB{W nn:Nat}{d:List Oper}{Q:fE}{w ap:St B.D}{e:List (Option (cr B.D))}(bb:l6 P B d d w e ap)(bL:m7 0 d=true)(bc:n4 d [] 0 (mF d d e)=true)
 (bX:∀j,j∈d->fL W j.dst=true) (bE:Q .normal (aU B ap.E) (av B ap.H)):∀aw aV ae,Rel aw W (aU B w.E) (av B w.H) aV ae->∀Y:Exit->Act->World->Prop,(∀A Z I,eI W nn aw (av B w.H) ae Q A Z I->Y A Z I)->wpAny P .any d.toArray Y d.toArray.size (hP d.toArray.size false) aV {ae with drawn:=ae.drawn+1}:=by
 intro aw aV ae bM Y bZ;obtain⟨cd,bd,bi⟩:=LO bb
 let n:=d.length
 let H0:=aX w.H (dx (jH e))
 have ba:∀i,i<=n->∃K,eA (λa=>c3 (a<i)) 0 e H0=aX (gT d e i w).H (dx K)/\(∀o,e[i]?=c5 o->xL o<=K)/\(i=n->K=0):=λi J=>by
  obtain⟨K,x,y,aS⟩:=QS i 0 (m:=0) bb J;rw[e6,e6,e6] at x;exact⟨K,x,y,aS⟩
 have aT:∀i,gN (λa=>c3 (a<i)) 0 d e w.E=(gT d e i w).E:=λi=>by
  have:=Nt i 0 d e w
  rwa [e6] at this
 let Inv:Array Bool->Act->World->Prop:=λbN h u=>bN.size=n/\(∀i j,d[i]?=c5 j->bN.getD i false=true->∀m,m∈iw j.after.toList->bN.getD m false=true)/\
  ∃g,Rel g W (aU B (gN (λa=>bN.getD a false) 0 d e w.E)) (av B (eA (λa=>bN.getD a false) 0 e H0)) h u/\Bml.GStep nn aw (av B w.H) ae g (av B (eA (λa=>bN.getD a false) 0 e H0)) u
 have bU:∀{g:Gh} {N:List aO} {h:Act} {u:World} {a8 bj:En B.D},fI g N u W (aU B a8) h->(∀o,lk bj o=lk a8 o)->fI g N u W (aU B bj) h:=λl A=>⟨l.defers,l.size,λo=>by rw[ep,A o, <-ep];exact l.at_ o⟩
 have bo:∀{bl a4:List (Ob B.D)},(∀i,nth bl i=nth a4 i)->bl=a4:=λl=>p6 λi=>by rw[<-cJ, <-cJ,l i]
 have fin:∀bN h u,Inv bN h u->(∀i,i<n->bN.getD i false=true)->Y .normal h u:=by
  rintro bN h u ⟨V,_,g,U,au⟩ am;have ad:eA (λa=>bN.getD a false) 0 e H0=ap.H:=by
   obtain⟨K,x,_,aS⟩:=ba n (ef _);rw[aS rfl] at x;have:eA (λa=>bN.getD a false) 0 e H0=eA (λa=>c3 (a<n)) 0 e H0:=bo λi=>vT e 0 _ _ rfl (λa o p _=>by
    rw[e6];have:=c9 p;rw[am a (by show a<d.length;omega)];simp;show a<d.length
    omega) rfl
   rw[this,x,bd];simp[dx,bK]
  have aR:∀o,lk ap.E o=lk (gN (λa=>bN.getD a false) 0 d e w.E) o:=λo=>by
   rw[<-bd, <-aT];refine vg d 0 e _ _ (λa j p _=>?_) rfl
   rw[e6];have:=c9 p;rw[am a this];simpa using this
  rw[ad] at U au;exact bZ .normal h u ⟨_,_,g,bE,⟨U.m,bU U.e aR⟩,au⟩
 have bA:∀bN:Array Bool,bN.size=n->pc .any d.toArray bN=[]->∀i,i<n->bN.getD i false=true:=by
  intro bN V X i
  induction i using o7 with
  |_ i aa=>
   intro J;cases F:bN.getD i false with
   |true=>rfl
   |false=>
    exfalso
    have G:d[i]?=c5 d[i]:=c4 J;have:i∈pc .any d.toArray bN:=by
     refine r0.2 ⟨hL.2 (by simpa using J),?_⟩
     have bO:bN.getD i true=false:=by
      have O:i<bN.size:=by omega
      simp[O] at F⊢;exact F
     simp only[bO,Bool.not_false,Bool.true_and,gy,G,l4,qa];rw[Array.all_eq_true];intro q bV;have aP:d[i].after[q]∈d[i].after:=q2 bV;cases b1:m1 .any d[i].after[q] with
     |false=>rfl
     |true=>
      have az:=Ns bL G _ (IG (hX.2 aP) b1);rw[e6] at az;simp[aa _ az (by omega)]
    rw[X] at this;cases this
 have step:∀bN h u i j,Inv bN h u->d[i]?=c5 j->bN.getD i false=false->(∀m,m∈iw j.after.toList->bN.getD m false=true)->∀ag:Act->World->Prop,(∀Z I,Inv (bN.setIfInBounds i true) Z I->ag Z I)->wpOp P d.toArray Y i ag h u:=by
  rintro bN h u i j ⟨V,aI,g,U,au⟩ G ab bk ag b6;have O:=c9 G;obtain⟨o,af,aD⟩:=bi i j G;have a9:∀a s k,d[a]?=c5 k->e[a]?=c5 s->a<i->mm (fG d j o) (fG d k s)=true->bN.getD a false=true:=λa s k p R aE C=>by
   have F:=Jn bc rfl i _ a _ (l2 _) (vZ G af) (vZ p R) aE C;exact U6 aI G bk F
  have be:∀a s k,d[a]?=c5 k->e[a]?=c5 s->i<a->mm (fG d k s) (fG d j o)=true->bN.getD a false=false:=λa s k p R aE C=>by
   have F:=Jn bc rfl a _ i _ (l2 _) (vZ p R) (vZ G af) aE C;cases bH:bN.getD a false with
   |false=>rfl
   |true=>
    have:=I7 aI F bH;rw[this] at ab;cases ab
  have ay:∀{h b:Lg},(∃c,c∈h.wr/\c∈b.rd)\/(∃c,c∈h.wr/\c∈b.wr)\/(∃c,c∈b.wr/\c∈h.rd)\/(∃c,c∈h.wt/\c∈b.rt)\/(∃c,c∈h.wt/\c∈b.wt)\/(∃c,c∈b.wt/\c∈h.rt)->mm h b=true:=λ{h b} l=>by
   unfold mm;rcases l with⟨c,x,y⟩ |⟨c,x,y⟩ |⟨c,x,y⟩ |⟨c,x,y⟩ |⟨c,x,y⟩ |⟨c,x,y⟩
   .rw[tD x y];rfl
   .rw[tD x y];cases meets h.wr b.rd <;> rfl
   .rw[tD x y];cases meets h.wr b.rd <;> cases meets h.wr b.wr <;> rfl
   .rw[tD x y];cases meets h.wr b.rd <;> cases meets h.wr b.wr <;> cases meets b.wr h.rd <;> rfl
   .rw[tD x y];cases meets h.wr b.rd <;> cases meets h.wr b.wr <;> cases meets b.wr h.rd <;> cases meets h.wt b.rt <;> rfl
   .rw[tD x y];cases meets h.wr b.rd <;> cases meets h.wr b.wr <;> cases meets b.wr h.rd <;> cases meets h.wt b.rt <;> cases meets h.wt b.wt <;> rfl
  have ah:∀(k:Oper) (s:Option (cr B.D)) (c:Nat),k.dst=c5 c->c∈(fG d k s).wt:=λk s c r=>by
   cases s <;> simp[fG,rV,xo,yI,r]
  have ai:∀(k:Oper) (s:Option (cr B.D)) (c:Nat),c∈eV (jM s)->c∈(fG d k s).wr:=λk s c r=>by
   cases s with
   |none=>cases r
   |some D=>exact r
  have a1:∀c,c∈(fG d j o).rt\/c∈(fG d j o).wt->∀a k,d[a]?=c5 k->k.dst=c5 c->bN.getD a false=c3 (a<i):=λc r a k p L=>by
   have a3:=c9 p;obtain⟨s,R,_⟩:=bi a k p;rcases q3 a i with l |l |l
   .have C:mm (fG d j o) (fG d k s)=true:=ay (by
     rcases r with r |r
     .exact .inr (.inr (.inr (.inr (.inr ⟨c,ah k s c L,r⟩))))
     .exact .inr (.inr (.inr (.inr (.inl ⟨c,r,ah k s c L⟩)))))
    rw[a9 a s k p R l C];simp[l]
   .subst l;rw[ab];simp
   .have C:mm (fG d k s) (fG d j o)=true:=ay (by
     rcases r with r |r
     .exact .inr (.inr (.inr (.inl ⟨c,ah k s c L,r⟩)))
     .exact .inr (.inr (.inr (.inr (.inl ⟨c,ah k s c L,r⟩)))))
    rw[be a s k p R l C];simp;omega
  have bf:∀c,c∈(fG d j o).rd\/c∈(fG d j o).wr->∀a s,e[a]?=c5 s->c∈eV (jM s)->bN.getD a false=c3 (a<i):=λc r a s R T=>by
   have a3:a<d.length:=by have:=c9 R;omega
   have p:d[a]?=c5 d[a]:=c4 a3;rcases q3 a i with l |l |l
   .have C:mm (fG d j o) (fG d d[a] s)=true:=ay (by
     rcases r with r |r
     .exact .inr (.inr (.inl ⟨c,ai _ s c T,r⟩))
     .exact .inr (.inl ⟨c,r,ai _ s c T⟩))
    rw[a9 a s _ p R l C];simp[l]
   .subst l;rw[ab];simp
   .have C:mm (fG d d[a] s) (fG d j o)=true:=ay (by
     rcases r with r |r
     .exact .inl ⟨c,ai _ s c T,r⟩
     .exact .inr (.inl ⟨c,ai _ s c T,r⟩))
    rw[be a s _ p R l C];simp;omega
  have aQ:∀c,c∈(fG d j o).rt\/c∈(fG d j o).wt->lk (gN (λa=>bN.getD a false) 0 d e w.E) c=lk (gT d e i w).E c:=λc r=>by
   rw[<-aT];exact vg d 0 e _ _ (λa k p L=>by rw[e6];exact a1 c r a k p L) rfl
  obtain⟨K,aB,b4,_⟩:=ba i (Nat.le_of_lt O);have a5:∀c,c∈(fG d j o).rd\/c∈(fG d j o).wr->nth (eA (λa=>bN.getD a false) 0 e H0) c=nth (aX (gT d e i w).H (dx K)) c:=λc r=>by
   rw[<-aB];exact vT e 0 _ _ rfl (λa s p T=>by rw[e6];exact bf c r a s p T) rfl
  have ao:∀a,(bN.setIfInBounds i true).getD a false=if a=i then true else bN.getD a false:=λa=>by
   by_cases A:a=i
   .subst A;have:a<bN.size:=by omega
    simp[this]
   .simp[A,km (Ne.symm A)]
  have bs:∀z ok,d[z]?=c5 ok->(bN.setIfInBounds i true).getD z false=true->∀m,m∈iw ok.after.toList->(bN.setIfInBounds i true).getD m false=true:=λz ok ar x m bn=>by
   rw[ao] at x⊢
   split
   .rfl
   .by_cases A:z=i
    .subst A;rw[G] at ar;injection ar with ar
     subst ar;exact bk m bn
    .rw[if_neg A] at x;exact aI z ok ar x m bn
  have bt:=RW (S:=w) G af;have b0:∀c,lk (gN (λa=>(bN.setIfInBounds i true).getD a false) 0 d e w.E) c=if j.dst=c5 c then wq o else lk (gN (λa=>bN.getD a false) 0 d e w.E) c:=λc=>by
   by_cases L:j.dst=c5 c
   .rw[if_pos L];have:lk (gN (λa=>(bN.setIfInBounds i true).getD a false) 0 d e w.E) c=lk (gN (λa=>c3 (a<i+1)) 0 d e w.E) c:=vg d 0 e _ _ (λa k p aM=>by
     rw[e6,ao]
     by_cases A:a=i
     .rw[if_pos A];simp;omega
     .rw[if_neg A,a1 c (.inr (ah j o c L)) a k p aM]
      by_cases l:a<i
      .simp[l];omega
      .have y:¬a<i+1:=by omega
       simp[l,y]) rfl
    rw[this,aT,bt,Td,td,if_pos L]
   .rw[if_neg L];refine vg d 0 e _ _ (λa k p aM=>?_) rfl
    rw[e6,ao,if_neg];rintro rfl;rw[G] at p;injection p with p
    subst p;exact L aM
  have aP:eA (λa=>(bN.setIfInBounds i true).getD a false) 0 e H0=b8 (eA (λa=>bN.getD a false) 0 e H0) (jM o):=bo λc=>by
   by_cases r:c∈eV (jM o)
   .have bm:c∈(fG d j o).wr:=ai j o c r;have ad:nth (eA (λa=>(bN.setIfInBounds i true).getD a false) 0 e H0) c=nth (eA (λa=>c3 (a<i+1)) 0 e H0) c:=vT e 0 _ _ rfl (λa s p T=>by
     rw[e6,ao]
     by_cases A:a=i
     .rw[if_pos A];simp;omega
     .rw[if_neg A,bf c (.inr bm) a s p T]
      by_cases l:a<i
      .simp[l];omega
      .have y:¬a<i+1:=by omega
       simp[l,y]) rfl
    have aR:nth (eA (λa=>c3 (a<i+1)) 0 e H0) c=nth (b8 (eA (λa=>c3 (a<i)) 0 e H0) (jM o)) c:=by
     have bq:∀(e:List (Option (cr B.D))) (z i:Nat) (N:List (Ob B.D)) (o:Option (cr B.D)),e[i]?=c5 o->eA (λa=>c3 (a<z+i+1)) z e N=b8 (eA (λa=>c3 (a<z+i)) z e N) (jM o):=λe=>by
      induction e with
      |nil=>intro z i N o l;simp at l
      |cons t e aa=>
       intro z i N o l;cases i with
       |zero=>
        simp at l;subst l;simp only[eA];rw[if_pos (by simp),if_neg (by simp),vP e (z+1) _ λa p=>by simp;omega,vP e (z+1) _ λa p=>by simp;omega]
       |succ i=>
        simp only[eA];rw[if_pos (by simp;omega),if_pos (by simp)];have:=aa (z+1) i (b8 N (jM t)) o (by simpa using l);rw[show z+1+i+1=z+(i+1)+1 by omega,show z+1+i=z+(i+1) by omega] at this;exact this
     have:=bq e 0 i H0 o af;rw[e6] at this;rw[this]
    rw[ad,aR];exact Fu (by rw[xq,xq]) (by rw[a5 c (.inr bm),aB])
   .rw[Fk λj aN=>r (O2 aN)];refine vT e 0 _ _ rfl (λa s p T=>?_) rfl
    rw[e6,ao,if_neg];rintro rfl;rw[af] at p;injection p with p
    subst p;exact r T
  have b5:fL W j.dst=true:=bX j (ej G);have done:∀(ac:Gh) (c:Value) (I:World),bF ac (av B (b8 (eA (λa=>bN.getD a false) 0 e H0) (jM o))) I->VR ac (av B (b8 (eA (λa=>bN.getD a false) 0 e H0) (jM o))) I (pv B (wq o)) c->
   Bml.GStep (av B (eA (λa=>bN.getD a false) 0 e H0)).length g (av B (eA (λa=>bN.getD a false) 0 e H0)) u ac (av B (b8 (eA (λa=>bN.getD a false) 0 e H0) (jM o))) I->ag (h.put j.dst c) I:=λac c I aA aG al=>by
   have X:=(U.e.step al).tn b5 aG;rw[<-aP] at aA al X;refine b6 _ _ ⟨by simpa using V,bs,ac,⟨aA,⟨X.defers,X.size,λc=>?_⟩⟩,au.trans al.every⟩
   rw[ep,b0 c];have:=X.at_ c;rw[<-sx,ep,td] at this;exact this
  have bx:∀D,o=c5 D->j.wp P h u ag Y:=λD br=>by
   subst br;obtain⟨_,bS,bP,bC⟩:=aD;have bR:Ag j.op (aX D.rd (eV D.wr)) (gT d e i w).E (gN (λa=>bN.getD a false) 0 d e w.E) (aX (gT d e i w).H (dx D.nw)) (eA (λa=>bN.getD a false) 0 e H0):=by
    have ce:D.nw<=K:=b4 _ af;refine⟨λc r=>?_,λc r=>?_,?_⟩
    .cases c with
     |tmp t=>
      refine aQ t (.inl ?_)
      show t∈aX (sZ d j) (tmpsOf j.op.operands.toList)
      rw[bK,c6];exact .inr (LD (hX.2 r))
     |const v=>rfl
     |global b=>rfl
     |func f=>rfl
    .rw[bK,c6] at r;have az:c<(gT d e i w).H.length+D.nw:=by
      rcases r with r |r
      .have:=bC c r;omega
      .obtain⟨bT,ca⟩:=Vc r;exact(bP c bT ca).1
     rw[a5 c r,show K=D.nw+(K -D.nw) by omega,MM,show aX (gT d e i w).H (aX (dx D.nw) (dx (K -D.nw)))=aX (aX (gT d e i w).H (dx D.nw)) (dx (K -D.nw)) by simp[bK]];rw[cJ,cJ,bK,dt];rw[bK,e5,qV];exact az
    .have ad:=congrArg List.length aB;rw[xq,bK,e5,qV] at ad;rw[xq,bK,e5,qV,ad];omega
   have bJ:=bS j.dst j.type j.pos j.after _ _ bR;refine bJ g W h u U ag Y ?_
   rintro c I ac cc cb ⟨rfl,rfl⟩ aG aA al;exact done ac c I aA aG al
  have bp:∀a E k t,j.guard=c5 (a,E)->nth d a=c5 k->k.dst=c5 t->t∈(fG d j o).rt:=λa E k t H p M=>by
   have:t∈sZ d j:=by simp[sZ,H,p,yI,M]
   cases o with
   |none=>exact this
   |some D=>
    show t∈aX (sZ d j) _
    rw[bK,c6];exact .inl this
  have bv:∀(g:Gh) (N:List aO) (u:World),VR g N u (.bu []) undef:=λg N u=>.aW (.bu [] [] rfl (by simp))
  have bh:∀a E k t b,j.guard=c5 (a,E)->nth d a=c5 k->k.dst=c5 t->lk (gT d e i w).E t= .bool b->yielded d.toArray h.tmps a=c5 b:=λa E k t b H p M F=>by
   have aj:=U.e.at_ t;rw[ep,aQ t (.inl (bp a E k t H p M)),F] at aj;have aH:=aj.n5;unfold yielded;rw[gy, <-cJ,p];simp only[my,M];rcases hI t h.tmps.size with aq |aJ
   .simp[aq] at aH;simp[aq,aH]
   .simp[j4 aJ,undef] at aH
  have bB:∀a E k t,j.guard=c5 (a,E)->nth d a=c5 k->k.dst=c5 t->lk (gT d e i w).E t= .bu []->yielded d.toArray h.tmps a=ea:=λa E k t H p M F=>by
   have aj:=U.e.at_ t;rw[ep,aQ t (.inl (bp a E k t H p M)),F] at aj;obtain⟨an,a6,b7,_⟩:=VR.Db aj;have bQ:an=[]:=dT (by rw[<-b7];rfl);subst bQ;unfold yielded;rw[gy, <-cJ,p];simp only[my,M];rcases hI t h.tmps.size with aq |aJ
   .simp[aq] at a6;simp[aq,a6]
   .simp[j4 aJ]
  have bY:Bml.GStep (av B (eA (λa=>bN.getD a false) 0 e H0)).length g (av B (eA (λa=>bN.getD a false) 0 e H0)) u g (av B (eA (λa=>bN.getD a false) 0 e H0)) u:=Bml.GStep.refl _ _ _ _;unfold wpOp;rw[gy,G];simp only;cases o with
  |some D=>
   have aF:k7 j (yielded d.toArray h.tmps)=true:=by
    rcases aD.1 with H |⟨a,E,k,t,H,p,M,F⟩
    .simp[k7,H]
    .simp[k7,H,bh a E k t E H p M F]
   rw[aF];exact .inl (bx D rfl)
  |none=>
   obtain⟨a,E,k,t,H,p,M,C⟩:=aD;have aF:k7 j (yielded d.toArray h.tmps)=false:=by
    rcases C with C |⟨b,F,aK⟩
    .simp[k7,H,bB a E k t H p M C]
    .simp[k7,H,bh a E k t b H p M F,aK]
   rw[aF];simp only[Bool.false_eq_true,if_false];exact done g undef u U.m (bv _ _ _) bY
 have bz:∀(ak:Nat) (bN:Array Bool) (h:Act) (u:World),Inv bN h u->(gv n).countP (λa=>bN.getD a false)+ak=n->wpAny P .any d.toArray Y ak bN h u:=by
  intro ak
  induction ak with
  |zero=>
   intro bN h u J C;have am:∀i,i<n->bN.getD i false=true:=λi O=>by
    have b3:(gv n).countP (λa=>bN.getD a false)=(gv n).length:=by rw[List.length_range];omega
    exact List.countP_eq_length.1 b3 i (hL.2 O)
   refine⟨?_,fin bN h u J am⟩
   unfold pc;refine List.filter_eq_nil_iff.2 λi aL=>?_
   have O:i<n:=by simpa using aL
   have aY:=am i O;have:bN.getD i true=true:=by
    have V:i<bN.size:=by have:=J.1;omega
    simp[V] at aY⊢;exact aY
   simp[this]
  |succ ak aa=>
   intro bN h u J C;refine⟨λX=>fin bN h u J (bA bN J.1 X),λi bI=>?_⟩
   have aZ:=r0.1 bI;have O:i<n:=by simpa using aZ.1
   have G:d[i]?=c5 d[i]:=c4 O;have aC:=aZ.2;simp only[gy,G,l4,qa,j2,Bool.not_eq_true'] at aC;have ab:bN.getD i false=false:=by
    have x:=aC.1;have V:i<bN.size:=by have:=J.1;omega
    simp[V] at x⊢;exact x
   refine step bN h u i d[i] J G ab (λm b2=>?_) _ (λZ I aL=>aa _ Z I aL ?_)
   .obtain⟨A,bW,F,rfl⟩:=G3 b2;have y:=Array.all_eq_true'.1 aC.2 A (hX.1 bW);simpa[F] using y
   .have:(gv n).countP (λa=>(bN.setIfInBounds i true).getD a false)=(gv n).countP (λa=>bN.getD a false)+1:=by
     refine countP_set O ab ?_ λa p aK=>?_
     .have V:i<bN.size:=by have:=J.1;omega
      simp[V]
     .simp[km (Ne.symm aK)]
    omega
 obtain⟨bD,x,a2⟩:=G6 (B:=B) (n:=nn) (jH e) bM;rw[<-Mc] at x a2;obtain⟨a7,bw⟩:=Ez (m:=(av B (aX w.H (dx (jH e)))).length) x.m;have ax:∀a,(hP d.toArray.size false).getD a false=false:=λa=>by
  rcases hI a d.length with l |l
  .simp[l]
  .simp[j4,l]
 have b9:gN (λa=>(hP d.toArray.size false).getD a false) 0 d e w.E=w.E:=IR _ _ _ _ λa _=>ax a
 have a0:eA (λa=>(hP d.toArray.size false).getD a false) 0 e H0=H0:=vP _ _ _ λa _=>ax a
 refine bz _ _ _ _ ⟨by simp[n],λi j J l=>?_,bD,?_,?_⟩ ?_
 .rw[ax] at l;cases l
 .rw[b9,a0];exact⟨bw,x.e.step a7⟩
 .rw[a0];exact a2.trans a7.every
 .have:(gv n).countP (λa=>(hP d.toArray.size false).getD a false)=0:=by
   rw[List.countP_eq_zero];intro a _;rw[ax];simp
  rw[this];simp[n]
where
 LD {t:Nat}:∀{an:List Operand},Operand.tmp t∈an->t∈tmpsOf an
  |c::an,l=>by
   rcases dd.1 l with rfl |l
   .simp[tmpsOf]
   .have:=LD l;cases c <;> simp[tmpsOf,this]
  |[],l=>by cases l
 Vc {α:Type} {d:List (Nat×α)} {i:Nat} (l:i∈eV d):∃j,(i,j)∈d:=by
  induction d with
  |nil=>cases l
  |cons h d aa=>
   rcases dd.1 l with rfl |l
   .exact⟨h.2,by simp⟩
   .obtain⟨j,aN⟩:=aa l;exact⟨j,c7 _ aN⟩
def abH{d nn id:Nat}{a:List Oper}{Q:fE}{b c:St B.D}{f:List (Option (cr B.D))}(k:P.follows .mixedOrders=true)(g:l6 P B a a b f c)(m:m7 0 a=true)(o:n4 a [] 0 (mF a a f)=true)
 (r:∀e,e∈a->fL d e.dst=true) (i:Q .normal (aU B c.E) (av B c.H)):eT P d nn (.region id a.toArray true) Q (aU B b.E) (av B b.H):=λq l n p j h=>wp_region_any k (LB g m o r i q l n p j h)
end
end Go.X
namespace Go.Bml
open Go
def LW(P:Program)(c:Code)(Q:Exit->Act->World->Prop)(a:Act)(w:World):Prop:=
 ∀b f d,∃g h e,Q g h e/\Arrives P (lone (b.at a (.code c:: .inLoop c::f)) d w) b f d g h e
section
variable {P:Program}{Q:Exit->Act->World->Prop}{a:Act}{w:World}{c:Code}
def UU(k:LW P c Q a w):(Code.loop c).wp P Q a w:=by
 intro b g e;obtain⟨i,j,f,d,h⟩:=k b g e;exact⟨i,j,f,d,.of_steps (.one step_loop) h⟩
def NU(q:c.wp P (Exit.then (LW P c Q) Q) a w):LW P c Q a w:=by
 intro b i h;obtain⟨p,g,f,d,e⟩:=q b (.inLoop c::i) h;cases p with
 |normal=>
  obtain⟨l,j,o,m,k⟩:=d b i h;exact⟨l,j,o,m,.of_steps (Steps.trans e (.one step_inLoop)) k⟩
 |exit r=>exact⟨_,g,f,d,.pass (x:=.inLoop c) rfl (λ_ _=>.inl (by simp)) e⟩
 |goto s=>exact⟨_,g,f,d,.pass (x:=.inLoop c) rfl (λ_ _=>.inl (by simp)) e⟩
 |ret=>exact⟨_,g,f,d,.pass (x:=.inLoop c) rfl (λ_ _=>.inl (by simp)) e⟩
 |panic t=>exact⟨_,g,f,d,.pass (x:=.inLoop c) rfl (λ_ _=>.inl (by simp)) e⟩
 |outgrown=>exact⟨_,g,f,d,.pass (x:=.inLoop c) rfl (λ_ _=>.inl (by simp)) e⟩
def ad3(f:Nat->Act->World->Prop)(round:∀n a w,f n a w->c.wp P (Exit.then (λg e=>∃d,d<n/\f d g e) Q) a w):∀n a w,f n a w->LW P c Q a w:=by
 intro n
 induction n using o7 with
 |_ n k=>
  intro a w i;refine NU (Code.wp_mono (λl g e b=>?_) (round n a w i))
  cases l with
  |normal=>
   obtain⟨d,j,h⟩:=b;exact k d j g e h
  |exit m=>exact b
  |goto o=>exact b
  |ret=>exact b
  |panic p=>exact b
  |outgrown=>exact b
end
section
variable {P:Program}{nt n:Nat}{Q:fE}{E:Env}{H:List aO}
def oE(P:Program)(nt n:Nat)(c:Code)(Q:fE)(E:Env)(H:List aO):Prop:=
 ∀g a w,Rel g nt E H a w->∀f:Exit->Act->World->Prop,(∀b e d,eI nt n g H w Q b e d->f b e d)->LW P c f a w
def Pz{c:Code}(f:oE P nt n c Q E H):eT P nt n (.loop c) Q E H:=λg a w d e b=>UU (f g a w d e b)
def oE.mono{c:Code}{j:fE}(h:oE P nt n c Q E H)(l:∀e E H,Q e E H->j e E H):oE P nt n c j E H:=λg a w s o k=>h g a w s o λe t m d=>k e t m (by cases e <;> first |exact iX.mono (l _) d |exact d)
def aiK{c:Code}(m:eT P nt n c (Ce (oE P nt n c Q) Q) E H):oE P nt n c Q E H:=by
 intro g a w r j d;refine NU (m g a w r _ ?_)
 intro e o q b;cases e with
 |normal=>
  obtain⟨v,u,s,f,k,p⟩:=b;exact f s o q k j λe l i h=>d e l i (eI.trans p h)
 |exit x=>exact d _ _ _ b
 |goto t=>exact d _ _ _ b
 |ret=>exact d _ _ _ b
 |panic c=>exact b.elim
 |outgrown=>exact b.elim
def QG{α:Type}{c:Code}(i:α->qk)(f:α->Nat)(m:α)(h0:i m E H)
 (round:∀b E H,i b E H->eT P nt n c (Ce (λo k=>∃h,f h<f b/\i h o k) Q) E H):oE P nt n c Q E H:=by
 intro g a w F I p;refine ad3 (λr l q=>∃b,f b=r/\iX nt n g H w (i b) l q) ?_ (f m) a w ⟨m,rfl,E,H,g,h0,F,GStep.refl _ _ _ _⟩
 rintro r l q ⟨b,rfl,o,k,x,A,t,j⟩;refine round b o k A x l q t _ ?_
 intro e J K d;cases e with
 |normal=>
  obtain⟨B,y,G,⟨h,z,u⟩,v,D⟩:=d;exact⟨f h,z,h,rfl,B,y,G,u,v,j.trans D⟩
 |exit C=>exact p _ _ _ (eI.trans (Q:=Q) (e:=.exit C) j d)
 |goto s=>exact p _ _ _ (eI.trans (Q:=Q) (e:=.goto s) j d)
 |ret=>exact p _ _ _ (eI.trans (Q:=Q) (e:=.ret) j d)
 |panic c=>exact d.elim
 |outgrown=>exact d.elim
end
end Go.Bml
namespace Go.X
open Go Go.Aml Go.Bml
def Tl{P:Program}{c d:Nat}{r:Code}{l n:fE}{s:Env}{k:List aO}(o:eT P c d r l s k)
 (y:∀a q m g i b,l a q m->Rel g c q m i b->∃h H2 f,n a h H2/\Rel f c h H2 i b/\Bml.GStep d g m b f H2 b):eT P c d r n s k:=by
 intro g i b G A F;refine o g i b G A λa e j p=>F a e j ?_
 have w:∀a,iX c d g k b (l a) e j->iX c d g k b (n a) e j:=λa o=>by
  obtain⟨v,H1,x,D,u,C⟩:=o;obtain⟨h,H2,f,E,z,t⟩:=y a v H1 x e j D u;exact⟨h,H2,f,E,z,C.trans t⟩
 cases a <;> first |exact w _ p |exact p
def Tc{f j:Nat->Nat->Prop}(h:∀r v,f r v->j r v){k:PV}(l:Wf f k):Wf j k:=by
 induction l with
 |any=>exact .any
 |bool b=>exact .bool b
 |int n o=>exact .int n o
 |str u=>exact .str u
 |fS=>exact .fS
 |bg=>exact .bg
 |z0=>exact .z0
 |dB=>exact .dB
 |dw a e=>exact .dw a e
 |vs s m=>exact .vs s m
 |ptr r v i e c=>exact .ptr r v i e (h _ _ c)
 |sl r v t len c=>exact .sl r v t len (h _ _ c)
 |fl r v c=>exact .fl r v (h _ _ c)
 |agg a _ d=>exact .agg a d
 |bu a _ d=>exact .bu a d
 |fn g a p _ _ d q=>exact .fn g a p d q
section
variable {P:Program}{B:Tb}
def Q8{n:Nat}{g:Gh}{c:St B.D}{u:Act}{t:World}(k:Rel g n (aU B c.E) (av B c.H) u t):Cz B c:=by
 have conv:∀r v,(∃d,(av B c.H)[r]?=c5 d/\v<=d.aF)->F0 c.H r v:=λr v ⟨d,h,e⟩=>by
  obtain⟨l,a,rfl⟩:=oU h;exact⟨l,a,by rwa [e7] at e⟩
 refine⟨λx=>?_,λq d i p s h f=>?_⟩
 .have:=(k.e.at_ x).wf;rw[ep] at this;exact Tc conv this
 .have a:=(k.m.obj q _ (df h)).mem;cases j:g.β q with
  |none=>
   rw[j] at a;rw[a] at f;obtain⟨z,w,_⟩:=gw f;simp at w
  |some m=>
   obtain⟨b,A⟩:=m;rw[j] at a;obtain⟨_,cells,_,_,_,_,o⟩:=a;obtain⟨y,_,_,e⟩:=o i p s f;exact Tc conv e.wf
def DH(y:cU P B){m:Type}{r:m}{k i:Nat}{a d:St B.D}{b:List Nat}{p:lD}{j:bi B.D p.bX->Option m}(s:Ext b a d)(v:i<=a.H.length)(q:Cz B a)(x:nW B i a b p d j=c5 r){g:Gh}{l:Act}{f:World}(h:Rel g k (aU B d.E) (av B d.H) l f):
 ∃c,j c=c5 r/\Ext b a (ik B a b p c)/\∃e,Rel e k (aU B (ik B a b p c).E) (av B (ik B a b p c).H) l f/\Bml.GStep i g (av B d.H) f e (av B (ik B a b p c).H) f:=by
 obtain⟨c,w,o,e,u,z,t⟩:=UJ y s v q x h.m;exact⟨c,w,o,e,⟨u,h.e.defers,h.e.size,λn=>by
  rw[ep];refine t n _ ?_
  have:=h.e.at_ n
  rwa [ep] at this⟩,z⟩
def Ends{g:Type}(B:Tb)(f:Nat->St B.D->Option g)(r:g)(e:St B.D)(d:List Nat):fE
 | .normal=>λc b=>∃a,Ext d e a/\f 0 a=c5 r/\c=aU B a.E/\b=av B a.H
 | .ret=>λc b=>∃a,Ext d e a/\f 1 a=c5 r/\c=aU B a.E/\b=av B a.H
 | .exit h=>λc b=>∃a,Ext d e a/\f (h+2) a=c5 r/\c=aU B a.E/\b=av B a.H
 |_=>λ_ _=>False
def Aa(w:cU P B){D:Type}{r:D}{z x:Nat}{d h:St B.D}{n:List Nat}(t:Ext n d h)(u:x<=d.H.length)(s:Cz B d){g:Gh}{C:Act}{o:World}(y:Rel g z (aU B h.E) (av B h.H) C o):
 ∀{os:List (Nat×lD)} {c:Nat} {k:qM B os->Option D},inj B x d n os c h k=c5 r->
  ∃m b,k m=c5 r/\Ext n d b/\(∀{H:Type} (e:Nat->St B.D->Option H),out B d n os m e=e c b)/\∃A,Rel A z (aU B b.E) (av B b.H) C o/\Bml.GStep x g (av B h.H) o A (av B b.H) o
 |[],c,k,a=>by simp[inj] at a
 |[p],c,k,a=>by
  simp only[inj] at a;obtain⟨l,F⟩:=a8 a;clear a;obtain rfl:=beq_eq l;obtain⟨v,j,f,i⟩:=DH w t u s F y;exact⟨v,_,j,f,λe=>rfl,i⟩
 |p::q::E,c,k,a=>by
  simp only[inj] at a;cases l:fe p.1 c with
  |true=>
   rw[l] at a;obtain rfl:=beq_eq l;obtain⟨v,j,f,i⟩:=DH w t u s a y;exact⟨.inl v,_,j,f,λe=>rfl,i⟩
  |false=>
   rw[l] at a;obtain⟨m,b,j,f,i,I⟩:=Aa w t u s y (os:=q::E) (k:=λG=>k (.inr G)) a;exact⟨.inr m,b,j,f,λe=>i e,I⟩
def Bv(X:cU P B){D:Type}{r:D}{v q:Nat}{e:Code}{V:Hn}{b:St B.D}{t:Nat->St B.D->Option D}{E:{s:Type}->(Nat->St B.D->Option s)->Option s}(Q:q<=b.H.length)(u:join B q b e V t E=c5 r)
 (F:∀{s:Type} (C:Nat->St B.D->Option s) (A:s),E C=c5 A->eT P v q e (Ends B C A b (cQ e [])) (aU B b.E) (av B b.H)):eT P v q e (Ends B t r b (cQ e [])) (aU B b.E) (av B b.H):=by
 unfold join at u
 split at u
 .exact F t r u
 .rename_i p H Z;obtain⟨z,R,I⟩:=ei.1 u;intro K S T G;have J:=Q8 G;refine Tl (F _ z R) ?_ K S T G
  intro N M y g U x o L;have fin:∀w c,Ext (cQ e []) b c->inj B q b (cQ e []) (p::H) w c c5=c5 z->M=aU B c.E->y=av B c.H->∃a f,(Ext (cQ e []) b a/\t w a=c5 r)/\Rel f v (aU B a.E) (av B a.H) U x/\Bml.GStep q g y x f (av B a.H) x:=λw c i m k n=>by
   subst k;subst n;obtain⟨aa,a,d,j,h,O,l,Y⟩:=Aa X i Q J L m;injection d with d
   subst d;exact⟨a,O,⟨j,by rw[<-h t];exact I⟩,l,Y⟩
  cases N with
  |normal=>
   obtain⟨c,i,m,k,n⟩:=o;obtain⟨a,f,⟨d,j⟩,h,l⟩:=fin 0 c i m k n;exact⟨_,_,f,⟨a,d,j,rfl,rfl⟩,h,l⟩
  |ret=>
   obtain⟨c,i,m,k,n⟩:=o;obtain⟨a,f,⟨d,j⟩,h,l⟩:=fin 1 c i m k n;exact⟨_,_,f,⟨a,d,j,rfl,rfl⟩,h,l⟩
  |exit W=>
   obtain⟨c,i,m,k,n⟩:=o;obtain⟨a,f,⟨d,j⟩,h,l⟩:=fin (W+2) c i m k n;exact⟨_,_,f,⟨a,d,j,rfl,rfl⟩,h,l⟩
  |goto _=>exact o.elim
  |panic _=>exact o.elim
  |outgrown=>exact o.elim
def Ends.mono{A u:Type}{C:Nat->St B.D->Option A}{s:Nat->St B.D->Option u}{r:A}{D:u}{y x:St B.D}{w n:List Nat}(o:Ext n x y)(l:∀t,t∈w->t∈n){e:Exit}{E:Env}{H:List aO}(m:∀e a,C e a=c5 r->s e a=c5 D)(h:Ends B C r y w e E H):Ends B s D x n e E H:=by
 cases e with
 |normal=>obtain⟨a,j,d,c,k⟩:=h;exact⟨a,o.trans (j.more l),m _ _ d,c,k⟩
 |ret=>obtain⟨a,j,d,c,k⟩:=h;exact⟨a,o.trans (j.more l),m _ _ d,c,k⟩
 |exit F=>obtain⟨a,j,d,c,k⟩:=h;exact⟨a,o.trans (j.more l),m _ _ d,c,k⟩
 |goto _=>exact h.elim
 |panic _=>exact h.elim
 |outgrown=>exact h.elim
def Bh{h:Nat}:∀(f:List Oper) (e:List Nat),h∈tI f e↔(∃g,g∈f/\g.dst=c5 h)\/h∈e
 |[],e=>by simp[tI]
 |g::f,e=>by
  simp only[tI];cases i:g.dst with
  |none=>
   simp only[Bh f e,dd]
   constructor
   .rintro(⟨c,b,a⟩ |d)
    .exact .inl ⟨c,.inr b,a⟩
    .exact .inr d
   .rintro(⟨c,rfl |b,a⟩ |d)
    .rw[i] at a;cases a
    .exact .inl ⟨c,b,a⟩
    .exact .inr d
  |some j=>
   simp only[dd,Bh f e]
   constructor
   .rintro(rfl |⟨c,b,a⟩ |d)
    .exact .inl ⟨g,.inl rfl,i⟩
    .exact .inl ⟨c,.inr b,a⟩
    .exact .inr d
   .rintro(⟨c,rfl |b,a⟩ |d)
    .rw[i] at a;injection a with a;exact .inl a.symm
    .exact .inr (.inl ⟨c,b,a⟩)
    .exact .inr (.inr d)
def lV{d:Nat}:∀(e:Code) (a:List Nat),d∈cQ e a↔d∈cQ e []\/d∈a
 | .region _ f _,a=>by simp[cQ,Bh]
 | .seq c b,a=>by
  simp only[cQ];rw[lV c (cQ b a),lV b a,lV c (cQ b [])];simp only[or_assoc]
 | .cond _ c b,a=>by
  simp only[cQ];rw[lV c (cQ b a),lV b a,lV c (cQ b [])];simp only[or_assoc]
 | .block _ c,a=>lV c a
 | .loop c,a=>lV c a
 | .skip,a=>by simp[cQ]
 | .rangeFunc ..,a=>by simp[cQ]
 | .exit _,a=>by simp[cQ]
 | .scope _,a=>by simp[cQ]
 | .label _,a=>by simp[cQ]
 | .goto _,a=>by simp[cQ]
 | .ret,a=>by simp[cQ]
 | .refuse _,a=>by simp[cQ]
def PR{d:Nat}:∀{c:List Oper},Ej d c=true->∀b,b∈c->fL d b.dst=true
 |h::c,g,b,a=>by
  obtain⟨f,e⟩:=fu g;rcases dd.1 a with rfl |a
  .exact f
  .exact PR e b a
 |[],_,b,a=>by cases a
def gO(I:P.follows .mixedOrders=true)(o:cU P B){N:Lp}{Y:List (aq B)}(H:∀A,A∈Y->Fits P B A){F n:Nat}{D:List (Nat×Hn)}:
 ∀(A:Code) (p:Nat) {R:Type} (m:Nat->St B.D->Option R) (a:St B.D) (r:R),exec N B P Y n D A p m a=c5 r->gB F A=true->n<=a.H.length->eT P F n A (Ends B m r a (cQ A [])) (aU B a.E) (av B a.H)
 | .skip,p,R,m,a,r,c,_,_=>amF ⟨a,.refl _ _,c,rfl,rfl⟩
 | .ret,p,R,m,a,r,c,_,_=>apz ⟨a,.refl _ _,c,rfl,rfl⟩
 | .exit id,p,R,m,a,r,c,_,_=>V4 ⟨a,.refl _ _,c,rfl,rfl⟩
 | .label aY,p,R,m,a,r,c,_,_=>agH ⟨a,.refl _ _,c,rfl,rfl⟩
 | .region id U aA,p,R,m,a,r,c,t,j=>by
  refine Bv o j c λ{ax} u x z=>?_
  obtain⟨a5,i,ap,k⟩:=qg o H z;have aE:=PR (show Ej F U.toList=true from t);have l:Ext (cQ (.region id U aA) []) a i:=Pe ap λw aP a3 t=>(Bh U.toList []).2 (.inl ⟨w,aP,t⟩)
  rw[ft] at k;cases aA with
  |true=>
   obtain⟨ak,k⟩:=a8 k;obtain⟨af,k⟩:=a8 k;rw[J8,ft,List.reverse_reverse] at af;have:=abH (nn:=n) (id:=id) (Q:=Ends B u x a (cQ (.region id U true) [])) I ap ak af aE ⟨i,l,k,rfl,rfl⟩
   rwa [hU] at this
  |false=>
   have:=Lc (id:=id) (yW (n:=n) (Q:=Ends B u x a (cQ (.region id U false) [])) ap aE ⟨i,l,k,rfl,rfl⟩)
   rwa [hU] at this
 | .seq d b,p,R,m,a,r,c,t,j=>by
  refine Bv o j c λ{ax} u x z=>?_
  obtain⟨aw,au⟩:=fu (show(bif gB F d then gB F b else false)=true from t);have M:=gO I o H d (2*p) _ a x z aw j;refine rN (M.mono λh C E e=>?_)
  have V:∀s,s∈cQ d []->s∈cQ (.seq d b) []:=λs L=>(lV d (cQ b [])).2 (.inl L)
  have an:∀s,s∈cQ b []->s∈cQ (.seq d b) []:=λs L=>(lV d (cQ b [])).2 (.inr L)
  cases h with
  |normal=>
   obtain⟨i,l,k,rfl,rfl⟩:=e;have ad:=gO I o H b (2*p+1) u i x k au (la j l.len);exact ad.mono λh C E e=>e.mono (l.more V) an λ_ _ c=>c
  |ret=>obtain⟨i,l,k,O,S⟩:=e;exact⟨i,l.more V,k,O,S⟩
  |exit id=>obtain⟨i,l,k,O,S⟩:=e;exact⟨i,l.more V,k,O,S⟩
  |goto _=>exact e.elim
  |panic _=>exact e.elim
  |outgrown=>exact e.elim
 | .cond A d b,p,R,m,a,r,c,t,j=>by
  refine Bv o j c λ{ax} u x z=>?_
  obtain⟨aw,au⟩:=fu (show(bif gB F d then gB F b else false)=true from t);have V:∀s,s∈cQ d []->s∈cQ (.cond A d b) []:=λs L=>(lV d (cQ b [])).2 (.inl L)
  have an:∀s,s∈cQ b []->s∈cQ (.cond A d b) []:=λs L=>(lV d (cQ b [])).2 (.inr L)
  split at z
  .rename_i a1 aL;refine adk (by rw[Bw,aL];rfl) (λh=>?_) (λh=>?_)
   .subst h;exact(gO I o H d (2*p) u a x z aw j).mono λh C E e=>e.mono (.refl _ _) V λ_ _ c=>c
   .subst h;exact(gO I o H b (2*p+1) u a x z au j).mono λh C E e=>e.mono (.refl _ _) an λ_ _ c=>c
  .cases z
 | .block id d,p,R,m,a,r,c,t,j=>by
  refine Bv o j c λ{ax} u x z=>?_
  have M:=gO I o H d (2*p) _ a x z t j;refine Ta (M.mono λh C E e=>?_)
  cases h with
  |normal=>exact e
  |ret=>exact e
  |exit ae=>
   obtain⟨i,l,k,O,S⟩:=e;show(EY id _) (.exit ae) C E
   simp only[EY];have ah:(bif fe ae id then u 0 i else u (ae+2) i)=c5 x:=k;cases ad:fe ae id with
   |true=>rw[ad] at ah;exact⟨i,l,ah,O,S⟩
   |false=>rw[ad] at ah;exact⟨i,l,ah,O,S⟩
  |goto _=>exact e.elim
  |panic _=>exact e.elim
  |outgrown=>exact e.elim
 | .loop d,p,R,m,a,r,c,t,j=>by
  have aF:∀(ai:Nat) (a:St B.D),D8 B (λu i=>exec N B P Y n D d (2*p) u i) (λa=>match (hint D p).lp with
   |some q=>nW B n a (cQ d []) q a λW=>(N.loop (λJ=>exec N B P Y n D d (2*p) (R:=bi B.D q.bX⊕qM B (hint D p).outs) (λh i=>bif fe h 0 then nW B n a (cQ d []) q i (λJ=>c5 (.inl J)) else inj B n a (cQ d []) (hint D p).outs h i λw=>c5 (.inr w)) (ik B a (cQ d []) q J)) W).bind λw=>out B a (cQ d []) (hint D p).outs w m
   |none=>ea) m ai a=c5 r->n<=a.H.length->oE P F n d (Ends B m r a (cQ (.loop d) [])) (aU B a.E) (av B a.H):=by
   intro ai
   induction ai with
   |succ ai aI=>
    intro a c j;have M:=gO I o H d (2*p) _ a r c t j;refine aiK (M.mono λh C E e=>?_)
    cases h with
    |normal=>
     obtain⟨i,l,k,rfl,rfl⟩:=e;exact(aI i k (la j l.len)).mono λh C E e=>e.mono l (λ_ c=>c) λ_ _ c=>c
    |ret=>exact e
    |exit id=>exact e
    |goto _=>exact e.elim
    |panic _=>exact e.elim
    |outgrown=>exact e.elim
   |zero=>
    intro a c j aZ aV aQ az;have ac:=Q8 az;simp only[D8] at c
    split at c
    .rename_i q a0;obtain⟨W,ak,aN,aH,aK,aJ⟩:=DH o (.refl _ _) j ac c az;obtain⟨w,af,aD⟩:=ei.1 ak;obtain⟨aT,aC⟩:=N.ok _ _ _ af;generalize aO:(λJ=>exec N B P Y n D d (2*p) (R:=bi B.D q.bX⊕qM B (hint D p).outs) (λh i=>bif fe h 0 then nW B n a (cQ d []) q i (λJ=>c5 (.inl J)) else inj B n a (cQ d []) (hint D p).outs h i λw=>c5 (.inr w)) (ik B a (cQ d []) q J))=f at aC;have aS:oE P F n d (Ends B m r a (cQ (.loop d) [])) (aU B (ik B a (cQ d []) q W).E) (av B (ik B a (cQ d []) q W).H):=by
      refine QG (α:=Nat×bi B.D q.bX) (λG C E=>fY f G.1 G.2=c5 w/\Ext (cQ d []) a (ik B a (cQ d []) q G.2)/\C=aU B (ik B a (cQ d []) q G.2).E/\E=av B (ik B a (cQ d []) q G.2).H) (λG=>G.1) (aT,W) ⟨aC,aN,rfl,rfl⟩ ?_
      rintro⟨al,J⟩ C E ⟨K,ag,rfl,rfl⟩;cases al with
      |zero=>simp[fY] at K
      |succ al=>
       simp only[fY] at K;obtain⟨v,aB,K⟩:=ei.1 K;rw[<-aO] at aB;have M:=gO I o H d (2*p) _ _ v aB t (la j ag.len);refine Tl M ?_
       intro h a6 a2 g ay a4 T aj;cases h with
       |normal=>
        obtain⟨i,l,k,rfl,rfl⟩:=T;obtain⟨G,y,Z,aa,X,ab⟩:=DH o (ag.trans l) j ac k aj;injection y with y
        subst y;exact⟨_,_,aa,⟨(al,G),l1 _,K,Z,rfl,rfl⟩,X,ab⟩
       |ret=>
        obtain⟨i,l,k,rfl,rfl⟩:=T;obtain⟨ao,am,y,Z,X,aa,ab,ar⟩:=Aa o (ag.trans l) j ac aj k;injection y with y
        subst y;have h:ao=w:=by simpa using K
        subst h;exact⟨_,_,aa,⟨am,Z,by rw[<-X m];exact aD,rfl,rfl⟩,ab,ar⟩
       |exit id=>
        obtain⟨i,l,k,rfl,rfl⟩:=T;obtain⟨ao,am,y,Z,X,aa,ab,ar⟩:=Aa o (ag.trans l) j ac aj k;injection y with y
        subst y;have h:ao=w:=by simpa using K
        subst h;exact⟨_,_,aa,⟨am,Z,by rw[<-X m];exact aD,rfl,rfl⟩,ab,ar⟩
       |goto _=>exact T.elim
       |panic _=>exact T.elim
       |outgrown=>exact T.elim
     intro aM aR;exact aS aH aV aQ aK aM λh ay aX aG=>aR h ay aX (eI.trans aJ aG)
    .cases c
  exact Pz (aF _ a c j)
 | .rangeFunc ..,p,R,m,a,r,c,_,_=>by simp[exec] at c
 | .scope _,p,R,m,a,r,c,_,_=>by simp[exec] at c
 | .goto _,p,R,m,a,r,c,_,_=>by simp[exec] at c
 | .refuse _,p,R,m,a,r,c,_,_=>by simp[exec] at c
end
def yR(b:Array Value):ResultVar->Sem Value
 | .tmp a=>pure (b.getD a undef)
 | .cell p a=>do loadVar a (<-asAddr (b.getD p undef))
def ND(fn:Func)(a:Array Value):results fn a=(do let vs<-fn.results.mapM (yR a);pure (if b:vs.size=1 then vs[0] else .tuple vs)):=rfl
def wM{b:Nat->Type}:Nat->List (TV b)->En b->En b
 |_,[],a=>a
 |i,v::vs,a=>wM (i+1) vs ((i,v)::a)
def Jz{e:Nat->Type}:∀(vs:List (TV e)) (i:Nat) (b:En e) (a:Nat),lk (wM i vs b) a=if i<=a then(vs[a -i]?).getD (lk b a) else lk b a
 |[],i,b,a=>by simp[wM]
 |v::vs,i,b,a=>by
  rw[wM,Jz vs (i+1)]
  by_cases f:i+1<=a
  .rw[if_pos f,if_pos (by omega),show a -i=(a - (i+1))+1 by omega,List.getElem?_cons_succ];have:fe i a=false:=by
    cases c:fe i a with
    |false=>rfl
    |true=>have:=beq_eq c;omega
   simp only[lk,this,cond_false]
  .rw[if_neg f]
   by_cases d:i=a
   .subst d;rw[if_pos (ef _),s6];simp[lk,hQ]
   .rw[if_neg (by omega)];have:fe i a=false:=by
     cases c:fe i a with
     |false=>rfl
     |true=>exact absurd (beq_eq c) d
    simp only[lk,this,cond_false]
def lY:Nat->Nat->List (Nat×CP)->Bool
 |_,0,[]=>true
 |a,b+1,p::c=>bif fe p.1 a then lY (a+1) b c else false
 |_,_,_=>false
section
variable {P:Program}{B:Tb}{R:Type}{r:R}
def H4(D:cU P B){c:St B.D}:∀{h:List ResultVar} {i:Nat} {E:En B.D} {m:En B.D->Option R},nh B P c i h E m=c5 r->
 ∃vs:List (TV B.D),vs.length=h.length/\m (wM i vs E)=c5 r/\∀g e b a,Rel g e (aU B c.E) (av B c.H) b a->∃n:List Value,(h.mapM (yR b.tmps)).run P a= .ok n a/\n.length=h.length/\∀(i:Nat) (s:TV B.D) (x:Value),vs[i]?=c5 s->n[i]?=c5 x->VR g (av B c.H) a (pv B s) x
 |[],i,E,m,f=>⟨[],rfl,f,λg e b a _=>⟨[],rfl,rfl,by simp⟩⟩
 |rv::h,i,E,m,f=>by
  have L:∃v,nh B P c (i+1) h ((i,v)::E) m=c5 r/\∀g e b a,Rel g e (aU B c.E) (av B c.H) b a->∃x,(yR b.tmps rv).run P a= .ok x a/\VR g (av B c.H) a (pv B v) x:=by
   cases rv with
   |tmp t=>
    refine⟨lk c.E t,f,λg e b a l=>⟨_,rfl,?_⟩⟩
    have:=l.e.at_ t
    rwa [ep] at this
   |cell p t=>
    simp only[nh] at f;obtain⟨v,N,y,I⟩:=PD D (x:=.tmp p) (E:=c.E) (t:=t) f;refine⟨v,y,λg e b a l=>?_⟩
    obtain⟨x,d,w⟩:=I ea 0 "" #[] c.E c.H (λx _=>Bw B c.E x) (λ_ _ _ f=>f) g e b a l;refine⟨x,?_,w⟩
    have J:b.eval (.tmp p)=b.tmps.getD p undef:=rfl;simp only[execOp,J] at d;show(do loadVar t (<-asAddr (b.tmps.getD p undef)):Sem Value).run P a= .ok x a
    generalize b.tmps.getD p undef=z at d⊢;cases z with
    |pointer C=>
     cases C with
     |none=>simp[q4,oj] at d
     |some C=>
      simp only[q4,oj,kh,m0,h7] at d;simp only[asAddr,kh,m0,h7];cases q:(loadVar t C).run P a with
      |ok A H=>
       rw[q] at d;simp only[h7] at d;injection d with o u
       injection o with o
       rw[o,u]
      |halt A H=>rw[q] at d;simp at d
    |_=>simp[q4,oj] at d
  obtain⟨v,y,o⟩:=L;obtain⟨vs,u,K,M⟩:=H4 D y;refine⟨v::vs,by simp[u],K,λg e b a l=>?_⟩
  obtain⟨x,d,w⟩:=o g e b a l;obtain⟨n,G,q,F⟩:=M g e b a l;refine⟨x::n,?_,by simp[q],λi s A j k=>?_⟩
  .rw[List.mapM_cons];simp only[kh,G,d,h7,m0]
  .match i,j,k with
   |0,j,k=>simp at j k;subst j;subst k;exact w
   |i+1,j,k=>exact F i s A (by simpa using j) (by simpa using k)
def Tk{d:Nat->Type}{c:Nat->Nat×Nat}:∀{a:List (Nat×List Nat×OP)} {q:Nat} {b:List (TV d)},(lM c q a b).1.length=a.length
 |[],_,_=>rfl
 |e::a,q,b=>by simp[lM,Tk]
def A7{p:bY}{a:bi B.D p.bX}:(cz B p a).H.length=p.dF.length:=by
 unfold cz nI;exact Tk
def GW{j:Nat->Type}{ρ:Nat->Nat×Nat}:∀{e:List (Nat×CP)} {b d:Nat} {ls:List (TV j)},lY b d e=true->∃c,c.length=d/\gR ρ e ls=fi b c
 |[],b,0,ls,_=>⟨[],rfl,rfl⟩
 |p::e,b,d+1,ls,a=>by
  obtain⟨h,g⟩:=fu a;obtain⟨c,i,f⟩:=GW (ρ:=ρ) (ls:=(hO ρ p.2 ls).2) g;refine⟨(hO ρ p.2 ls).1::c,by simp[i],?_⟩
  simp only[gR,fi,f,beq_eq h]
 |[],_,_+1,_,a=>by simp[lY] at a
 |_::_,_,0,_,a=>by simp[lY] at a
def GN{c:Nat->Type}:∀(a:List (TV c)) (b:Nat),(fi b a).map (·.2)=a
 |[],_=>rfl
 |d::a,b=>by simp[fi,GN a]
def kL(P:Program){B:Tb}(a:aq B)(c:List ResultVar)(e:Nat)(b:St B.D):Option (bi B.D a.az.bX):=bif m5 e 1 then nh B P b 0 c [] λd=>take B a.low a.az ⟨d,b.H⟩ c5 else ea
def qP{R:Type}(B:Tb)(d:Nat->St B.D->Option R)(r:R):fE
 | .normal=>λc b=>∃a,d 0 a=c5 r/\c=aU B a.E/\b=av B a.H
 | .ret=>λc b=>∃a,d 1 a=c5 r/\c=aU B a.E/\b=av B a.H
 | .exit e=>λc b=>∃a,d (e+2) a=c5 r/\c=aU B a.E/\b=av B a.H
 |_=>λ_ _=>False
def nP{R:Type}{i:Nat->St B.D->Option R}{r:R}{k:St B.D}{j:List Nat}:∀h g f,Ends B i r k j h g f->qP B i r h g f
 | .normal,_,_,⟨d,_,c,b,a⟩=>⟨d,c,b,a⟩
 | .ret,_,_,⟨d,_,c,b,a⟩=>⟨d,c,b,a⟩
 | .exit _,_,_,⟨d,_,c,b,a⟩=>⟨d,c,b,a⟩
 | .goto _,_,_,e=>e
 | .panic _,_,_,e=>e
 | .outgrown,_,_,e=>e
def ti(U:cU P B){a:aq B}{fn:Func}{code:Code}{rs:List ResultVar}(S:P.funcs[a.cO]?=c5 fn)(M:fn.body=c5 code)(ah:(fn.name== "runtime.NumGoroutine")=false)
 (am:fn.results=rs.toArray) (ar:m5 a.na fn.ntmps=true) (ab:lY 0 rs.length a.az.dE=true) (s:∀d h,a.F d=c5 h->eT P fn.ntmps a.low code (qP B (kL P a rs) h) (aU B (cz B a.par d).E) (av B (cz B a.par d).H)):Fits P B a:=by
 refine⟨λargs m=>?_,λd h X g m k ad aw C=>?_⟩
 .simp only[callFunc,kh];have ay:(program:Sem Program).run P m= .ok P m:=rfl;rw[ay];simp only[h7,S];rw[ah];simp[M]
 .have Z:=s d h X;have az:k.length<=fn.ntmps:=by
   rw[ad];exact e4 ar
  have ac:Rel g fn.ntmps (aU B (cz B a.par d).E) (av B (cz B a.par d).H) {tmps:=k.toArray++hP (fn.ntmps -k.toArray.size) undef,defers:=[]} m:=by
   refine⟨aw,rfl,?_,λj=>?_⟩
   .simp;omega
   .rw[ep];have:=C j;have o:(k.toArray++hP (fn.ntmps -k.toArray.size) undef).getD j undef=k.getD j undef:=by
     rw[hD,h8];rcases hI j k.length with s |s
     .simp[Array.getElem?_append,s]
     .rw[ga s];rw[Array.getElem?_append_right (by simpa using s)];rcases hI (j -k.length) (fn.ntmps -k.length) with l |l
      .simp[l]
      .simp[l]
    rw[o];exact this
  refine calls_of_wp S M (Z g _ m ac _ ?_)
  intro o n c t;have Q:∀J:Nat,J<=1->iX fn.ntmps a.low g (av B (cz B a.par d).H) m (λL au=>∃p,(bif m5 J 1 then nh B P p 0 rs [] λL=>take B a.low a.az ⟨L,p.H⟩ c5 else ea)=c5 h/\L=aU B p.E/\au=av B p.H) n c->
   n.defers=[]/\∃v,(results fn n.tmps).run P c= .ok v c/\∃V G,Ending.returned v= .returned V/\bF G (av B (cz B a.az h).H) c/\Bml.GStep a.low g (av B (cz B a.par d).H) m G (av B (cz B a.az h).H) c/\VR G (av B (cz B a.az h).H) c (pv B (kR (cz B a.az h).E)) V:=λJ an H=>by
   obtain⟨aB,H1,aa,⟨p,q,rfl,rfl⟩,K,ak⟩:=H;rw[hM an] at q;obtain⟨vs,aD,ai,W⟩:=H4 U q;obtain⟨u,aj,aA,ag⟩:=W aa fn.ntmps n c K;obtain⟨w,A,I,al,ae,Y⟩:=EK U ai K.m;injection A with A
   subst A;have z:∃f:List (TV B.D),f.length=rs.length/\(cz B a.az w).E=fi 0 f:=by
    unfold cz nI;exact GW ab
   obtain⟨f,F,z⟩:=z;have O:∀(i:Nat) (y:TV B.D) (v:Value),f[i]?=c5 y->u[i]?=c5 v->VR I (av B (cz B a.az w).H) c (pv B y) v:=λi y v e D=>by
    have T:i<vs.length:=by have:=c9 e;omega
    have x:=ag i _ v (c4 T) D;have l:=Y i v (by
     rw[Jz,if_pos (l2 _),s5,c4 T];exact x)
    rw[z] at l;have o:=Dz f 0 i;rw[e6] at o;rw[o,e] at l;exact l
   have C:∃v,(results fn n.tmps).run P c= .ok v c/\VR I (av B (cz B a.az w).H) c (pv B (kR (cz B a.az w).E)) v:=by
    have ax:(fn.results.mapM (yR n.tmps)).run P c= .ok u.toArray c:=by
     rw[am,Array.mapM_eq_mapM_toList];simp only[Sem.run_map,aj,h7]
    rw[ND,kh,ax,h7,z]
    by_cases x:u.length=1
    .obtain⟨d,rfl⟩:=ng.1 x;obtain⟨j,rfl⟩:=ng.1 (show f.length=1 by omega);exact⟨d,rfl,O 0 j d rfl rfl⟩
    .refine⟨.tuple u.toArray,?_,?_⟩
     .rw[m0]
      congr 1
      exact dif_neg (by simpa using x)
     .have:kR (fi 0 f)= .bu f:=by
       match f,F with
       |[],_=>rfl
       |[j],F=>simp at F;omega
       |ap::b::N,_=>exact congrArg TV.bu (GN (ap::b::N) 0)
      rw[this];refine .bu _ u (by rw[db,l3];omega) λi y v e D=>?_
      rw[db,ec] at e;cases E:f[i]? with
      |none=>rw[E] at e;cases e
      |some j=>
       rw[E] at e;injection e with e
       subst e;exact O i j v E D
   obtain⟨v,af,ao⟩:=C;exact⟨K.e.defers,v,af,v,I,rfl,al,ak.trans ae,ao⟩
  cases o with
  |normal=>exact Q 0 (by omega) t
  |ret=>exact Q 1 (by omega) t
  |exit aC=>
   obtain⟨_,_,_,⟨p,q,_⟩,_⟩:=t;have q:(ea:Option (bi B.D a.az.bX))=c5 h:=q;cases q
  |goto N=>
   obtain⟨_,_,_,H,_⟩:=t;exact H.elim
  |panic a=>exact t.elim
  |outgrown=>exact t.elim
def FA(q:P.follows .mixedOrders=true)(e:cU P B){L:Lp}{c:List (aq B)}(n:∀a,a∈c->Fits P B a){a:aq B}{fn:Func}{code:Code}{rs:List ResultVar}{hs:List (Nat×Hn)}(k:P.funcs[a.cO]?=c5 fn)(f:fn.body=c5 code)(j:(fn.name== "runtime.NumGoroutine")=false)
 (l:fn.results=rs.toArray) (p:m5 a.na fn.ntmps=true) (m:gB fn.ntmps code=true) (s:m5 a.low (len a.par.dF)=true) (i:lY 0 rs.length a.az.dE=true) (o:∀b,gl L B P c a rs code hs b=a.F b):Fits P B a:=by
 refine ti e k f j l p i λb t g=>?_
 have d:=o b;rw[g] at d;have h:a.low<=(cz B a.par b).H.length:=by
  rw[A7, <-eu];exact e4 s
 exact(gO q e n code 1 _ _ _ d m h).mono nP
end
end Go.X
namespace Go.Bml
open Go Go.ChangeShapes Go.WideShapes Go.RowKit
def jG:Option Bool->List PV->PV
 |some true,p=>.agg p
 |_,[v]=>v
 |_,p=>.agg p
def OY:TypeDesc->Bool
 | .bool | .int _ | .string | .slice _ | .struct _ | .array _ _=>true
 |_=>false
inductive TP (P:Program):TypeId->List PV->Prop
 |bool (t:TypeId) (b:Bool) (h:P.underlying t=c5 .bool):TP P t [.bool b]
 |int (t:TypeId) (k:IntKind) (n:Int) (h:P.underlying t=c5 (.int k)) (hw:(s7 k n).wf=true):TP P t [.int k n]
 |str (t:TypeId) (s:ByteArray) (h:P.underlying t=c5 .string) (hs:s.size<=maxLen):TP P t [.str s]
 |slice (t e:TypeId) (ess:List (List PV)) (h:P.underlying t=c5 (.slice e)) (hl:ess.length<=maxLen) (he:∀p,p∈ess->p.length=P.cellsOf e) (hp:∀p,p∈ess->TP P e p):TP P t [.vs (P.cellsOf e) (ess.map (jG (dP P e)))]
 |struct (t:TypeId) (fs:Array Field) (ps:List (List PV)) (h:P.underlying t=c5 (.struct fs)) (hl:ps.length=fs.size) (hp:∀(i:Nat) (f:Field) (p:List PV),fs[i]?=c5 f->ps[i]?=c5 p->TP P f.type p):TP P t ps.flatten
 |array (t e:TypeId) (n:Nat) (ps:List (List PV)) (h:P.underlying t=c5 (.array n e)) (hl:ps.length=n) (hp:∀p,p∈ps->TP P e p):TP P t ps.flatten
 |other (t:TypeId) (d:TypeDesc) (h:P.underlying t=c5 d) (hd:OY d=false):TP P t [.any]
def jE(e:Nat->Prop)(w:World)(c:List PV)(b:List Value):Prop:=
 c.length=b.length/\∀(i:Nat) (d:PV) (a:Value),c[i]?=c5 d->b[i]?=c5 a->VI e w d a/\a.oneCell'=true
def jE.one{F:Nat->Prop}{w:World}{c:PV}{x:Value}(h:VI F w c x)(j:x.oneCell'=true):jE F w [c] [x]:=by
 refine⟨rfl,λi a b d e=>?_⟩
 match i,d,e with
 |0,d,e=>simp at d e;subst d;subst e;exact⟨h,j⟩
 |i+1,d,e=>simp at d
def jE.append{F:Nat->Prop}{w:World}{p q:List PV}{c d:List Value}(h:jE F w p c)(k:jE F w q d):jE F w (p++q) (c++d):=by
 refine⟨by simp[h.1,k.1],λi a b j e=>?_⟩
 by_cases hi:i<p.length
 .rw[dt hi] at j;rw[dt (by have:=h.1;omega)] at e;exact h.2 i a b j e
 .rw[dk (by omega)] at j;rw[dk (by have:=h.1;omega)] at e;rw[<-h.1] at e;exact k.2 _ a b j e
def jE.flatten{F:Nat->Prop}{w:World}:∀(e:List (List PV)) (d:List (List Value)),e.length=d.length->(∀(i:Nat) (p:List PV) (c:List Value),e[i]?=c5 p->d[i]?=c5 c->jE F w p c)->jE F w e.flatten d.flatten
 |[],[],_,_=>⟨rfl,by simp⟩
 |[],_::_,h,_=>by simp at h
 |_::_,[],h,_=>by simp at h
 |p::e,c::d,h,j=>by
  rw[kl,kl];exact(j 0 p c rfl rfl).append (jE.flatten e d (by simpa using h) λi a b l k=>j (i+1) a b (by simpa using l) (by simpa using k))
def w4:Nat->List (Nat×Nat)->Nat->Bool
 |a,[],b=>fe a b
 |a,(c,d)::r,b=>fe c a&&w4 (a+d) r b
def Ry(b:List Value):∀(c:List (Nat×Nat)) (d:Nat),w4 d c b.length=true->b.drop d=(c.map λp=>(b.drop p.1).take p.2).flatten
 |[],d,a=>by
  have:=l0 a;simp[this]
 |(f,g)::c,d,a=>by
  simp only[w4,j2] at a;have e:=l0 a.1;subst e;rw[hz,kl, <-Ry b c (f+g) a.2];rw[<-r3,gx]
def xA(P:Program):Bool:=(gv P.types.size).all λb=>
 match P.underlying b with
 |some (.struct c)=>w4 0 (c.toList.map λf=>(f.offset,P.cellsOf f.type)) (P.cellsOf b)&&c.toList.all λf=>j8 f.type P.types.size
 |some (.array d a)=>fe (d*P.cellsOf a) (P.cellsOf b)&&j8 a P.types.size
 |some (.slice a)=>j8 0 (P.cellsOf a)&&j8 a P.types.size
 |_=>true
def Gj{P:Program}(j:xA P=true){b:TypeId}(h:b<P.types.size){d:TypeDesc}(g:P.underlying b=c5 d):(match d with
 | .struct c=>w4 0 (c.toList.map λf=>(f.offset,P.cellsOf f.type)) (P.cellsOf b)=true/\∀f,f∈c->f.type<P.types.size
 | .array e a=>e*P.cellsOf a=P.cellsOf b/\a<P.types.size
 | .slice a=>0<P.cellsOf a/\a<P.types.size
 |_=>True):=by
 have:=n0.1 j b (hL.2 h);rw[g] at this;cases d with
 |struct c=>
  simp only[j2] at this;exact⟨this.1,λf i=>e4 (n0.1 this.2 f (hX.2 i))⟩
 |array e a=>
  simp only[j2] at this;exact⟨l0 this.1,e4 this.2⟩
 |slice a=>
  simp only[j2] at this;exact⟨e4 this.1,e4 this.2⟩
 |_=>trivial
def Tx{P:Program}{d:TypeId}{p:List PV}(e:¬dP P d=c5 true)(a:TP P d p):∃v,p=[v]/\v.cells=[v]:=by
 cases a with
 |bool _ b a=>exact⟨_,rfl,rfl⟩
 |int _ m g a j=>exact⟨_,rfl,rfl⟩
 |str _ s a r=>exact⟨_,rfl,rfl⟩
 |slice _ i n a c q f=>exact⟨_,rfl,rfl⟩
 |struct _ k h a c f=>exact absurd (by simp[dP,a]) e
 |array _ i g h a c f=>exact absurd (by simp[dP,a]) e
 |other _ l a o=>exact⟨_,rfl,rfl⟩
def Vn{P:Program}{a:TypeId}{p:List PV}(f:TP P a p):(jG (dP P a) p).cells=p:=by
 by_cases c:dP P a=c5 true
 .rw[c];rfl
 .obtain⟨v,rfl,d⟩:=Tx c f;generalize dP P a=e at c;cases e with
  |none=>exact d
  |some b=>cases b with
   |false=>exact d
   |true=>exact absurd rfl c
section
variable {H:Type}{enc:TypeId×Value->H}{P:Program}{w:World}{base:Nat}{spare:Nat->Bool}{held:Bool}
def abB(W:xA P=true):∀(y:Nat) (o:TypeId) (q:List Value) (aa:DataW H×List MemPlace),o<P.types.size->o1 enc P w base spare held y o q=c5 aa->
 ∃E,TP P o E/\jE (λb=>b<w.heap.size) w E q:=by
 intro y
 induction y using o7 with
 |_ y T=>
  intro o q aa R m;cases k:P.underlying o with
  |none=>
   cases y with
   |zero=>simp[o1] at m
   |succ g=>simp[o1,k] at m
  |some Q=>
   have other:OY Q=false->(∃v,q=[v]/\v.oneCell'=true)->∃E,TP P o E/\jE (λb=>b<w.heap.size) w E q:=by
    rintro ao ⟨v,rfl,N⟩;exact⟨[.any],.other o Q k ao,.one (.any v) N⟩
   cases Q with
   |bool=>
    obtain⟨b,rfl,_⟩:=DataW.trod_bool k m;exact⟨[.bool b],.bool o b k,.one (.bool b) rfl⟩
   |int n=>
    obtain⟨g,rfl,_,an⟩:=DataW.trod_int k m;exact⟨[.int n g],.int o n g k an,.one (.int n g) rfl⟩
   |string=>
    obtain⟨V,rfl,_,ak⟩:=DataW.trod_string k m;exact⟨[.str V],.str o V k ak,.one (.str V) rfl⟩
   |slice a=>
    obtain⟨az,U⟩:=Gj W R k;rcases DataW.trod_slice k m with⟨rfl,_⟩ |⟨L,len,cap,rn,aw,g,rfl,rfl,_,_,af,ay,aA,G,_,_⟩
    .exact⟨[.vs (P.cellsOf a) (([]:List (List PV)).map (jG (dP P a)))],.slice o a [] k (l2 _) (by simp) (by simp),.one (.eX _ _ _) rfl⟩
    .have B:∀i:Nat,∃p:List PV,i<len->TP P a p/\p.length=P.cellsOf a/\∀(d:Nat) (h:PV),p[d]?=c5 h->∃A,w.cell? (L.add (i*P.cellsOf a+d))=c5 A/\VI (λb=>b<w.heap.size) w h A/\A.oneCell'=true:=λi=>by
      by_cases c:i<len
      .have r:=G i c;rw[c4 (by omega)] at r;cases e:w.cells? base (L.add (i*P.cellsOf a)) (P.cellsOf a) with
       |none=>simp[e] at r
       |some X=>
        simp[e] at r;obtain⟨p,C,x⟩:=T g (by omega) a X _ U r;obtain⟨_,D,aq⟩:=World.cells?_some e;refine⟨p,λ_=>⟨C,x.1.trans D,λd h I=>?_⟩⟩
        have ab:d<X.length:=by
         have:=(e0.1 I).1;have:=x.1;omega
        refine⟨X[d],?_,x.2 d h _ I (c4 ab)⟩
        rw[<-Go.Deep.add_add,aq d (by omega),c4 ab]
      .exact⟨[],λm=>absurd m c⟩
     obtain⟨f,j⟩:=kd B;refine⟨[.vs (P.cellsOf a) (((gv len).map f).map (jG (dP P a)))],.slice o a _ k (by simp;omega) ?_ ?_,?_⟩
     .intro p l;obtain⟨i,c,rfl⟩:=ey.1 l;exact(j i (hL.1 c)).2.1
     .intro p l;obtain⟨i,c,rfl⟩:=ey.1 l;exact(j i (hL.1 c)).1
     .by_cases h0:len=0
      .subst h0;exact .one (.eX _ _ _) rfl
      .have Z:∀i,i<len->(jG (dP P a) (f i)).cells=f i:=λi c=>Vn (j i c).1
       have am:∀i d h,abk (((gv len).map f).map (jG (dP P a))) i d=c5 h->i<len/\(f i)[d]?=c5 h:=λi d h e=>by
        unfold abk at e
        by_cases c:i<len
        .rw[ec,ec,ie c] at e;simp only[l4,my,Z i c] at e;exact⟨c,e⟩
        .rw[ga (by simp;omega)] at e;simp at e
       have Y:L.spot=ea:=by
        obtain⟨_,aj,S⟩:=j 0 (by omega);obtain⟨A,s,_⟩:=S 0 _ (c4 (by omega));simp only[s8,hS] at s;rw[Addr.add_zero'] at s;exact World.cell?_spot s
       obtain⟨b,z,av⟩:=L;simp only at Y;subst Y;have ac:(((gv len).map f).map (jG (dP P a))).length=len:=by simp
       have ad:b<w.heap.size:=by
        obtain⟨_,aj,S⟩:=j 0 (by omega);obtain⟨A,s,_⟩:=S 0 _ (c4 (by omega));rw[sa] at s;exact World.block_lt_of_cell? w _ s
       have O:∀i d h,abk (((gv len).map f).map (jG (dP P a))) i d=c5 h->w.cell? ⟨b,z+(i*P.cellsOf a+d),ea⟩=c5 ((w.cell? ⟨b,z+(i*P.cellsOf a+d),ea⟩).getD undef)/\((w.cell? ⟨b,z+(i*P.cellsOf a+d),ea⟩).getD undef).oneCell'=true/\VI (λb=>b<w.heap.size) w h ((w.cell? ⟨b,z+(i*P.cellsOf a+d),ea⟩).getD undef):=λi d h e=>by
        obtain⟨c,I⟩:=am i d h e;obtain⟨A,s,N,r⟩:=(j i c).2.2 d h I;rw[sa] at s;rw[s];exact⟨rfl,r,N⟩
       have:=VI.vs (F:=λb=>b<w.heap.size) (w:=w) (P.cellsOf a) (((gv len).map f).map (jG (dP P a))) b z cap (λi d=>(w.cell? ⟨b,z+(i*P.cellsOf a+d),ea⟩).getD undef) (by rw[ac];exact af) ad
        (λi au M=>by
         have c:i<len:=by
          have:=(e0.1 M).1;simpa using this
         rw[ec,ec,ie c] at M;simp at M;subst M;rw[Z i c];exact(j i c).2.1)
        (λi d h e=>(O i d h e).1) (λi d h e=>(O i d h e).2.1) (λi d h e=>(O i d h e).2.2)
       rw[ac] at this;exact .one this rfl
   |struct u=>
    obtain⟨ae,g,rfl,_,D,ag,G⟩:=DataW.trod_struct k m;obtain⟨J,ar⟩:=Gj W R k;rw[<-D] at J;have K:=Ry q _ 0 J;rw[m2,n2] at K;have B:∀i:Nat,∃p:List PV,∀f,u[i]?=c5 f->TP P f.type p/\jE (λb=>b<w.heap.size) w p ((q.drop f.offset).take (P.cellsOf f.type)):=λi=>by
     by_cases c:i<u.size
     .have r:=G i u[i] (h9 c);rw[c4 (by omega)] at r;obtain⟨p,C,x⟩:=T g (by omega) _ _ _ (ar _ (q2 c)) r;exact⟨p,λf j=>by rw[h9 c] at j;injection j with j;subst j;exact⟨C,x⟩⟩
     .exact⟨[],λf j=>by rw[j4 (by omega)] at j;cases j⟩
    obtain⟨f,j⟩:=kd B;refine⟨((gv u.size).map f).flatten,.struct o u _ k (by simp) λi al p c l=>?_,?_⟩
    .have t:i<u.size:=(Array.getElem?_eq_some_iff.1 c).1;rw[ec,ie t] at l;simp at l;subst l;exact(j i al c).1
    .rw[K];refine jE.flatten _ _ (by simp) λi p h l e=>?_
     have t:i<u.size:=by
      have:=(e0.1 l).1;simpa using this
     rw[ec,ie t] at l;simp at l;subst l;rw[ec,j6,h9 t] at e;simp at e;subst e;exact(j i _ (h9 t)).2
   |array g a=>
    obtain⟨ae,ap,rfl,_,D,ag,G⟩:=DataW.trod_array k m;obtain⟨J,U⟩:=Gj W R k;have K:q=((gv g).map λi=>(q.drop (i*P.cellsOf a)).take (P.cellsOf a)).flatten:=by
     have ai:∀n,n<=g->q.drop ((g -n)*P.cellsOf a)=((o9 (g -n) n).map λi=>(q.drop (i*P.cellsOf a)).take (P.cellsOf a)).flatten:=by
      intro n
      induction n with
      |zero=>
       intro _;simp[J, <-D]
      |succ n ah=>
       intro ax;rw[q7,hz,kl];have:=ah (by omega);rw[show g - (n+1)+1=g -n by omega, <-this];rw[show(g -n)*P.cellsOf a=(g - (n+1))*P.cellsOf a+P.cellsOf a by rw[<-Nat.succ_mul];congr 1;omega];rw[<-r3,gx]
     have:=ai g (ef _);rw[s6,s8,m2, <-List.range_eq_range'] at this;exact this
    have B:∀i:Nat,∃p:List PV,i<g->TP P a p/\jE (λb=>b<w.heap.size) w p ((q.drop (i*P.cellsOf a)).take (P.cellsOf a)):=λi=>by
     by_cases c:i<g
     .have r:=G i c;rw[c4 (by omega)] at r;obtain⟨p,C,x⟩:=T ap (by omega) _ _ _ U r;exact⟨p,λ_=>⟨C,x⟩⟩
     .exact⟨[],λm=>absurd m c⟩
    obtain⟨f,j⟩:=kd B;refine⟨((gv g).map f).flatten,.array o a g _ k (by simp) λp l=>?_,?_⟩
    .obtain⟨i,c,rfl⟩:=ey.1 l;exact(j i (hL.1 c)).1
    .rw[K];refine jE.flatten _ _ (by simp) λi p h l e=>?_
     have t:i<g:=by
      have:=(e0.1 l).1;simpa using this
     rw[ec,ie t] at l e;simp at l e;subst l;subst e;exact(j i t).2
   |_=>
    refine other rfl ?_
    cases y with
    |zero=>simp[o1] at m
    |succ g=>
     simp only[o1,k] at m
     first |(cases m;done) |(split at m <;> first |exact⟨_,rfl,rfl⟩ |(cases m;done) |(exfalso;simp_all;done))
def PM{d:World}{r:Reach}{b:Nat}{c:TypeId}{v:Value}(a:sn P d r b c v):v.cells.toList=[v]:=by
 unfold sn Cell.ok at a;generalize P.underlying c=f at a;cases v <;> first |rfl |skip
 all_goals
  cases f with
  |none=>exact a.elim
  |some e=>cases e <;> exact False.elim a
def NL(E:xA P=true){r:Reach}{K:Nat}:∀(j:List TypeId) (vs:List Value) (u:List (DataW H)) (B:List MemPlace),mx enc P w base spare held j vs u B->(∀a,a∈j->a<P.types.size)->
 (∀(s:Nat) a v,j[s]?=c5 a->vs[s]?=c5 v->q5 P w r K a v)->
 ∃n:List PV,n.length=vs.length/\vs.length=j.length/\(∀(i:Nat) (a:TypeId) (e:PV),j[i]?=c5 a->n[i]?=c5 e->∃p,TP P a p/\e=jG (dP P a) p)/\∀(i:Nat) (e:PV) (l:Value),n[i]?=c5 e->vs[i]?=c5 l->VI (λb=>b<w.heap.size) w e l
 |[],[],[],_,_,_,_=>⟨[],rfl,rfl,by simp,by simp⟩
 |[],[],_::_,_,d,_,_=>d.elim
 |[],_::_,[],_,d,_,_=>d.elim
 |[],_::_,_::_,_,d,_,_=>d.elim
 |_::_,[],[],_,d,_,_=>d.elim
 |_::_,[],_::_,_,d,_,_=>d.elim
 |_::_,_::_,[],_,d,_,_=>d.elim
 |a::j,v::vs,W::u,B,d,D,A=>by
  obtain⟨p,q,⟨M,S⟩,I,_⟩:=d;obtain⟨n,U,N,G,Q⟩:=NL E j vs u q I (λa g=>D a (by simp[g])) λs a v g J=>A (s+1) a v (by simpa using g) (by simpa using J)
  obtain⟨y,C,t⟩:=abB E M a _ _ (D a (by simp)) S;have k:=A 0 a v rfl rfl;refine⟨jG (dP P a) y::n,by simp[U],by simp[N],λi O e g c=>?_,λi e l c h=>?_⟩
  .match i,g,c with
   |0,g,c=>simp at g c;subst g;subst c;exact⟨y,C,rfl⟩
   |i+1,g,c=>exact G i O e (by simpa using g) (by simpa using c)
  .match i,c,h with
   |0,c,h=>
    simp at c h;subst c;subst h;unfold q5 at k
    by_cases f:dP P a=c5 true
    .have:∃m,v= .agg m:=by
      unfold dP at f;cases o:P.underlying a with
      |none=>simp[o] at f
      |some z=>
       rw[o] at f k;cases z <;> simp at f <;> (obtain⟨m,R,_⟩:=k;exact⟨m,R⟩)
     obtain⟨m,rfl⟩:=this;rw[f];have:=VI.agg (F:=λb=>b<w.heap.size) (w:=w) y m.toList (by simpa[sp] using t.1) λi e l c h=>(t.2 i e l c (by simpa[sp] using h)).1
     simpa[jG] using this
    .obtain⟨x,rfl,Y⟩:=Tx f C;have X:=t.1;have V:jG (dP P a) [x]=x:=by
      generalize dP P a=L at f;cases L with
      |none=>rfl
      |some b=>cases b with
       |false=>rfl
       |true=>exact absurd rfl f
     rw[V];have T:v.cells.toList=[v]:=by
      unfold dP at f;cases o:P.underlying a with
      |none=>rw[o] at k;exact PM k
      |some z=>
       rw[o] at f k;cases z <;> first |exact PM k |(exfalso;simp at f;done)
     exact(t.2 0 x v rfl (by rw[T];rfl)).1
   |i+1,c,h=>exact Q i e l (by simpa using c) (by simpa using h)
end
end Go.Bml
namespace Go.X
open Go Go.Aml Go.Bml Go.ChangeShapes Go.WideShapes Go.RowKit Go.ChangeAt
def Typed(P:Program)(ts:List TypeId)(pcs:List PV):Prop:=
 pcs.length=ts.length/\∀(i:Nat) (t:TypeId) (c:PV),ts[i]?=c5 t->pcs[i]?=c5 c->∃p,TP P t p/\c=jG (dP P t) p
def G8(P:Program){B:Tb}(c:aq B)(ts:List TypeId):Prop:=
 ∀pcs,Typed P ts pcs->∃x y,c.F x=c5 y/\(cz B c.par x).H=[]/\(∀t,pv B (lk (cz B c.par x).E t)=pcs.getD t .any)/\pv B (kR (cz B c.az y).E)= .bool true
section
variable {H:Type}{enc:TypeId×Value->H}{P:Program}{B:Tb}{c:aq B}
def aqj{args:Array Value}{W:World}{ts:List TypeId}{ds:List (DataW H)}{ps:List MemPlace}{base:Nat}(hT:xA P=true)(hA:mx enc P W 0 (λ_=>true) true ts args.toList ds ps)(hlt:∀t,t∈ts->t<P.types.size)
 (hok:∀(j:Nat) t v,ts[j]?=c5 t->args.toList[j]?=c5 v->q5 P W .any base t v) (hna:c.na=ts.length) (hf:Fits P B c) (hc:G8 P c ts):
 Calls P c.cO args W λe w'=>e= .returned (.bool true)/\Below W.heap.size W w':=by
 obtain⟨pcs,k1,k2,k3,k4⟩:=NL hT ts args.toList ds ps hA hlt hok;obtain⟨x,y,hF,hH,hE,hR⟩:=hc pcs ⟨k1.trans k2,k3⟩;have h:=hf.calls x y hF ⟨λb=>b<W.heap.size,λ_=>ea⟩ W args.toList (by rw[hna,k2])
  (by
   rw[hH];exact⟨λb h=>h,λr r' b C C' h=>by simp at h,λr b C h=>by simp at h,λr o h=>by simp[av] at h⟩)
  (λt=>by
   rw[hE,hH]
   by_cases ht:t<pcs.length
   .have ht2:t<args.toList.length:=by omega
    rw[h8,h8,c4 ht,c4 ht2];exact .aW (k4 t _ _ (c4 ht) (c4 ht2))
   .rw[h8,ga (by omega)];exact .aW (.any _))
 rw[hU] at h;refine Calls.mono h λe w' hh=>?_
 obtain⟨v,g',he,_,hst,hv⟩:=hh;rw[hR] at hv;have hb:=hv.n5;rw[he,hb];refine⟨rfl,hst.os,hst.tape,hst.output,hst.size,λk hk=>hst.jh k hk⟩
def OZ(hl:laidOutB P=true){W W':World}(hb:Below W.heap.size W W'):∀(ts:List TypeId) (vs:List Value) (ds:List (DataW H)) (ps:List MemPlace),(∀t,t∈ts->P.readableRec t=true/\t<P.types.size)->mx enc P W 0 (λ_=>true) true ts vs ds ps->
 mx enc P W' 0 (λb=>c3 (b<W.heap.size)) true ts vs ds ps/\ds.length=ts.length
 |[],[],[],_,_,h=>⟨h,rfl⟩
 |[],[],_::_,_,_,h=>h.elim
 |[],_::_,[],_,_,h=>h.elim
 |[],_::_,_::_,_,_,h=>h.elim
 |_::_,[],[],_,_,h=>h.elim
 |_::_,[],_::_,_,_,h=>h.elim
 |_::_,_::_,[],_,_,h=>h.elim
 |t::ts,v::vs,d::ds,ps,hr,h=>by
  obtain⟨p,q,h1,h2,he⟩:=h;have hx:∀x∈p,x.block<W.heap.size:=by obtain⟨m,hm⟩:=h1;exact DataW.trod_lt m _ _ _ hm
  obtain⟨i1,i2⟩:=OZ hl hb ts vs ds q (λt ht=>hr t (by simp[ht])) h2;exact⟨⟨p,q,Below.trod hl (hr t (by simp)).1 (hr t (by simp)).2 h1 hb hx,i1,he⟩,by simp[i2]⟩
def ahF{C:Checked}{c:aq B}{os:Os}{fn:Func}{s:ChangeSpec}{conds:List PathCond}{tb:TypeId}(own:ownKnob C.prog.godebug=ea)(started:os.Started)(noInit:C.prog.inits.idxOf? c.cO=ea)(hfn:C.prog.funcs[c.cO]?=c5 fn)
 (witness:∃(w:World) (tape:Tape) (i:Input),w.os=os/\(w.forCall tape i).Shaped C.prog/\i.vars=[]/\Input.okWide C.prog (w.forCall tape i) .any w.heap.size c.cO i/\
  s.pre6 enc C.prog fn conds false (w.forCall tape i).memory i.args/\({}:Assume).holds C.prog (lone (Frame.enter C.prog c.cO i.args .normal) [] (w.forCall tape i)))
 (hT:xA C.prog=true) (hl:laidOutB C.prog=true) (eZ:fn.params.toList.all (λt=>C.prog.readableRec t&&j8 t C.prog.types.size)=true) (hvars:s.vars=[]) (hres:fn.resultTypes=#[tb]) (htb:C.prog.underlying tb=c5 .bool)
 (hs:∀ds:List (DataW H),ds.length=fn.params.toList.length->s.fn H ds={results:=[.lit (.bool true)],args:=ds}) (hna:c.na=fn.params.toList.length) (hf:Fits C.prog B c) (hc:G8 C.prog c fn.params.toList):
 ReturnsInHanded {} C os c.cO .any (s.pre6 enc C.prog fn conds false) (s.post enc C.prog fn false true false false):=by
 have hrd':∀t,t∈fn.params.toList->C.prog.readableRec t=true/\t<C.prog.types.size:=λt ht=>by
  have:=(n0.1 eZ) t ht;rw[j2] at this;exact⟨this.1,e4 this.2⟩
 refine returnsInHanded_of_change own started noInit hfn witness ?_
 intro W base args ds gs before hval hW hcnd _;have hW':=hW;obtain⟨p,q,hA,hV,rfl,hfz,hnd⟩:=hW;rw[hvars] at hV;obtain⟨rfl,rfl⟩:=trodVars_none hV;refine(aqj (base:=base) hT hA (λt ht=>(hrd' t ht).2) (λj t v ht hv=>hval j t v (by simpa using ht) (by simpa using hv)) hna hf hc).mono λe W' ⟨he,hZ⟩=>?_
 subst he;obtain⟨b1,b2⟩:=OZ hl hZ fn.params.toList args.toList ds p hrd' hA;have hsd:s.fn H (ds++[])={results:=[.lit (.bool true)],args:=ds}:=by rw[ft];exact hs ds b2
 refine⟨_,rfl,ds,[],_,[],p,[],hW',?_,?_,?_,hZ.frame _,λh=>by cases h⟩
 .rw[hsd,hres];exact trodAll_mk1 (shut_bool htb _)
 .rw[hsd];exact b1
 .rw[hsd,hvars];rfl
end
def ahG{g:Program}{h:TypeId}{e:IntKind}{p:List PV}(c:g.underlying h=c5 (.int e))(a:TP g h p):∃d:Int,p=[.int e d]/\(s7 e d).wf=true:=by
 cases a with
 |int _ q d a l=>rw[c] at a;cases a;exact⟨d,rfl,l⟩
 |bool _ b a=>rw[c] at a;cases a
 |str _ u a s=>rw[c] at a;cases a
 |slice _ k o a f t i=>rw[c] at a;cases a
 |struct _ n j a f i=>rw[c] at a;cases a
 |array _ k d j a f i=>rw[c] at a;cases a
 |other _ r a m=>rw[c] at a;cases a;cases m
def PX{c:Program}{e:TypeId}{f:IntKind}(h:c.underlying e=c5 (.int f))(i:dP c e=c5 false):∀b:List (List PV),(∀p,p∈b->TP c e p)->∃a:List Int,b.map (jG (dP c e))=a.map (.int f)/\a.length=b.length/\∀d,d∈a->(s7 f d).wf=true
 |[],_=>⟨[],rfl,rfl,by simp⟩
 |p::b,j=>by
  obtain⟨a,o,n,l⟩:=PX h i b λq m=>j q (c7 _ m)
  obtain⟨r,rfl,k⟩:=ahG h (j p (j3 ..));refine⟨r::a,?_,by simp[n],λd g=>?_⟩
  .rw[hz,hz,o,i];rfl
  .rcases dd.1 g with rfl |g
   .exact k
   .exact l d g
def aeB{f:Program}{j e:TypeId}{k:IntKind}{p:List PV}(c:f.underlying j=c5 (.slice e))(s:f.underlying e=c5 (.int k))(u:dP f e=c5 false)(n:f.cellsOf e=1)(a:TP f j p):
 ∃d:List Int,p=[.vs 1 (d.map (.int k))]/\d.length<=maxLen/\∀i,i∈d->(s7 k i).wf=true:=by
 cases a with
 |int _ x t a B=>rw[c] at a;cases a
 |bool _ b a=>rw[c] at a;cases a
 |str _ D a A=>rw[c] at a;cases a
 |slice _ z l a h C g=>
  rw[c] at a;cases a;obtain⟨d,q,w,o⟩:=PX s u l g;exact⟨d,by rw[q,n],by omega,o⟩
 |struct _ v m a h g=>rw[c] at a;cases a
 |array _ e t m a h g=>rw[c] at a;cases a
 |other _ y a r=>rw[c] at a;cases a;cases r
def ajJ{a:Program}{c:TypeId}{f:List TypeId}{e:List PV}(n:Typed a (c::f) e):∃p q,TP a c p/\e=jG (dP a c) p::q/\Typed a f q:=by
 obtain⟨d,b⟩:=n
 match e,d,b with
 |h::q,d,b=>
  obtain⟨p,m,rfl⟩:=b 0 c h rfl rfl;exact⟨p,q,m,rfl,by simpa using d,λi k l g j=>b (i+1) k l (by simpa using g) (by simpa using j)⟩
def adH{b:Program}{a:List PV}(c:Typed b [] a):a=[]:=List.length_eq_zero_iff.1 c.1
end Go.X
namespace Go.X
open Go Go.Aml Go.Bml
def arf:Option Nat->PV
 |none=>.dB
 |some f=>.fn f [] []
def mM(a:Int):List Int->List Int
 |[]=>[a]
 |b::c=>bif c3 (a<=b) then a::b::c else b::mM a c
def dQ:List Int->List Int
 |[]=>[]
 |a::b=>mM a (dQ b)
def rC(a:List Int):Option (List Int):=bif m5 a.length 140737488355328 then c5 (dQ a) else ea
def Ct(a:Nat)(n:Int):Option (List Int):=bif c3 (0<=n) then(gP a (0:Int) n).bind λ_=>c5 [] else ea
def B2{b:Type}(d:Nat)(a:List b)(i:Int)(c:List b):Option (List b):=if 0<=i/\i<=(a.length:Int)/\c.length=1 then(bj d a c).bind λ_=>c5 (a.take i.toNat++c++a.drop i.toNat) else ea
universe u
def px{a:Type u}:List (List a)->Nat->List a
 |[],_=>[]
 |b::_,0=>b
 |_::c,n+1=>px c n
def Br:List (Nat×Ty)->Nat->Ty
 |[],_=>⟨Empty,λ_=>.any⟩
 |p::r,n=>bif fe p.1 n then p.2 else Br r n
structure xz where
 sz:Nat
 fl:Bool
 el:Nat
def Eu:List (Nat×xz)->Nat->xz
 |[],_=>⟨1,false,0⟩
 |p::r,n=>bif fe p.1 n then p.2 else Eu r n
structure Ev (D:Nat->Type) (n:Nat) where
 tv:D n->TV D
 up:TV D->Option (D n)
def ev0(D:Nat->Type)(n:Nat):Ev D n:=⟨λ_=>.any,λ_=>ea⟩
def Jq(D:Nat->Type):List (Σ n,Ev D n)->(n:Nat)->Ev D n
 |[],n=>ev0 D n
 |p::r,n=>if a:p.1=n then a▸p.2 else Jq D r n
section
variable (D:Nat->Type)
def dA{b a:Type}(d:b=a)(c:b):a:=cast d c
def fA{n:Nat}(a:IntKind)(b:D n=Int):Ev D n:=⟨λd=>.int a (dA b d),λ| .int c e=>bif fV c a then c5 (dA b.symm e) else ea |_=>ea⟩
def nE{n:Nat}(a:D n=Bool):Ev D n:=⟨λc=>.bool (dA a c),λ| .bool b=>c5 (dA a.symm b) |_=>ea⟩
def iR{n:Nat}(a:D n=Option Nat):Ev D n:=⟨λc=>.jC (dA a c),λ| .jC b=>c5 (dA a.symm b) | .dB=>c5 (dA a.symm ea) | .fn f [] []=>c5 (dA a.symm (c5 f)) |_=>ea⟩
def bJ{n:Nat}(b:Nat)(a:D n=List (D b)):Ev D n:=⟨λe=>.row b (dA a e),λ| .row c d=>if f:c=b then c5 (dA a.symm (f▸d)) else ea | .bg=>c5 (dA a.symm []) | .z0=>c5 (dA a.symm []) |_=>ea⟩
def uO(a:Nat):List (TV D)->Option (List (List (D a)))
 |[]=>c5 []
 | .row d c::b=>if e:d=a then(match uO a b with |some r=>c5 ((e▸c)::r) |none=>ea) else ea
 |_=>ea
def pM{n:Nat}(a d:Nat)(b:D n=List (D a))(f:D a=List (D d)):TV D->Option (D n)
 | .row c g=>if h:c=a then c5 (dA b.symm (h▸g)) else ea
 | .bg=>c5 (dA b.symm [])
 | .z0=>c5 (dA b.symm [])
 | .rv c i=>bif fe c a then(match uO D d i with
  |some e=>c5 (dA b.symm (e.map (dA f.symm)))
  |none=>ea) else ea
 |_=>ea
def lx{n:Nat}(a b:Nat)(c:D n=List (D a))(d:D a=List (D b)):Ev D n:=⟨λe=>.row a (dA c e),pM D a b c d⟩
variable (lf:(n:Nat)->Ev D n)
def E6:(ns:List Nat)->bi D ns->List (TV D)
 |[],_=>[]
 |[n],a=>[(lf n).tv a]
 |n::b::ns,a=>(lf n).tv a.1::E6 (b::ns) a.2
def CL{a b:Type}:Option a->Option b->Option (a×b)
 |some d,c5 c=>c5 (d,c)
 |_,_=>ea
def aid{d c:Type}{a:Option d}{b:Option c}{p:d×c}(e:CL a b=c5 p):a=c5 p.1/\b=c5 p.2:=by
 cases a <;> cases b <;> simp[CL] at e
 subst e;exact⟨rfl,rfl⟩
def Au:(ns:List Nat)->List (TV D)->Option (bi D ns)
 |[],[]=>c5 ()
 |[n],[a]=>(lf n).up a
 |n::b::ns,a::c=>CL ((lf n).up a) (Au (b::ns) c)
 |_,_=>ea
def cw{n:Nat}{a:Type}(ns:List Nat)(mk:bi D ns->a)(f:a->bi D ns)(b:D n=a):Ev D n:=
 ⟨λe=>.agg (E6 D lf ns (f (dA b e))),λ
  | .agg c=>(match Au D lf ns c with
   |some d=>c5 (dA b.symm (mk d))
   |none=>ea)
  |_=>ea⟩
end
end Go.X
namespace Go.X
open Go Go.Aml
def lK(a:Int):Option Nat:=bif c3 (1<=a) then(bif c3 (a<=13) then c5 (102+a.toNat) else ea) else ea
end Go.X
