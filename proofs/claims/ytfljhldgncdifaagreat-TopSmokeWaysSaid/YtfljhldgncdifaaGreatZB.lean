/- For TopSmokeWays, part 2. -/
import Derived.Test.YtfljhldgncdifaaGreatZA
import Derived.Laws.CopyRow
import Derived.ProofKit
import Derived.OpenShut
import Derived.ChangeOld
import Derived.Deep.Slices
import Derived.KernelRfl
import Derived.WalkKit
import Derived.ShutString
import Derived.Below
import Derived.Carry
open Decidable renaming decide → c3
open List renaming getElem?_eq_getElem → c4, mem_append → c6, mem_cons_of_mem → c7, mem_cons → d0, getElem?_append_right → d1, getElem?_append_left → d2, append_assoc → d3, eq_nil_of_length_eq_zero → d4, getElem?_eq_some_iff → d5, length_append → d7, getElem?_map → dd, mem_of_getElem? → dT, getElem?_take_of_lt → e0, getElem?_set_self → e4, mem_map → e5, getElem?_set_ne → ec, append_nil → ef, getElem?_eq_none → ei, range → eo, take_append_drop → ev, getElem?_toArray → ey, length_set → eE, getD_eq_getElem?_getD → f1, length_take → f4, map_cons → f5, replicate → f6, getElem?_drop → f9, mem_range → fd, mem_map_of_mem → g6, getElem?_range → g7, length_drop → g8, mem_cons_self → gb, mem_append_right → ge, length_replicate → gv, eq_of_mem_replicate → h5, nodup_cons → h8, getElem?_cons_zero → h9, flatten_cons → hz, length_map → hL, drop_zero → hU, mem_range'_1 → i3, map_take → i5, map_map → i8
open Option renaming some → c5, none → d9, bind_eq_some_iff → dv, map_some → hM, bind_some → i7
open Nat renaming le_of_ble_eq_true → d6, zero_add → d8, le_refl → dt, beq → ee, mul_le_mul_right → ej, lt_or_ge → f8, ble_eq_true_of_le → fe, beq_refl → g0, add_zero → g3, blt → gx, add_mul → gy, eq_of_beq_eq_true → hD, lt_succ_self → hI, zero_le → hK, le_trans → hP, pos_of_ne_zero → hX, ble → hY
open Option.some renaming injEq → dk
open Go.Builtin renaming zeroCells → e6, clear_ → g9, copy_ → h6
open Prod.mk renaming inj → ea, injEq → ez
open Go.Result renaming andThen_ok → eH
open Array renaming getElem?_eq_getElem → f2, getD_eq_getD_getElem? → f7, replicate → ft, toArray_toList → g4, mem_toList_iff → g5, getElem?_eq_none → gc, getElem?_toList → gt, getElem?_setIfInBounds_ne → hB
open Bool renaming and_eq_true → ga
open Go.Region renaming wanted → h7, binds → hS
open Classical renaming axiomOfChoice → hq
open Go.Sem renaming run_bind → hu, run_pure → hQ
open Go.Op renaming operands → i4
open Go.DataW renaming TrodAll → i6, trod → i9
open List.cons renaming injEq → ie
namespace Go.X
open Go Go.Aml Go.Bml
section
variable {P : Program} {B : Tb} {R : Type} {r : R}
def eJ(B:Tb):List Nat->List (TV B.D)->List (TV B.D)->Prop
 |[],[],[]=>True
 |a::ns,e::d,c::f=>(∃b,B.up a e=c5 b/\c=B.tv a b)/\eJ B ns d f
 |_,_,_=>False
theorem Ae:∀{ns:List Nat} {f:List (TV B.D)} {b:bi B.D ns->Option R},m9 B ns f b=c5 r->∃c,b c=c5 r/\eJ B ns f (rQ B ns c)
 |[],[],b,a=>⟨(),a,trivial⟩
 |[j],[h],b,a=>by
  obtain⟨c,d,e⟩:=fq (by simpa only[m9] using a);exact⟨c,e,⟨c,d,rfl⟩,trivial⟩
 |j::k::ns,h::l,b,a=>by
  simp only[m9] at a;obtain⟨c,d,a⟩:=fq a;obtain⟨i,e,g⟩:=Ae a;exact⟨(c,i),e,⟨c,d,rfl⟩,g⟩
 |[],_::_,b,a=>by simp[m9] at a
 |[_],[],b,a=>by simp[m9] at a
 |_::_::_,[],b,a=>by simp[m9] at a
 |[_],_::_::_,b,a=>by simp[m9] at a
theorem eJ.split:∀{ns c:List Nat} {ls e d:List (TV B.D)},eJ B (aX ns c) (aX ls e) d->ls.length=ns.length->∃j k,d=j++k/\eJ B ns ls j/\eJ B c e k
 |[],c,[],e,d,h,_=>⟨[],d,rfl,trivial,h⟩
 |n::ns,c,t::ls,e,m::d,h,a=>by
  obtain⟨u,s⟩:=h;obtain⟨j,k,rfl,l,o⟩:=eJ.split (ns:=ns) (ls:=ls) s (by simpa using a);exact⟨m::j,k,rfl,⟨u,l⟩,o⟩
 |n::ns,c,t::ls,e,[],h,a=>h.elim
 |[],_,_::_,_,_,_,a=>by simp at a
 |_::_,_,[],_,_,_,a=>by simp at a
theorem yx{s:Nat->Type}{H:List (Ob s)}{i:Nat}:∀{l:List Nat},i∈kY H l↔∃r k v m j,r∈l/\nth H r=c5 ⟨k,v,.hole m [] j⟩/\i∈iB j
 |[]=>by simp[kY]
 |r::l=>by
  have n:=yx (H:=H) (i:=i) (l:=l);unfold kY
  split
  ·rename_i k v m j o;rw[bK,c6,n]
   constructor
   ·rintro(p |⟨g,e,d,h,f,b,a,c⟩)
    ·exact⟨r,k,v,m,j,by simp,o,p⟩
    ·exact⟨g,e,d,h,f,c7 _ b,a,c⟩
   ·rintro⟨g,e,d,h,f,b,a,c⟩;rcases d0.1 b with rfl |b
    ·rw[o] at a;injection a with a
     injection a with _ _ a
     injection a with e1 e2 e3
     subst e1;rw[<-e3] at c;exact .inl c
    ·exact .inr ⟨g,e,d,h,f,b,a,c⟩
  ·rename_i q;rw[n]
   constructor
   ·rintro⟨g,e,d,h,f,b,a,c⟩;exact⟨g,e,d,h,f,c7 _ b,a,c⟩
   ·rintro⟨g,e,d,h,f,b,a,c⟩;rcases d0.1 b with rfl |b
    ·exact absurd a (q _ _ _ _)
    ·exact⟨g,e,d,h,f,b,a,c⟩
def jN{b:Nat->Type}(c:List (Ob b))(a:List Nat)(i:Nat):Prop:=i∈aX a (kY c a)
theorem jN.mono{D:Nat->Type}{H:List (Ob D)}{a c:List Nat}{i:Nat}(h:jN H a i)(d:∀r,r∈a->r∈c):jN H c i:=by
 unfold jN at h⊢;rw[bK,c6] at h⊢;rcases h with h |h
 ·exact .inl (d i h)
 ·obtain⟨r,s,v,n,es,k,e,j⟩:=yx.1 h;exact .inr (yx.2 ⟨r,s,v,n,es,d r k,e,j⟩)
theorem jN.one{D:Nat->Type}{H:List (Ob D)}{a:List Nat}{i:Nat}(h:i∈a):jN H a i:=by
 unfold jN;rw[bK,c6];exact .inl h
theorem aoW{g:Gh}{v:List aO}{l:World}{r:Nat}{o:aO}{y:Value}{n:Nat->Prop}{h:List PV}(L:qT g v l r o)(j:SL g o r 0 o.es.length y)(x:h.length=o.es.length)(E:∀(i:Nat) (z:PV),h[i]? =c5 z->z.cells.length=o.sz)
 (F:∀b u,g.β r=c5 (b,u)->n b) (K:∀i a c,cellOf h i a=c5 c->∃p,cellOf o.es i a=c5 p/\∀d,VR g v l p d->VI n l c d):VI n l (.vs o.sz h) y:=by
 obtain⟨_,j⟩:=j;have s:=L.mem;cases q:g.β r with
 |none=>
  rw[q] at j s;obtain⟨_,h0,w,rfl⟩:=j;have:h=[]:=d4 (by omega);subst this;exact .eX o.sz w 0
 |some I=>
  obtain⟨b,u⟩:=I;rw[q] at j s;obtain⟨cap,w,rfl,H,Q,G⟩:=j;obtain⟨rfl,rfl⟩:=G rfl;obtain⟨O,cells,J,M,N,S,C⟩:=s;rw[<-x];have t:∀i a c,cellOf h i a=c5 c->∃d,cells[i*o.sz+a]? =c5 d/\d.oneCell'=true/\VI n l c d:=λi a c f=>by
   obtain⟨p,A,D⟩:=K i a c f;obtain⟨d,e,m,k⟩:=C i a p A;exact⟨d,e,m,D d k⟩
  refine .vs o.sz h b 0 cap (λi a=>(cells[i*o.sz+a]?).getD undef) (by rw[x];exact H) (F b cap q) E (λi a c f=>?_) (λi a c f=>?_) (λi a c f=>?_)
  ·obtain⟨d,e,m,k⟩:=t i a c f;rw[e,d8];unfold World.cell?;rw[J];simpa using e
  ·obtain⟨d,e,m,k⟩:=t i a c f;rw[e];exact m
  ·obtain⟨d,e,m,k⟩:=t i a c f;rw[e];exact k
theorem S8{c:List (Ob B.D)}{a:List Nat}{b:TV B.D}:(pv B (ml c a b)).cells=[pv B (ml c a b)]:=by
 unfold ml
 split
 ·split
  ·cases has a _ <;> rfl
  ·rfl
 ·rfl
theorem agS{g:Gh}{a:List (Ob B.D)}{h:World}{d:List Nat}{i:Nat->Option Nat}{f:Nat->Prop}(k:cU P B)(t:bF g (av B a) h){q j:Nat}{v:Value}(o:q∉d->f q)(p:VR g (av B a) h (.fl q j) v):VI (dj g i f).F h (pv B (ml a d (.fl q j))) v:=by
 unfold ml;simp only
 split
 ·rename_i w z x;cases y:has d q with
  |true=>exact .any v
  |false=>
   obtain⟨A,m⟩:=fx x;have e:=df m;have s:=lh (p.ub e rfl) e rfl;have:=Ed (t.obj q _ e) s (λC l=>by
    obtain⟨u,_,rfl⟩:=e5.1 l;exact k.lt w u) (F:=(dj g i f).F) (λ_ c=>.inl c) λb n c=>.inr ⟨q,n,o (nA y),c⟩
   simp only[aY] at this;rw[hU,List.take_of_length_le (dt _)] at this;exact this
 ·exact .any v
theorem Hi{d:Nat->Type}{c:List (Ob d)}{b:List Nat}:∀a:List (TV d),qf c b a=a.map (ml c b)
 |[]=>rfl
 |e::a=>by simp only[qf,Hi a,f5]
theorem Hw{e:Nat->Type}:∀{l:List (TV e)},DA l=true->∀(i:Nat) (b:TV e),l[i]? =c5 b->∃q c,b= .fl q c/\q∈iB l
 |[],_,_,_,a=>by simp at a
 |j::l,d,i,b,a=>by
  cases j with
  |fl q c=>
   cases i with
   |zero=>simp at a;exact⟨q,c,a.symm,by simp[iB,refs,bK]⟩
   |succ i=>
    obtain⟨h,k,g,f⟩:=Hw (l:=l) d i b (by simpa using a);exact⟨h,k,g,by simp only[iB,bK,c6];exact .inr f⟩
  |_=>cases d
mutual
theorem Jt{g:Gh}{j:List (Ob B.D)}{K:World}{kept:List Nat}{src:Nat->Option Nat}{fz:Nat->Prop}(u:cU P B)(p:bF g (av B j) K):
 ∀(z:TV B.D) (v:Value),(∀i,jN j (refs z) i->i∉kept->fz i)->VR g (av B j) K (pv B z) v->VI (dj g src fz).F K (pv B (kJ j kept z)) v
 | .any,v,d,_=>.any v
 | .z0,v,d,a=>(a.dH .z0).mono (λ_ c=>.inl c) λ_ _=>rfl
 | .fS,v,d,a=>(a.dH .fS).mono (λ_ c=>.inl c) λ_ _=>rfl
 | .bg,v,d,a=>(a.dH .bg).mono (λ_ c=>.inl c) λ_ _=>rfl
 | .dB,v,d,a=>(a.dH .dB).mono (λ_ c=>.inl c) λ_ _=>rfl
 | .int an t,v,d,a=>(a.dH (.int _ _)).mono (λ_ c=>.inl c) λ_ _=>rfl
 | .bool b,v,d,a=>(a.dH (.bool _)).mono (λ_ c=>.inl c) λ_ _=>rfl
 | .str I,v,d,a=>(a.dH (.str _)).mono (λ_ c=>.inl c) λ_ _=>rfl
 | .row t A,v,d,a=>(a.dH (.vs _ _)).mono (λ_ c=>.inl c) λ_ _=>rfl
 | .rv t ak,v,d,a=>(a.dH (.vs _ _)).mono (λ_ c=>.inl c) λ_ _=>rfl
 | .vp x Q,v,d,a=>(a.dH (.dw _ _)).mono (λ_ c=>.inl c) λ_ _=>rfl
 | .ptr ..,v,d,_=>.any v
 | .bu _,v,d,_=>.any v
 | .jC d9,v,d,a=>(a.dH .dB).mono (λ_ c=>.inl c) λ_ _=>rfl
 | .jC (c5 f),v,d,a=>(a.dH (.fn _ _ _ (by simp) (by simp))).mono (λ_ c=>.inl c) λ_ _=>rfl
 | .fl q J,v,d,a=>by
  simp only[kJ];cases S:aK j q J with
  |none=>exact .any v
  |some b=>
   cases b with
   |rows t A=>
    simp only;cases C:has kept q with
    |true=>exact .any v
    |false=>
     obtain⟨I,H⟩:=fx S;have s:=df H;have O:=lh (a.ub s rfl) s rfl;have:=Ed (p.obj q _ s) O (λae l=>by
      obtain⟨k,_,rfl⟩:=e5.1 l;exact u.lt t k) (F:=(dj g src fz).F) (λ_ c=>.inl c) λb L c=>.inr ⟨q,L,d q (.one (by simp[refs])) (nA C),c⟩
     simp only[aY] at this;rw[hU,List.take_of_length_le (dt _)] at this;exact this
   |box _ _=>exact .any v
   |dead=>exact .any v
   |hole t A w=>
    cases A with
    |cons _ _=>exact .any v
    |nil=>
    simp only;cases C:has kept q with
    |true=>exact .any v
    |false=>
    cases ab:DA w with
    |false=>exact .any v
    |true=>
     obtain⟨I,H⟩:=fx S;have s:=df H;have O:=lh (a.ub s rfl) s rfl;have af:=p.obj q _ s;have W:(aY B ⟨I,J,.hole t [] w⟩).es=aP B w:=rfl;have aa:∀i,(aP B (qf j kept w))[i]? =(w[i]?).map λz=>pv B (ml j kept z):=λi=>by
      rw[Hi,db,i8,dd]
      rfl
     refine aoW (o:=aY B ⟨I,J,.hole t [] w⟩) af O (by rw[W,Hi,db,db];simp) (λi ae l=>?_) (λb L c=>.inr ⟨q,L,d q (.one (by simp[refs])) (nA C),c⟩) (λi Q ac h=>?_)
     ·rw[aa] at l;cases e:w[i]? with
      |none=>rw[e] at l;cases l
      |some z=>
       rw[e] at l;injection l with l
       subst l;obtain⟨G,N,rfl,ad⟩:=Hw ab i z e;have:=af.width i (.fl G N) (by rw[W,db,dd,e];rfl);rw[S8];exact this
     ·unfold cellOf at h;rw[aa] at h;cases e:w[i]? with
      |none=>rw[e] at h;cases h
      |some z=>
       rw[e] at h;obtain⟨G,N,rfl,ad⟩:=Hw ab i z e;have h:(pv B (ml j kept (.fl G N))).cells[Q]? =c5 ac:=h;rw[S8] at h;cases Q with
       |succ Q=>simp at h
       |zero=>
        have h:c5 (pv B (ml j kept (.fl G N)))=c5 ac:=h;injection h with h
        subst h;refine⟨.fl G N,?_,λal ah=>agS u p (λai=>d G ?_ ai) ah⟩
        ·unfold cellOf;rw[W,db,dd,e]
         rfl
        ·unfold jN;rw[bK,c6];exact .inr (yx.2 ⟨q,I,J,t,w,by simp[refs],H,ad⟩)
 | .sl q J am len,v,d,a=>by
  simp only[kJ];cases S:aK j q J with
  |none=>exact .any v
  |some b=>
   cases b with
   |rows t A=>
    simp only;cases C:has kept q with
    |true=>exact .any v
    |false=>
     obtain⟨I,H⟩:=fx S;have s:=df H;have O:=lh a s rfl;have:=Ed (p.obj q _ s) O (λae l=>by
      obtain⟨k,_,rfl⟩:=e5.1 l;exact u.lt t k) (F:=(dj g src fz).F) (λ_ c=>.inl c) λb L c=>.inr ⟨q,L,d q (.one (by simp[refs])) (nA C),c⟩
     simpa[aY,pv,i5,List.map_drop] using this
   |box _ _=>exact .any v
   |dead=>exact .any v
   |hole _ _ _=>exact .any v
 | .agg x,v,d,a=>by
  obtain⟨A,rfl,n,C⟩:=a.ky;exact .agg _ A (by rw[<-n];exact(pH (src:=src) u p x A d n C).1) (pH (src:=src) u p x A d n C).2
 | .fn f x M,v,d,a=>by
  have aj:∃m vs:List Value,v= .func (.func f) m.toArray vs.toArray/\(aP B x).length=m.length/\(∀(i:Nat) (y:PV) (k:Value),(aP B x)[i]? =c5 y->m[i]? =c5 k->VR g (av B j) K y k)/\(aP B M).length=vs.length/\
   (∀(i:Nat) (y:PV) (k:Value),(aP B M)[i]? =c5 y->vs[i]? =c5 k->VR g (av B j) K y k):=by
   have ag:VR g (av B j) K (.fn f (aP B x) (aP B M)) v:=a;cases ag with
   |aW a=>cases a with |fn _ _ _ m vs n T D X=>exact⟨m,vs,rfl,n,λi y k U V=>.aW (T i y k U V),D,λi y k U V=>.aW (X i y k U V)⟩
   |fn _ _ _ m vs n T D X=>exact⟨m,vs,rfl,n,T,D,X⟩
  obtain⟨m,vs,rfl,n,Y,D,Z⟩:=aj;exact .fn f _ _ m vs (by rw[<-n];exact(pH (src:=src) u p x m (λi e=>d i (e.mono λr E=>by simp only[refs,bK,c6];exact .inl E)) n Y).1) (pH (src:=src) u p x m (λi e=>d i (e.mono λr E=>by simp only[refs,bK,c6];exact .inl E)) n Y).2 (by rw[<-D];exact(pH (src:=src) u p M vs (λi e=>d i (e.mono λr E=>by simp only[refs,bK,c6];exact .inr E)) D Z).1) (pH (src:=src) u p M vs (λi e=>d i (e.mono λr E=>by simp only[refs,bK,c6];exact .inr E)) D Z).2
theorem pH{g:Gh}{e:List (Ob B.D)}{m:World}{kept:List Nat}{src:Nat->Option Nat}{fz:Nat->Prop}(n:cU P B)(q:bF g (av B e) m):
 ∀(c:List (TV B.D)) (d:List Value),(∀i,jN e (iB c) i->i∉kept->fz i)->(aP B c).length=d.length->(∀(i:Nat) (a:PV) (b:Value),(aP B c)[i]? =c5 a->d[i]? =c5 b->VR g (av B e) m a b)->
  (aP B (jS e kept c)).length=(aP B c).length/\∀(i:Nat) (a:PV) (b:Value),(aP B (jS e kept c))[i]? =c5 a->d[i]? =c5 b->VI (dj g src fz).F m a b
 |[],d,_,_,_=>⟨rfl,by simp[jS,aP]⟩
 |a::c,[],_,k,_=>by simp[aP] at k
 |a::c,b::d,o,k,p=>by
  obtain⟨s,t⟩:=pH (src:=src) n q c d (λi j=>o i (j.mono λr l=>by simp only[iB,bK,c6];exact .inr l)) (by simpa[aP] using k) λi a b h f=>p (i+1) a b (by simpa[aP] using h) (by simpa using f)
  refine⟨by simp[jS,aP,s],λi v u h f=>?_⟩
  cases i with
  |zero=>
   simp[jS,aP] at h f;subst h;subst f;exact Jt n q a b (λi j=>o i (j.mono λr l=>by simp only[iB,bK,c6];exact .inl l)) (p 0 _ _ (by simp[aP]) (by simp))
  |succ i=>exact t i v u (by simpa[jS,aP] using h) (by simpa using f)
end
structure mR (B:Tb) (g:Gh) (H H':List (Ob B.D)) (w:World) (ids:List Rf) (kept:List Nat) (src:Nat->Option Nat) (ρ:Nat->Nat×Nat):Prop where
 m:bF g (av B H) w
 num:∀q,(ρ q).1=q
 bG:∀q i,nth ids q=c5 (.bG i)->src q=c5 i/\∃o o',nth H i=c5 o/\nth H' q=c5 o'/\o'.aF=(ρ q).2/\(aY B o').sz=(aY B o).sz/\(aY B o').es.length=(aY B o).es.length
 new:∀q,nth ids q=c5 .new->src q=d9/\∃o',nth H' q=c5 o'/\o'.aF=(ρ q).2/\(aY B o').es=[]
theorem iK{f:Type}{c b:Option (List f)}{d:List f}(a:cat c b=c5 d):∃g e,c=c5 g/\b=c5 e/\d=aX g e:=by
 unfold cat at a
 split at a
 ·injection a with a
  exact⟨_,_,rfl,rfl,a.symm⟩
 ·cases a
theorem e7(a:Ob B.D):(aY B a).aF=a.aF:=by
 unfold aY
 split <;> rfl
theorem WO{g:Gh}{f m:List (Ob B.D)}{j:World}{o:List Rf}{E:List Nat}{h:Nat->Option Nat}{I:Nat->Prop}{d:Nat->Nat×Nat}(p:mR B g f m j o E h d){q i l A:Nat}{b:Bd B.D}{v:Value}
 (s:nth o q=c5 (.bG i)) (k:nth f i=c5 ⟨A,l,b⟩) (e:VR g (av B f) j (.ptr i l 0 0) v):VR (dj g h I) (av B m) j (.ptr (d q).1 (d q).2 0 0) v:=by
 obtain⟨u,M,G,a,x,D,y,w⟩:=p.bG q i s;rw[k] at a;injection a with a
 subst a;have n:=df k;cases e with
 |aW e=>cases e
 |ptr _ _ _ _ J L c K F=>
  unfold ek at n;rw[n] at c;injection c with c
  subst c;obtain⟨C,H,t,z,rfl⟩:=F (by rw[e7]);rw[p.num];refine .ptr q _ 0 0 (aY B G) _ (df x) (by rw[e7,D];exact dt _) λ_=>⟨by rw[w];exact C,H,t,?_,by rw[y]⟩
  show(h q).bind g.β=_
  rw[u];exact z
theorem LX{g:Gh}{h o:List (Ob B.D)}{j:World}{p:List Rf}{E:List Nat}{d:Nat->Option Nat}{u:Nat->Prop}{e:Nat->Nat×Nat}(t:mR B g h o j p E d e){q i n A:Nat}{b:Bd B.D}{v:Value}
 (w:nth p q=c5 (.bG i)) (k:nth h i=c5 ⟨A,n,b⟩) (f:VR g (av B h) j (.fl i n) v):VR (dj g d u) (av B o) j (.fl (e q).1 (e q).2) v:=by
 obtain⟨x,J,F,a,y,D,z,l⟩:=t.bG q i w;rw[k] at a;injection a with a
 subst a;have s:=df k;cases f with
 |aW f=>cases f
 |fl _ _ H _ c I C G=>
  unfold ek at s;rw[s] at c;injection c with c
  subst c;rw[t.num];refine .fl q _ (aY B F) _ (df y) (by rw[e7,D];exact dt _) C λ_=>?_
  have m:=G (by rw[e7]);rw[l];unfold SL at m⊢;rw[z,l];rw[show(dj g d u).β q=g.β i by show(d q).bind g.β=_;rw[x];rfl];exact m
theorem MD{g:Gh}{p i:List (Ob B.D)}{f:World}{h:List Rf}{o:List Nat}{a:Nat->Option Nat}{e:Nat->Prop}{b:Nat->Nat×Nat}(d:mR B g p i f h o a b){q:Nat}{v:Value}
 (l:nth h q=c5 .new) (j:∃c,v= .slice c 0 0):VR (dj g a e) (av B i) f (.fl (b q).1 (b q).2) v:=by
 obtain⟨t,s,k,n,m⟩:=d.new q l;obtain⟨c,rfl⟩:=j;rw[d.num];refine .fl q _ (aY B s) _ (df k) (by rw[e7,n];exact dt _) rfl λ_=>?_
 unfold SL;rw[show(dj g a e).β q=d9 by show(a q).bind g.β=_;rw[t];rfl,m];exact⟨by simp,rfl,rfl,c,rfl⟩
def Sb(B:Tb)(g:Gh)(e i:List (Ob B.D))(a:World)(d:Nat->Option Nat)(c:Nat->Prop)(f:CP)(h b:TV B.D):Prop:=
 (MG f=true->cE 0 (pv B b))/\∀v,VR g (av B e) a (pv B h) v->VR (dj g d c) (av B i) a (pv B b) v
theorem fu{a b:Bool}(c:(bif a then b else false)=true):a=true/\b=true:=by
 cases a with
 |true=>exact⟨rfl,c⟩
 |false=>cases c
mutual
theorem RY{g:Gh}{x aj:List (Ob B.D)}{w:World}{ab:List Rf}{S:List Nat}{Z:Nat->Option Nat}{fz:Nat->Prop}{ad:Nat->Nat×Nat}(K:cU P B)(H:mR B g x aj w ab S Z ad):
 ∀(c:CP) (s:TV B.D) (o:List (TV B.D)),(∀i,i∈jn x c s->i∉S->fz i)->eR x ab S c s=c5 o->o.length=c.bX.length/\∀h,eJ B c.bX o h->∃aq,(∀Q,hO ad c (h++Q)=(aq,Q))/\Sb B g x aj w Z fz c s aq
 | .any,s,o,t,a=>by
  simp only[eR,dk] at a;subst a;refine⟨rfl,λh n=>?_⟩
  cases h with
  |nil=>exact⟨.any,λ_=>rfl,λ_=>.any,λv _=>.any v⟩
  |cons D h=>exact n.elim
 | .v U,s,o,t,a=>by
  simp only[eR,dk] at a;subst a;refine⟨rfl,λh n=>?_⟩
  match h,n with
  |[D],⟨⟨m,J,aC⟩,_⟩=>
   subst aC;obtain⟨u1,u2⟩:=K.up U _ m J;refine⟨_,λ_=>rfl,λ_=>by rw[K.tv];exact K.lt U m,λv j=>.aW ?_⟩
   rw[K.tv];exact u2.vi (Jt K H.m s v t j)
 | .p q,s,o,t,a=>by
  have O:∃i y I b,s= .ptr i y 0 0/\nth ab q=c5 (.bG i)/\nth x i=c5 ⟨I,y,b⟩/\o=[]:=by
   simp only[eR] at a
   split at a
   ·rename_i i y
    split at a
    ·rename_i W k au d E;obtain⟨p,l⟩:=a8 a;injection l with l
     obtain⟨I,C⟩:=fx d;exact⟨i,y,I,_,rfl,by rw[E,beq_eq p],C,l.symm⟩
    ·cases a
   ·cases a
  obtain⟨i,y,I,b,rfl,E,C,rfl⟩:=O;refine⟨rfl,λh n=>?_⟩
  cases h with
  |nil=>exact⟨_,λ_=>rfl,λa=>(by cases a),λv j=>WO H E C j⟩
  |cons D h=>exact n.elim
 | .r q,s,o,t,a=>by
  have O:o=[]/\∀v,VR g (av B x) w (pv B s) v->VR (dj g Z fz) (av B aj) w (.fl (ad q).1 (ad q).2) v:=by
   simp only[eR] at a
   split at a
   ·rename_i i y
    split at a
    ·rename_i U am au d E;obtain⟨p,l⟩:=a8 a;injection l with l
     obtain⟨I,C⟩:=fx d;exact⟨l.symm,λv j=>LX H (by rw[E,beq_eq p]) C j⟩
    ·rename_i U am bb au d E;obtain⟨p,l⟩:=a8 a;injection l with l
     obtain⟨I,C⟩:=fx d;exact⟨l.symm,λv j=>LX H (by rw[E,beq_eq p]) C j⟩
    ·cases a
   ·split at a
    ·rename_i E;injection a with a
     exact⟨a.symm,λv j=>MD H E ⟨d9,j.pF⟩⟩
    ·cases a
   ·split at a
    ·rename_i E;injection a with a
     exact⟨a.symm,λv j=>MD H E j.rh⟩
    ·cases a
   ·cases a
  obtain⟨rfl,j⟩:=O;refine⟨rfl,λh n=>?_⟩
  cases h with
  |nil=>exact⟨_,λ_=>rfl,λa=>(by cases a),j⟩
  |cons D h=>exact n.elim
 | .q N,s,o,t,a=>by
  have O:∃k,ow N=true/\fg x ab S N k=c5 o/\(∀i,i∈gJ x N k->i∉S->fz i)/\((∃W i y I,s= .ptr i y 0 0/\nth x i=c5 ⟨I,y,.box W k⟩/\i∉S/\fz i)\/s= .vp k 0):=by
   simp only[eR] at a
   split at a
   ·rename_i i y
    split at a
    ·rename_i W k d;obtain⟨I,C⟩:=fx d;cases V:has S i with
     |true=>rw[V] at a;cases a
     |false=>
      rw[V] at a;obtain⟨p,l⟩:=a8 a;refine⟨k,p,l,λe L=>t e ?_,.inl ⟨W,i,y,I,rfl,C,nA V,t i (by simp[jn]) (nA V)⟩⟩
      simp only[jn,C,d0];exact .inr L
    ·cases a
   ·rename_i k;obtain⟨p,l⟩:=a8 a;exact⟨k,p,l,t,.inr rfl⟩
   ·cases a
  obtain⟨k,X,d,aX,aE⟩:=O;obtain⟨aY,a3⟩:=rm (fz:=fz) K H N k o aX d;refine⟨aY,λh n=>?_⟩
  obtain⟨z,aF,ar,a6,ap⟩:=a3 h n;refine⟨.vp z 0,λQ=>by simp only[hO,aF Q],λ_=>.dw _ _,λv j=>.aW ?_⟩
  have ax:∀(i:Nat) (c:PV),(aP B z)[i]? =c5 c->cE 0 c:=λi c d=>a6 X c (dT d)
  rcases aE with⟨W,i,y,I,rfl,C,_,ba⟩ |rfl
  ·have aO:=df C;obtain⟨b,aZ,cells,rfl,G,_,aI,_,_,a5⟩:=Dc H.m j aO (e7 _);have ai:∀(i:Nat) (c:PV),(aP B z)[i]? =c5 c->∃u,cells[i]? =c5 u/\u.oneCell'=true/\VI (dj g Z fz).F w c u:=λe c d=>by
    have L:e<(aP B k).length:=by have:=c9 d;rw[ar] at this;exact this
    obtain⟨u,u1,u2,u3⟩:=a5 0 e _ (show cellOf [PV.agg (aP B k)] 0 e=c5 (aP B k)[e] by simp[cellOf,PV.cells,L]);have a4:cells[e]? =c5 u:=by simpa using u1
    exact⟨u,a4,u2,(ap e _ c u (c4 L) d u3).dH (ax e c d)⟩
   have:=VI.dw (F:=(dj g Z fz).F) (w:=w) (aP B z) 0 b 0 (λe=>cells.getD e undef) (.inr ⟨i,aZ,ba,G⟩)
    (λe c d=>by
     obtain⟨u,u1,u2,u3⟩:=ai e c d;rw[cell_of_row w b _ cells _ (0,0) aI,d8,u1];simp[f7,u1])
    (λe c d=>by
     obtain⟨u,u1,u2,u3⟩:=ai e c d;simpa[f7,u1] using u2)
    (λe c d=>by
     obtain⟨u,u1,u2,u3⟩:=ai e c d;simpa[f7,u1] using u3)
   simpa[pv] using this
  ·have aD:VI g.F w (.dw (aP B k) 0) v:=j.dH (.dw _ _);cases aD with
   |dw _ _ b aR u aA aS p a9=>
    have L:∀(e:Nat) (c:PV),(aP B z)[e]? =c5 c->e<(aP B k).length:=λe c d=>by have:=c9 d;rw[ar] at this;exact this
    exact .dw (aP B z) 0 b aR u (.inl aA) (λe c d=>aS e _ (c4 (L e c d))) (λe c d=>p e _ (c4 (L e c d)))
     λe c d=>(ap e _ c (u e) (c4 (L e c d)) d (.aW (a9 e _ (c4 (L e c d))))).dH (ax e c d)
 | .f bd N aJ,s,o,t,a=>by
  simp only[eR] at a
  split at a
  ·rename_i f k aa;obtain⟨aU,T⟩:=a8 a;clear a;obtain rfl:=beq_eq aU;obtain⟨a1,a2,p,l,rfl⟩:=iK T;obtain⟨al,ae⟩:=rm (fz:=fz) K H N k a1 (λi A=>t i (by simp only[jn,bK,c6];exact .inl A)) p;obtain⟨bc,ay⟩:=rm (fz:=fz) K H aJ aa a2 (λi A=>t i (by simp only[jn,bK,c6];exact .inr A)) l;refine⟨by simp only[CP.bX,bK,d7];omega,λh n=>?_⟩
   obtain⟨aN,aV,rfl,aM,az⟩:=eJ.split n al;obtain⟨z,af,aG,ah,an⟩:=ae aN aM;obtain⟨aw,a0,bf,aK,aH⟩:=ay aV az;refine⟨.fn f z aw,λQ=>by simp only[hO];rw[d3,af,a0],λX=>?_,λv j=>?_⟩
   ·obtain⟨aQ,aT⟩:=fu X;exact .fn _ _ _ (ah aQ) (aK aT)
   ·have aL:VR g (av B x) w (.fn f (aP B k) (aP B aa)) v:=j;have O:∃M vs:List Value,v= .func (.func f) M.toArray vs.toArray/\(aP B k).length=M.length/\(∀(i:Nat) (c:PV) (m:Value),(aP B k)[i]? =c5 c->M[i]? =c5 m->VR g (av B x) w c m)/\(aP B aa).length=vs.length/\
     (∀(i:Nat) (c:PV) (m:Value),(aP B aa)[i]? =c5 c->vs[i]? =c5 m->VR g (av B x) w c m):=by
     cases aL with
     |aW a=>cases a with |fn _ _ _ M vs Y ak ac ao=>exact⟨M,vs,rfl,Y,λi c m p l=>.aW (ak i c m p l),ac,λi c m p l=>.aW (ao i c m p l)⟩
     |fn _ _ _ M vs Y ak ac ao=>exact⟨M,vs,rfl,Y,ak,ac,ao⟩
    obtain⟨M,vs,rfl,Y,aB,ac,a7⟩:=O;refine .fn f _ _ M vs (by show(aP B z).length=_;omega) (λi c m d J=>?_) (by show(aP B aw).length=_;omega) (λi c m d J=>?_)
    ·have A:i<(aP B k).length:=by have:=c9 J;omega
     exact an i _ c m (c4 A) d (aB i _ m (c4 A) J)
    ·have A:i<(aP B aa).length:=by have:=c9 J;omega
     exact aH i _ c m (c4 A) d (a7 i _ m (c4 A) J)
  ·cases a
 | .g N,s,o,t,a=>by
  simp only[eR] at a
  split at a
  ·rename_i k;obtain⟨al,ae⟩:=rm (fz:=fz) K H N k o t a;refine⟨al,λh n=>?_⟩
   obtain⟨z,af,aG,ah,an⟩:=ae h n;refine⟨.agg z,λQ=>by simp only[hO,af Q],λX=>.agg _ (ah X),λv j=>?_⟩
   obtain⟨am,rfl,Y,V⟩:=VR.ky j;refine .agg _ am (by show(aP B z).length=_;omega) λi c m d J=>?_
   have A:i<(aP B k).length:=by have:=c9 J;omega
   exact an i _ c m (c4 A) d (V i _ m (c4 A) J)
  ·cases a
 | .b b,s,o,t,a=>by
  simp only[eR] at a
  split at a
  ·rename_i c;have G:b=c/\o=[]:=by
    cases b <;> cases c <;> simp at a <;> exact⟨rfl,a⟩
   obtain⟨rfl,rfl⟩:=G;refine⟨rfl,λh n=>?_⟩
   cases h with
   |nil=>exact⟨.bool b,λ_=>rfl,λ_=>.bool b,λv j=>.aW ((j.dH (.bool b)).mono (λ_ G=>.inl G) λ_ _=>rfl)⟩
   |cons D h=>exact n.elim
  ·cases a
 | .i ag U,s,o,t,a=>by
  simp only[eR] at a
  split at a
  ·rename_i be D;obtain⟨p,T⟩:=a8 a;obtain⟨l,T⟩:=a8 T;injection T with T
   subst T;clear a;obtain rfl:=qh p;obtain rfl:D=U:=of_decide_eq_true l;refine⟨rfl,λh n=>?_⟩
   cases h with
   |nil=>exact⟨.int ag D,λ_=>rfl,λ_=>.int ag D,λv j=>.aW ((j.dH (.int ag D)).mono (λ_ G=>.inl G) λ_ _=>rfl)⟩
   |cons D h=>exact n.elim
  ·cases a
 | .ns,s,o,t,a=>by
  simp only[eR] at a
  split at a
  ·injection a with a
   subst a;refine⟨rfl,λh n=>?_⟩
   cases h with
   |nil=>exact⟨.bg,λ_=>rfl,λ_=>.bg,λv j=>.aW ((j.dH .bg).mono (λ_ G=>.inl G) λ_ _=>rfl)⟩
   |cons D h=>exact n.elim
  ·cases a
 | .z,s,o,t,a=>by
  simp only[eR] at a
  split at a
  ·injection a with a
   subst a;refine⟨rfl,λh n=>?_⟩
   cases h with
   |nil=>exact⟨.dB,λ_=>rfl,λ_=>.dB,λv j=>.aW ((j.dH .dB).mono (λ_ G=>.inl G) λ_ _=>rfl)⟩
   |cons D h=>exact n.elim
  ·cases a
theorem rm{g:Gh}{m z:List (Ob B.D)}{u:World}{C:List Rf}{t:List Nat}{A:Nat->Option Nat}{fz:Nat->Prop}{v:Nat->Nat×Nat}(w:cU P B)(D:mR B g m z u C t A v):
 ∀(c:List CP) (j:List (TV B.D)) (d:List (TV B.D)),(∀i,i∈gJ m c j->i∉t->fz i)->fg m C t c j=c5 d->d.length=(CP.gA c).length/\∀f,eJ B (CP.gA c) d f->∃h,(∀q,jD v c (f++q)=(h,q))/\(aP B h).length=(aP B j).length/\
  (ow c=true->∀a,a∈aP B h->cE 0 a)/\∀(i:Nat) (a l:PV) (k:Value),(aP B j)[i]? =c5 a->(aP B h)[i]? =c5 l->VR g (av B m) u a k->VR (dj g A fz) (av B z) u l k
 |[],[],d,_,b=>by
  simp only[fg,dk] at b;subst b;refine⟨rfl,λf p=>?_⟩
  cases f with
  |nil=>exact⟨[],λ_=>rfl,rfl,λ_ a e=>(by cases e),λi a l k e=>(by simp[aP] at e)⟩
  |cons ae f=>exact p.elim
 |a::c,ab::j,d,y,b=>by
  simp only[fg] at b;obtain⟨L,K,N,Q,rfl⟩:=iK b;obtain⟨S,Y⟩:=RY (fz:=fz) w D a ab L (λi n=>y i (by simp only[gJ,bK,c6];exact .inl n)) N;obtain⟨af,E⟩:=rm (fz:=fz) w D c j K (λi n=>y i (by simp only[gJ,bK,c6];exact .inr n)) Q;refine⟨by simp only[CP.gA,bK,d7];omega,λf p=>?_⟩
  obtain⟨T,ad,rfl,M,I⟩:=eJ.split p S;obtain⟨H,ac,W,F⟩:=Y T M;obtain⟨h,G,Z,J,X⟩:=E ad I;refine⟨H::h,λq=>by simp only[jD];rw[d3,ac,G],by simp[aP,Z],λU a e=>?_,λi O l k o s x=>?_⟩
  ·obtain⟨V,aa⟩:=fu U;rcases d0.1 e with rfl |e
   ·exact W V
   ·exact J aa a e
  ·cases i with
   |zero=>simp[aP] at o s;subst o;subst s;exact F k x
   |succ i=>exact X i O l k (by simpa[aP] using o) (by simpa[aP] using s) x
 |[],_::_,d,_,b=>by simp[fg] at b
 |_::_,[],d,_,b=>by simp[fg] at b
end
end
section
variable {P : Program} {B : Tb} {R : Type} {r : R}
theorem eJ.len:∀{ns:List Nat} {ls a:List (TV B.D)},eJ B ns ls a->a.length=ns.length/\ls.length=ns.length
 |[],[],[],_=>⟨rfl,rfl⟩
 |n::ns,e::ls,m::a,h=>by
  obtain⟨c,d⟩:=eJ.len h.2;exact⟨by simp[c],by simp[d]⟩
 |[],[],_::_,h=>h.elim
 |[],_::_,_,h=>h.elim
 |_::_,[],_,h=>h.elim
 |_::_,_::_,[],h=>h.elim
theorem eJ.one{n:Nat}{ls c:List (TV B.D)}(h:eJ B [n] ls c):∃a x,ls=[a]/\B.up n a=c5 x/\c=[B.tv n x]:=by
 match ls,c,h with
 |[a],[m],⟨⟨x,d,e⟩,_⟩=>exact⟨a,x,rfl,d,by rw[e]⟩
 |[],_,h=>exact h.elim
 |_::_,[],h=>exact h.elim
 |_::_::_,_::_,⟨_,h⟩=>exact h.elim
 |[_],_::_::_,⟨_,h⟩=>exact h.elim
mutual
theorem Wb{p:Nat->Type}(g:Nat->Nat×Nat):∀(i:CP) (a:List (TV p)),a.length=i.bX.length->∃n,∀e,hO g i (a++e)=(n,e)
 | .any,a,c=>by
  obtain rfl:=d4 (l:=a) (by simpa[CP.bX] using c);exact⟨_,λ_=>rfl⟩
 | .v s,a,c=>by
  match a,c with
  |[u],_=>exact⟨_,λ_=>rfl⟩
 | .p q,a,c=>by
  obtain rfl:=d4 (l:=a) (by simpa[CP.bX] using c);exact⟨_,λ_=>rfl⟩
 | .r q,a,c=>by
  obtain rfl:=d4 (l:=a) (by simpa[CP.bX] using c);exact⟨_,λ_=>rfl⟩
 | .b b,a,c=>by
  obtain rfl:=d4 (l:=a) (by simpa[CP.bX] using c);exact⟨_,λ_=>rfl⟩
 | .i f s,a,c=>by
  obtain rfl:=d4 (l:=a) (by simpa[CP.bX] using c);exact⟨_,λ_=>rfl⟩
 | .ns,a,c=>by
  obtain rfl:=d4 (l:=a) (by simpa[CP.bX] using c);exact⟨_,λ_=>rfl⟩
 | .z,a,c=>by
  obtain rfl:=d4 (l:=a) (by simpa[CP.bX] using c);exact⟨_,λ_=>rfl⟩
 | .q d,a,c=>by
  obtain⟨h,f,_⟩:=pd g d a c;exact⟨.vp h 0,λe=>by simp only[hO,f e]⟩
 | .g d,a,c=>by
  obtain⟨h,f,_⟩:=pd g d a c;exact⟨.agg h,λe=>by simp only[hO,f e]⟩
 | .f t d o,a,c=>by
  simp only[CP.bX,bK,d7] at c;obtain⟨j,f,_⟩:=pd g d (a.take (CP.gA d).length) (by rw[f4];omega);obtain⟨m,k,_⟩:=pd g o (a.drop (CP.gA d).length) (by rw[g8];omega);refine⟨.fn t j m,λe=>?_⟩
  rw[<-ev (CP.gA d).length a,d3];simp only[hO,f,k]
theorem pd{m:Nat->Type}(e:Nat->Nat×Nat):∀(b:List CP) (a:List (TV m)),a.length=(CP.gA b).length->∃g,(∀f,jD e b (a++f)=(g,f))/\g.length=b.length
 |[],a,d=>by
  obtain rfl:=d4 (l:=a) (by simpa[CP.gA] using d);exact⟨[],λ_=>rfl,rfl⟩
 |c::b,a,d=>by
  simp only[CP.gA,bK,d7] at d;obtain⟨i,n⟩:=Wb e c (a.take c.bX.length) (by rw[f4];omega);obtain⟨k,h,j⟩:=pd e b (a.drop c.bX.length) (by rw[g8];omega);refine⟨i::k,λf=>?_,by simp[j]⟩
  rw[<-ev c.bX.length a,d3];simp only[jD,n,h]
end
theorem Kg{e:Nat->Type}{f:List (Ob e)}{i:List Rf}{h:List Nat}:∀{d:List CP} {c b:List (TV e)},fg f i h d c=c5 b->c.length=d.length
 |[],[],_,_=>rfl
 |k::d,l::c,b,a=>by
  simp only[fg] at a;obtain⟨n,j,m,g,rfl⟩:=iK a;simp[Kg g]
 |[],_::_,b,a=>by simp[fg] at a
 |_::_,[],b,a=>by simp[fg] at a
theorem mS(n:cU P B){x:List (Ob B.D)}{G:List Rf}{F:List Nat}{ρ:Nat->Nat×Nat}{k:OP}{i:Rf}{w j:List (TV B.D)}(e v:Nat)(a:dn x G F k i=c5 w)(s:eJ B k.bX w j):
 ∃b,(∀d,dI ρ e v k (j++d)=(b,d))/\b.st=e/\b.aF=v/\
  ((∃q l,i= .bG q/\nth x q=c5 l/\(aY B b).ty=(aY B l).ty/\(aY B b).sz=(aY B l).sz/\(aY B b).es.length=(aY B l).es.length)\/(i= .new/\(aY B b).es=[]/\0<(aY B b).sz)):=by
 cases k with
 |rows c A=>
  obtain⟨J,y,rfl,z,rfl⟩:=s.one;cases i with
  |bG q=>
   simp only[dn] at a
   split at a
   ·rename_i E u g;obtain⟨h,f⟩:=a8 a;obtain rfl:=beq_eq h;simp only[dk,ie,and_true] at f;subst f;rw[n.row A c u y z];exact⟨⟨e,v,.rows c u⟩,λ_=>rfl,rfl,rfl,.inl ⟨q,_,rfl,g,rfl,rfl,rfl⟩⟩
   ·cases a
  |new=>
   simp only[dn,dk,ie,and_true] at a;subst a;rw[n.row A c [] y z];exact⟨⟨e,v,.rows c []⟩,λ_=>rfl,rfl,rfl,.inr ⟨rfl,rfl,n.pos c⟩⟩
  |gone=>simp[dn] at a
  |bad=>simp[dn] at a
 |box D H=>
  cases i with
  |bG q=>
   simp only[dn] at a
   split at a
   ·rename_i L I g;obtain⟨h,f⟩:=a8 a;obtain rfl:=beq_eq h;obtain⟨p,t,o⟩:=pd ρ H j s.len.1;have m:=Kg f;exact⟨⟨e,v,.box D p⟩,λd=>by simp only[dI,t d],rfl,rfl,.inl ⟨q,_,rfl,g,rfl,by simp[aY,o,m],rfl⟩⟩
   ·cases a
  |new=>simp[dn] at a
  |gone=>simp[dn] at a
  |bad=>simp[dn] at a
 |dead=>cases i <;> simp[dn] at a
 |refs c C=>
  cases i with
  |bG q=>
   simp only[dn] at a
   split at a
   ·rename_i E K g;obtain⟨h,f⟩:=a8 a;obtain rfl:=beq_eq h;obtain⟨p,t,o⟩:=pd ρ (iQ C) j s.len.1;have m:=Kg f;exact⟨⟨e,v,.hole c [] p⟩,λd=>by simp only[dI,t d],rfl,rfl,.inl ⟨q,_,rfl,g,rfl,rfl,by simp[aY,db,o,m]⟩⟩
   ·cases a
  |new=>simp[dn] at a
  |gone=>simp[dn] at a
  |bad=>simp[dn] at a
theorem Fq{c:List (Ob B.D)}:∀(a:List Nat) (b:List (TV B.D)),gJ c (iQ a) b=[]
 |[],[]=>rfl
 |[],_::_=>rfl
 |q::a,[]=>rfl
 |q::a,d::b=>by
  simp only[iQ,gJ,jn,aX];exact Fq a b
theorem QY:∀(a:List Nat),CP.gA (iQ a)=[]
 |[]=>rfl
 |q::a=>by simp only[iQ,CP.gA,CP.bX,aX];exact QY a
theorem uA{d:Nat->Type}{c:Nat->Nat×Nat}:∀(b:List Nat) (a:List (TV d)),jD c (iQ b) a=(b.map λq=>.fl (c q).1 (c q).2,a)
 |[],a=>rfl
 |q::b,a=>by simp only[iQ,jD,hO,uA b a,f5]
theorem Fw{i:List (Ob B.D)}{l:List Rf}{k:List Nat}:∀{f:List Nat} {d g:List (TV B.D)},fg i l k (iQ f) d=c5 g->∀c,c∈d->(pv B c).cells=[pv B c]
 |[],[],_,_,c,a=>by cases a
 |[],_::_,_,a,_,_=>by simp[iQ,fg] at a
 |q::f,[],_,a,_,_=>by simp[iQ,fg] at a
 |q::f,c::d,g,a,b,e=>by
  simp only[iQ,fg] at a;obtain⟨n,m,h,j,_⟩:=iK a;rcases d0.1 e with rfl |e
  ·cases b <;> simp only[eR] at h <;> first |rfl |cases h
  ·exact Fw j b e
theorem apB(z:cU P B){g:Gh}{w ac:List (Ob B.D)}{V:World}{ah:List Rf}{S:List Nat}{ae:Nat->Option Nat}{fz:Nat->Prop}{G:Nat->Nat×Nat}(U:mR B g w ac V ah S ae G){F:OP}{q:Nat}{H I:List (TV B.D)}{N v:Nat}{J:Ob B.D}
 (am:∀aa K N v ad u,F= .box aa K->nth w q=c5 ⟨N,v,.box ad u⟩->∀i,i∈gJ w K u->i∉S->fz i) (h:dn w ah S F (.bG q)=c5 H) (O:eJ B F.bX H I) (l:∀ab,dI G N v F (I++ab)=(J,ab)):
 (∀(i:Nat) (a:PV),(aY B J).es[i]? =c5 a->a.cells.length=(aY B J).sz)/\
 ∃af,nth w q=c5 af/\∀i e m,cellOf (aY B J).es i e=c5 m->∃n,cellOf (aY B af).es i e=c5 n/\∀t,VR g (av B w) V n t->VR (dj g ae fz) (av B ac) V m t:=by
 have l:=l [];rw[ef] at l;cases F with
 |rows A n=>
  obtain⟨s,ap,rfl,au,rfl⟩:=O.one;simp only[dn] at h
  split at h
  ·rename_i aq W p;obtain⟨y,o⟩:=a8 h;obtain rfl:=beq_eq y;simp only[dk,ie,and_true] at o;subst o;rw[z.row n A W ap au] at l;simp only[dI,ez,and_true] at l;subst l;have aw:∀a,a∈W.map (B.ty A).enc->cE 0 a:=J2 z;refine⟨λi a j=>?_,_,p,λi e m b=>⟨m,b,λt E=>.aW ((E.dH (nR aw b)).mono (λ_ an=>.inl an) λ_ _=>rfl)⟩⟩
   obtain⟨ai,_,rfl⟩:=e5.1 (dT j);exact z.wid A ai
  ·cases h
 |box aa K=>
  simp only[dn] at h
  split at h
  ·rename_i ad u p;obtain⟨y,o⟩:=a8 h;obtain⟨_,L⟩:=rm (fz:=fz) z U K u H (am _ _ _ _ _ _ rfl p) o;obtain⟨x,Q,ak,_,T⟩:=L I O;have a:=Q [];rw[ef] at a;simp only[dI,a,ez,and_true] at l;subst l;refine⟨λi a j=>?_,_,p,λi e m b=>?_⟩
   ·match i,j with
    |0,j=>
     simp only[aY,h9,dk] at j;subst j;simp[aY,PV.cells,db]
   ·match i,b with
    |0,b=>
     have D:(aP B x)[e]? =c5 m:=b;have Z:e<(aP B u).length:=by have:=c9 D;omega
     exact⟨(aP B u)[e],c4 Z,λt E=>T e _ m t (c4 Z) D E⟩
  ·cases h
 |dead=>simp[dn] at h
 |refs A Y=>
  simp only[dn] at h
  split at h
  ·rename_i aq f p;obtain⟨y,o⟩:=a8 h;obtain rfl:=beq_eq y;obtain⟨_,L⟩:=rm (fz:=fz) z U (iQ Y) f H (λi c=>by rw[Fq] at c;cases c) o;obtain⟨x,Q,ak,_,T⟩:=L I O;have a:=Q [];rw[ef] at a;simp only[dI,a,ez,and_true] at l;subst l;have ar:x=Y.map λq=>.fl (G q).1 (G q).2:=by
    rw[uA] at a;exact(ea a).1.symm
   have ax:∀(s:List (TV B.D)),(∀d,d∈s->(pv B d).cells=[pv B d])->∀i e n,cellOf (aP B s) i e=c5 n->e=0/\(aP B s)[i]? =c5 n:=λs ao i e n b=>by
    unfold cellOf at b;cases c:(aP B s)[i]? with
    |none=>rw[c] at b;cases b
    |some a=>
     rw[c] at b;have b:a.cells[e]? =c5 n:=b;rw[db,dd] at c;cases k:s[i]? with
     |none=>rw[k] at c;cases c
     |some d=>
      rw[k] at c;injection c with c
      subst c;rw[ao d (dT k)] at b;cases e with
      |zero=>injection b with b;exact⟨rfl,by rw[b]⟩
      |succ e=>simp at b
   have X:∀d,d∈x->(pv B d).cells=[pv B d]:=λd k=>by
    rw[ar] at k;obtain⟨q,_,rfl⟩:=e5.1 k
    rfl
   refine⟨λi a j=>?_,_,p,λi e m b=>?_⟩
   ·have j:(aP B x)[i]? =c5 a:=j;have c:i<(aP B f).length:=by have:=c9 j;omega
    have aj:=(U.m.obj _ _ (df p)).width i _ (show(aY B ⟨_,_,.hole A [] f⟩).es[i]? =c5 (aP B f)[i] from c4 c);have y:(aP B f)[i].cells.length=1:=by
     have M:(aP B f)[i]∈f.map (pv B):=by rw[<-db];exact List.getElem_mem c
     obtain⟨d,k,C⟩:=e5.1 M;rw[<-C,Fw o d k]
     rfl
    have al:a.cells.length=1:=by
     rw[db] at j;obtain⟨d,k,C⟩:=e5.1 (dT j);rw[<-C,X d k]
     rfl
    rw[al, <-y,aj]
    rfl
   ·obtain⟨rfl,D⟩:=ax x X i e m b;have c:i<(aP B f).length:=by have:=c9 D;omega
    have ag:(aP B f)[i]? =c5 (aP B f)[i]:=c4 c;refine⟨(aP B f)[i],?_,λt E=>T i _ m t ag D E⟩
    unfold cellOf;show((aP B f)[i]?.bind λa=>a.cells[0]?)=_
    rw[ag];have M:(aP B f)[i]∈f.map (pv B):=by rw[<-db];exact List.getElem_mem c
    obtain⟨d,k,C⟩:=e5.1 M;rw[<-C];show(pv B d).cells[0]? =_
    rw[Fw o d k]
    rfl
  ·cases h
theorem xN{g:List (Ob B.D)}{l:List Rf}{j:List Nat}{ρ:Nat->Nat×Nat}(T:cU P B):∀{F:List (Nat×List Nat×OP)} {z:List Rf} {d k:List (TV B.D)} {q0:Nat},iP g l j F z=c5 d->eJ B (rS F) d k->
 ∃G,(∀s,lM ρ q0 F (k++s)=(G,s))/\G.length=z.length/\∀h i,z[h]? =c5 i->∃w J N L,G[h]? =c5 L/\dn g l j w i=c5 J/\eJ B w.bX J N/\(∀s,dI ρ 0 (ρ (q0+h)).2 w (N++s)=(L,s))/\
  ∀t e D K v M x,w= .box t e->i= .bG D->nth g D=c5 ⟨K,v,.box M x⟩->∀A,A∈gJ g e x->A∈eW g F z
 |[],[],d,k,q0,a,u=>by
  simp only[iP,dk] at a;subst a;cases k with
  |nil=>exact⟨[],λ_=>rfl,rfl,by simp⟩
  |cons I k=>exact u.elim
 |E::F,i::z,d,k,q0,a,u=>by
  simp only[iP] at a;obtain⟨p,H,c,C,rfl⟩:=iK a;have ag:p.length=E.2.2.bX.length:=by
   have:=u.len.2;cases m:E.2.2 with
   |rows I n=>
    rw[m] at c;cases i <;> simp only[dn] at c
    ·split at c
     ·obtain⟨_,c⟩:=a8 c;injection c with c;subst c;rfl
     ·cases c
    ·injection c with c;subst c;rfl
    ·cases c
    ·cases c
   |box t e=>
    rw[m] at c;cases i <;> simp only[dn] at c
    ·split at c
     ·obtain⟨_,c⟩:=a8 c;exact Q7 c
     ·cases c
    ·cases c
    ·cases c
    ·cases c
   |dead=>rw[m] at c;cases i <;> simp[dn] at c
   |refs I ad=>
    rw[m] at c;cases i <;> simp only[dn] at c
    ·split at c
     ·obtain⟨_,c⟩:=a8 c;exact Q7 c
     ·cases c
    ·cases c
    ·cases c
    ·cases c
  obtain⟨aj,av,rfl,X,an⟩:=eJ.split u ag;obtain⟨G,aa,ae,ai⟩:=xN (ρ:=ρ) (q0:=q0+1) T C an;obtain⟨W,V,_⟩:=mS T (ρ:=ρ) 0 (ρ q0).2 c X;refine⟨W::G,λs=>by simp only[lM];rw[d3,V,aa],by simp[ae],λh am y=>?_⟩
  cases h with
  |zero=>
   simp at y;subst y;refine⟨E.2.2,p,aj,W,rfl,c,X,V,λt e D K v M x m y O A S=>?_⟩
   obtain⟨Z,ab,Q⟩:=E;obtain rfl:Q= .box t e:=m;subst y;simp only[eW,O,bK,c6];exact .inl S
  |succ h=>
   obtain⟨w,J,N,L,ah,U,ap,ao,ak⟩:=ai h am (by simpa using y);refine⟨w,J,N,L,by simpa using ah,U,ap,by rw[show q0+(h+1)=q0+1+h by omega];exact ao,λt e D K v M x m af O A S=>?_⟩
   have:=ak t e D K v M x m af O A S;obtain⟨Z,ab,Q⟩:=E;cases Q with
   |rows I n=>simpa[eW] using this
   |dead=>simpa[eW] using this
   |refs I ad=>simpa[eW] using this
   |box aq aw=>
    cases i with
    |bG U=>simp only[eW,bK,c6];exact .inr this
    |new=>simpa[eW] using this
    |gone=>simpa[eW] using this
    |bad=>simpa[eW] using this
 |[],_::_,d,k,q0,a,u=>by simp[iP] at a
 |_::_,[],d,k,q0,a,u=>by simp[iP] at a
where
 Q7 {g:List (Ob B.D)} {l:List Rf} {j:List Nat}:∀{e:List CP} {o d:List (TV B.D)},fg g l j e o=c5 d->d.length=(CP.gA e).length:=λ{e o d} a=>(pp e o d a)
 pp {g:List (Ob B.D)} {l:List Rf} {j:List Nat}:∀(e:List CP) (o d:List (TV B.D)),fg g l j e o=c5 d->d.length=(CP.gA e).length
  |[],[],d,a=>by simp[fg] at a;subst a;rfl
  |n::e,f::o,d,a=>by
   simp only[fg] at a;obtain⟨p,H,c,C,rfl⟩:=iK a;simp only[CP.gA,bK,d7,pp e o H C,aj0 n f p c]
  |[],_::_,d,a=>by simp[fg] at a
  |_::_,[],d,a=>by simp[fg] at a
 aj0 {g:List (Ob B.D)} {l:List Rf} {j:List Nat}:∀(n:CP) (f:TV B.D) (d:List (TV B.D)),eR g l j n f=c5 d->d.length=n.bX.length
  | .any,f,d,a=>by simp[eR] at a;subst a;rfl
  | .v al,f,d,a=>by simp[eR] at a;subst a;rfl
  | .p q,f,d,a=>by
   simp only[eR] at a
   split at a
   ·split at a
    ·obtain⟨_,a⟩:=a8 a;injection a with a;subst a;rfl
    ·cases a
   ·cases a
  | .r q,f,d,a=>by
   simp only[eR] at a
   split at a
   ·split at a
    ·obtain⟨_,a⟩:=a8 a;injection a with a;subst a;rfl
    ·obtain⟨_,a⟩:=a8 a;injection a with a;subst a;rfl
    ·cases a
   ·split at a
    ·injection a with a;subst a;rfl
    ·cases a
   ·split at a
    ·injection a with a;subst a;rfl
    ·cases a
   ·cases a
  | .q e,f,d,a=>by
   simp only[eR] at a
   split at a
   ·rename_i i ar
    split at a
    ·cases Y:has j i with
     |true=>rw[Y] at a;cases a
     |false=>
      rw[Y] at a;obtain⟨_,a⟩:=a8 a;exact pp e _ d a
    ·cases a
   ·obtain⟨_,a⟩:=a8 a;exact pp e _ d a
   ·cases a
  | .f au e ac,f,d,a=>by
   simp only[eR] at a
   split at a
   ·obtain⟨_,a⟩:=a8 a;obtain⟨p,H,c,C,rfl⟩:=iK a;simp only[CP.bX,bK,d7,pp e _ p c,pp ac _ H C]
   ·cases a
  | .g e,f,d,a=>by
   simp only[eR] at a
   split at a
   ·exact pp e _ d a
   ·cases a
  | .b b,f,d,a=>by
   simp only[eR] at a
   split at a
   ·rename_i n;cases b <;> cases n <;> simp at a <;> (subst a;rfl)
   ·cases a
  | .i h al,f,d,a=>by
   simp only[eR] at a
   split at a
   ·obtain⟨_,a⟩:=a8 a;obtain⟨_,a⟩:=a8 a;injection a with a;subst a;rfl
   ·cases a
  | .ns,f,d,a=>by
   simp only[eR] at a
   split at a
   ·injection a with a;subst a;rfl
   ·cases a
  | .z,f,d,a=>by
   simp only[eR] at a
   split at a
   ·injection a with a;subst a;rfl
   ·cases a
theorem Ip(v:cU P B){g:Gh}{x:List (Ob B.D)}{f:St B.D}{D:World}{A:List Rf}{s:List Nat}{z:Nat->Option Nat}{fz:Nat->Prop}{l:Nat->Nat×Nat}(C:mR B g f.H x D A s z l):∀{b:List (Nat×CP)} {j e:List (TV B.D)},(∀i,i∈gK f b->i∉s->fz i)->oz f A s b=c5 j->eJ B (vu b) j e->
 ∀d a,(∃c h,(a,c)∈b/\lk (aX (gR l b e) d) a=h/\Sb B g f.H x D z fz c (lk f.E a) h)\/((∀c,(a,c)∉b)/\lk (aX (gR l b e) d) a=lk d a)
 |[],j,e,_,n,y,d,a=>by
  exact .inr ⟨by simp,rfl⟩
 |p::b,j,e,w,n,y,d,a=>by
  simp only[oz] at n;obtain⟨E,T,G,I,rfl⟩:=iK n;obtain⟨K,Q⟩:=RY (fz:=fz) v C p.2 _ E (λi m=>w i (by simp only[gK,bK,c6];exact .inl m)) G;obtain⟨L,U,rfl,F,N⟩:=eJ.split y K;obtain⟨h,S,M⟩:=Q L F;simp only[gR,S,aX,lk];cases q:ee p.1 a with
  |true=>
   obtain rfl:=beq_eq q;exact .inl ⟨p.2,h,by simp,rfl,M⟩
  |false=>
   have O:p.1≠a:=λt=>by rw[t,g0] at q;cases q
   rcases Ip (fz:=fz) v C (λi m=>w i (by simp only[gK,bK,c6];exact .inr m)) I N d a with⟨c,J,k,o,H⟩ |⟨k,o⟩
   ·exact .inl ⟨c,J,c7 _ k,o,H⟩
   ·exact .inr ⟨λc u=>by
     rcases d0.1 u with t |u
     ·exact O (by rw[<-t])
     ·exact k c u,o⟩
theorem oQ{d:List (Ob B.D)}{f:List Rf}{e:List Nat}:∀{c:List (Nat×List Nat×OP)} {g:List Rf} {b:List (TV B.D)},iP d f e c g=c5 b->b.length=(rS c).length
 |[],[],b,a=>by simp[iP] at a;subst a;rfl
 |p::c,i::g,b,a=>by
  simp only[iP] at a;obtain⟨n,s,m,j,rfl⟩:=iK a;simp only[rS,bK,d7,oQ j,rD m]
 |[],_::_,b,a=>by simp[iP] at a
 |_::_,[],b,a=>by simp[iP] at a
where
 rD {d:List (Ob B.D)} {f:List Rf} {e:List Nat} {op:OP} {i:Rf} {b:List (TV B.D)} (a:dn d f e op i=c5 b):b.length=op.bX.length:=by
  cases op with
  |rows h q=>
   cases i <;> simp only[dn] at a
   ·split at a
    ·obtain⟨_,a⟩:=a8 a;injection a with a;subst a;rfl
    ·cases a
   ·injection a with a;subst a;rfl
   ·cases a
   ·cases a
  |box o l=>
   cases i <;> simp only[dn] at a
   ·split at a
    ·obtain⟨_,a⟩:=a8 a;exact xN.pp l _ b a
    ·cases a
   ·cases a
   ·cases a
   ·cases a
  |dead=>cases i <;> simp[dn] at a
  |refs h k=>
   cases i <;> simp only[dn] at a
   ·split at a
    ·obtain⟨_,a⟩:=a8 a;exact xN.pp (iQ k) _ b a
    ·cases a
   ·cases a
   ·cases a
   ·cases a
theorem gV:∀{b:List Rf} {q i:Nat},nth b q=c5 (.bG i)->i∈bL b
 | .bG c::b,0,i,a=>by simp only[nth,dk,Rf.bG.injEq] at a;subst a;simp[bL]
 | .bG c::b,q+1,i,a=>by simp only[nth] at a;simp[bL,gV a]
 | .new::b,q+1,i,a=>by simp only[nth] at a;simpa[bL] using gV a
 | .gone::b,q+1,i,a=>by simp only[nth] at a;simpa[bL] using gV a
 | .bad::b,q+1,i,a=>by simp only[nth] at a;simpa[bL] using gV a
 | .new::_,0,i,a=>by simp[nth] at a
 | .gone::_,0,i,a=>by simp[nth] at a
 | .bad::_,0,i,a=>by simp[nth] at a
 |[],_,_,a=>by simp[nth] at a
theorem ES:∀{ids:List Rf} {q d i:Nat},(bL ids).Nodup->nth ids q=c5 (.bG i)->nth ids d=c5 (.bG i)->q=d
 |[],_,_,_,_,a,_=>by simp[nth] at a
 |_::_,0,0,_,_,_,_=>rfl
 |e::ids,0,d+1,i,b,a,c=>by
  simp only[nth,dk] at a c;subst a;simp only[bL,h8] at b;exact absurd (gV c) b.1
 |e::ids,q+1,0,i,b,a,c=>by
  simp only[nth,dk] at a c;subst c;simp only[bL,h8] at b;exact absurd (gV a) b.1
 |e::ids,q+1,d+1,i,b,a,c=>by
  have f:(bL ids).Nodup:=by
   cases e <;> simp only[bL,h8] at b <;> first |exact b.2 |exact b
  rw[ES (ids:=ids) f a c]
def eQ(a:List Rf)(q:Nat):Option Nat:=match nth a q with
 |some (.bG i)=>c5 i
 |_=>d9
theorem qS{b:List Rf}{q i:Nat}(a:eQ b q=c5 i):nth b q=c5 (.bG i):=by
 unfold eQ at a
 split at a
 ·rename_i d c;injection a with a
  rw[c,a]
 ·cases a
theorem pn{a:List Rf}{q i:Nat}(b:nth a q=c5 (.bG i)):eQ a q=c5 i:=by unfold eQ;rw[b]
end
section
variable {P : Program} {B : Tb} {R : Type} {r : R}
theorem Qq{n:Nat->Type}{h:List (Ob n)}:∀{c b:Nat} {f:List Rf},qH h c b f=true->∀i,i<c->nth f i=c5 (.bG (b+i))/\∃d,nth h (b+i)=c5 d/\d.aF=0
 |0,_,_,_,i,j=>by omega
 |c+1,b,[],a,_,_=>by simp[qH] at a
 |c+1,b,.bG g::f,a,i,j=>by
  simp only[qH] at a;obtain⟨o,e⟩:=fu a;obtain rfl:=beq_eq o
  split at e
  ·rename_i d k;obtain⟨l,m⟩:=fu e;cases i with
   |zero=>exact⟨rfl,d,k,beq_eq l⟩
   |succ i=>
    have:=Qq m i (by omega);rw[show g+(i+1)=g+1+i by omega];exact this
  ·cases e
 |c+1,b,.new::_,a,_,_=>by simp[qH] at a
 |c+1,b,.gone::_,a,_,_=>by simp[qH] at a
 |c+1,b,.bad::_,a,_,_=>by simp[qH] at a
theorem oU{c:List (Ob B.D)}{i:Nat}{e:aO}(a:(av B c)[i]? =c5 e):∃b,nth c i=c5 b/\e=aY B b:=by
 unfold av at a;rw[dd] at a;cases d:c[i]? with
 |none=>rw[d] at a;cases a
 |some b=>
  rw[d] at a;injection a with a
  exact⟨b,by rw[cJ];exact d,a.symm⟩
theorem O1(C:cU P B){g:Gh}{j n:List (Ob B.D)}{x:World}{b:List Rf}{w:Nat->Prop}{J:Nat->Nat×Nat}(u:mR B g j n x b (bL b) (eQ b) J)(aj:(bL b).Nodup)(az:b.length<=n.length)(an:∀i,w i->∀q,eQ b q≠c5 i)
 (z:∀q c,nth n q=c5 c->(∃p i D E m v,nth b q=c5 (.bG i)/\(∀N G m v ao H,p= .box N G->nth j i=c5 ⟨m,v,.box ao H⟩->∀i,i∈gJ j G H->i∉bL b->w i)/\dn j b (bL b) p (.bG i)=c5 D/\eJ B p.bX D E/\∀O,dI J m v p (E++O)=(c,O))\/
  (∃i s,nth b q=c5 (.bG i)/\nth j i=c5 s/\c=s/\∀y S,VR g (av B j) x y S->(∃A l o,aY B s=A/\cellOf A.es l o=c5 y\/cE 0 y)->VR (dj g (eQ b) w) (av B n) x y S)\/
  (eQ b q=d9/\(aY B c).es=[]/\0<(aY B c).sz)):bF (dj g (eQ b) w) (av B n) x:=by
 refine bF.re u.m an (λq ay i h Z=>ES aj (qS h) (qS Z)) (λq i h=>?_) λq A ae=>?_
 ·have h:=qS h;rw[cJ] at h;have:=c9 h;rw[qL];omega
 ·obtain⟨c,ac,rfl⟩:=oU ae;rcases z q c ac with⟨p,i,D,E,m,v,k,ah,e,Q,T⟩ |⟨i,s,k,L,rfl,aw⟩ |⟨a,f,au⟩
  ·obtain⟨ap,ai,_,_,ax⟩:=mS C m v e Q;obtain rfl:ap=c:=by
    have aq:=ai [];have I:=T [];rw[aq] at I;exact(ea I).1
   obtain⟨aa,s,F,al⟩:=apB C u ah e Q T;rcases ax with⟨X,aA,d,t,ag,W,am⟩ |⟨d,_⟩
   ·injection d with d
    subst d;rw[F] at t;injection t with t
    subst t;have af:=(u.m.obj i _ (df F)).pos;refine⟨by rw[W];exact af,aa,λa=>?_,λX a=>?_⟩
    ·rw[pn k] at a;cases a
    ·rw[pn k] at a;injection a with a
     subst a;exact⟨_,df F,ag,W,am,al⟩
   ·cases d
  ·have z:=u.m.obj i _ (df L);refine⟨z.pos,z.width,λa=>?_,λX a=>?_⟩
   ·rw[pn k] at a;cases a
   ·rw[pn k] at a;injection a with a
    subst a;refine⟨_,df L,rfl,rfl,rfl,λl o U e=>⟨U,e,λar ak=>aw U ar ak ?_⟩⟩
    cases Y:c.bd with
    |rows M ab=>
     refine⟨aY B c,l,o,.inr (nR (es:=(aY B c).es) (λd f=>?_) e)⟩
     simp only[aY,Y] at f;obtain⟨ad,_,rfl⟩:=e5.1 f;exact C.lt M ad
    |box N G=>
     exact⟨aY B c,l,o,.inl ⟨rfl,e⟩⟩
    |hole M ab es=>
     exact⟨aY B c,l,o,.inl ⟨rfl,e⟩⟩
    |dead=>
     obtain⟨d,f,_⟩:=gw e;simp[aY,Y] at f
  ·refine⟨au,λi d K=>?_,λ_=>f,λi V=>?_⟩
   ·rw[f] at K;simp at K
   ·rw[a] at V;cases V
theorem PQ(m:cU P B){p:bY}{e:St B.D}{a:List Rf}{S:List (TV B.D)}{s:bi B.D p.bX}(o:leaves p e a=c5 S)(af:eJ B p.bX S (rQ B p.bX s)){g:Gh}{f:World}(Z:bF g (av B e.H) f)
 {fz:Nat->Prop} (aj:∀i,fz i->∀q,eQ a q≠c5 i) (V:∀i,i∈aX (eW e.H p.dF a) (gK e p.dE)->i∉bL a->fz i):
 (bL a).Nodup/\mR B g e.H (cz B p s).H f a (bL a) (eQ a) (λq=>(q,0))/\bF (dj g (eQ a) fz) (av B (cz B p s).H) f/\
  ∀w v,VR g (av B e.H) f (pv B (lk e.E w)) v->VR (dj g (eQ a) fz) (av B (cz B p s).H) f (pv B (lk (cz B p s).E w)) v:=by
 unfold leaves at o;obtain⟨aA,o⟩:=a8 o;obtain⟨U,o⟩:=a8 o;obtain⟨aw,ax,T,ai,rfl⟩:=iK o;obtain⟨D,M,ab,ae,ap⟩:=eJ.split af (oQ T);obtain⟨F,X,az,K⟩:=xN m (ρ:=λq=>(q,0)) (q0:=0) T ae;have al:cz B p s=⟨gR (λq=>(q,0)) p.dE M,F⟩:=by
  unfold cz nI;rw[ab,X]
 rw[al];have Q:mR B g e.H F f a (bL a) (eQ a) (λq=>(q,0)):=by
  refine⟨Z,λ_=>rfl,λq i k=>⟨pn k,?_⟩,λq k=>⟨by unfold eQ;rw[k],?_⟩⟩
  ·obtain⟨N,I,D,C,d,h,u,t,O⟩:=K q _ (by rw[<-cJ];exact k);obtain⟨j,x,_,n,z⟩:=mS m (ρ:=λq=>(q,0)) 0 0 h u;obtain rfl:j=C:=by
    have y:=x [];have c:=t [];rw[y] at c;exact(ea c).1
   rcases z with⟨E,L,b,aa,ay,ao,ag⟩ |⟨b,_⟩
   ·injection b with b
    subst b;exact⟨L,j,aa,by rw[cJ];exact d,n,ao,ag⟩
   ·cases b
  ·obtain⟨N,I,D,C,d,h,u,t,O⟩:=K q _ (by rw[<-cJ];exact k);obtain⟨j,x,_,n,z⟩:=mS m (ρ:=λq=>(q,0)) 0 0 h u;obtain rfl:j=C:=by
    have y:=x [];have c:=t [];rw[y] at c;exact(ea c).1
   rcases z with⟨E,L,b,_⟩ |⟨_,H,_⟩
   ·cases b
   ·exact⟨j,by rw[cJ];exact d,n,H⟩
 refine⟨(tw _).1 U,Q,O1 m Q ((tw _).1 U) (show a.length<=F.length by omega) aj λq ak G=>?_,λw v n=>?_⟩
 ·rw[cJ] at G;have k:q<F.length:=c9 G;have l:a[q]? =c5 a[q]:=c4 (by omega);obtain⟨N,I,D,C,d,h,u,t,O⟩:=K q _ l;rw[G] at d;injection d with d
  subst d;have A:nth a q=c5 a[q]:=by rw[cJ];exact l
  obtain⟨j,x,_,n,z⟩:=mS m (ρ:=λq=>(q,0)) 0 0 h u;obtain rfl:j=ak:=by
   have y:=x [];have c:=t [];rw[y] at c;exact(ea c).1
  rcases z with⟨E,L,b,_⟩ |⟨b,H,am⟩
  ·rw[b] at A h;exact .inl ⟨N,E,I,D,_,_,A,λac an ad v ah W aq Y i l J=>V i (by rw[bK,c6];exact .inl (O ac an E ad v ah W aq b Y i l)) J,h,u,t⟩
  ·rw[b] at A;exact .inr (.inr ⟨by unfold eQ;rw[A],H,am⟩)
 ·have:=Ip m Q (λi l J=>V i (by rw[bK,c6];exact .inr l) J) ai ap [] w;rw[bK,ef] at this;rcases this with⟨aB,au,_,b,ar⟩ |⟨_,b⟩
  ·show VR _ _ f (pv B (lk (gR _ p.dE M) w)) v
   rw[b];exact ar.2 v n
  ·show VR _ _ f (pv B (lk (gR _ p.dE M) w)) v
   rw[b];exact .any v
theorem EK(u:cU P B){m:Nat}{p:bY}{c:St B.D}{s:bi B.D p.bX->Option R}(a:take B m p c s=c5 r){g:Gh}{w:World}(D:bF g (av B c.H) w):
 ∃b,s b=c5 r/\∃h,bF h (av B (cz B p b).H) w/\Bml.GStep m g (av B c.H) w h (av B (cz B p b).H) w/\∀n v,VR g (av B c.H) w (pv B (lk c.E n)) v->VR h (av B (cz B p b).H) w (pv B (lk (cz B p b).E n)) v:=by
 unfold take at a;obtain⟨j,a⟩:=a8 a;obtain⟨N,k,a⟩:=fq a;obtain⟨b,H,E⟩:=Ae a;refine⟨b,H,?_⟩
 generalize O:nQ c p.dF=I at j k;obtain⟨_,K,L,y⟩:=PQ u k E D (fz:=λi=>∀q,eQ I q≠c5 i) (λ_ a=>a) (λi _ f q t=>f (gV (qS t)));refine⟨_,L,?_,y⟩
 refine Bml.GStep.re λi G f x=>?_
 obtain⟨Q,o,rfl⟩:=oU x;obtain⟨l,G,d,z⟩:=Qq j i f;rw[d8] at l d;rw[o] at d;injection d with d
 subst d;obtain⟨A,M,S,e,C,T,F,J⟩:=K.bG i i l;rw[o] at e;injection e with e
 subst e;exact⟨_,df C,by rw[e7,e7,z];exact hK _,λ_=>⟨A,F,J⟩⟩
end
structure Ext {D:Nat->Type} (ws:List Nat) (S0 S:St D):Prop where
 e:∀t,t∉ws->lk S.E t=lk S0.E t
 len:S0.H.length<=S.H.length
 h:∀i o0 o,nth S0.H i=c5 o0->nth S.H i=c5 o->o0.st<=o.st/\(o0.st=o.st->o=o0)
theorem Ext.refl{D:Nat->Type}(d:List Nat)(c:St D):Ext d c c:=⟨λ_ _=>rfl,dt _,λi e j h a=>by rw[h] at a;injection a with a;subst a;exact⟨dt _,λ_=>rfl⟩⟩
theorem Ext.trans{D:Nat->Type}{c:List Nat}{d a m:St D}(h:Ext c d a)(k:Ext c a m):Ext c d m:=by
 refine⟨λt ht=>(k.e t ht).trans (h.e t ht),hP h.len k.len,λi j l h0 w=>?_⟩
 have u:i<a.H.length:=by
  rw[cJ] at h0;have:=c9 h0;have:=h.len;omega
 have n:nth a.H i=c5 a.H[i]:=by rw[cJ];exact c4 u
 obtain⟨a1,x⟩:=h.h i j _ h0 n;obtain⟨A,s⟩:=k.h i _ l n w;refine⟨hP a1 A,λe=>?_⟩
 have y:j.st=a.H[i].st:=by omega
 have o:a.H[i].st=l.st:=by omega
 rw[s o,x y]
theorem Ext.more{D:Nat->Type}{c e:List Nat}{a d:St D}(h:Ext c a d)(j:∀t,t∈c->t∈e):Ext e a d:=
 ⟨λt ht=>h.e t λk=>ht (j t k),h.len,h.h⟩
section
variable {P : Program} {B : Tb} {R : Type} {r : R}
theorem I5{f:Type}:∀{ch:List (Nat×f)} {H:List f},(ch.map (·.1)).Nodup->(∀i a,(i,a)∈ch->i<H.length->nth (b8 H ch) i=c5 a)/\∀i,i∉ch.map (·.1)->nth (b8 H ch) i=nth H i
 |[],H,_=>⟨λi a g=>by simp at g,λi _=>rfl⟩
 |p::ch,H,d=>by
  simp only[f5,h8] at d;obtain⟨j,e⟩:=I5 (ch:=ch) (H:=me H p.1 p.2) d.2;refine⟨λi a c b=>?_,λi b=>?_⟩
  ·rcases d0.1 c with rfl |c
   ·show nth (b8 (me H i a) ch) i=c5 a
    rw[e i d.1,cJ,iL,e4 b]
   ·exact j i a c (by rw[iL,eE];exact b)
  ·simp only[f5,d0,not_or] at b;show nth (b8 (me H p.1 p.2) ch) i=_
   rw[e i b.2,cJ,cJ,iL,ec (λh=>b.1 h.symm)]
theorem aov(a:List (Nat×Bool×OP)):DZ a=a.map (·.1):=by
 induction a with
 |nil=>rfl
 |cons c a b=>simp[DZ,b]
theorem adx{e:List (Nat×Bool×OP)}{i:Nat}(a:bN e i=false):∀b,b∈e->b.1≠i:=by
 induction e with
 |nil=>intro b c;cases c
 |cons h e g=>
  simp only[bN] at a;cases d:ee h.1 i with
  |true=>rw[d] at a;cases a
  |false=>
   rw[d] at a;intro b c;rcases d0.1 c with rfl |c
   ·intro f;rw[f,g0] at d;cases d
   ·exact g a b c
theorem adS{c:List (Nat×Bool×OP)}{i:Nat}(a:bN c i=true):∃b,b∈c/\b.1=i:=by
 induction c with
 |nil=>cases a
 |cons e c g=>
  simp only[bN] at a;cases d:ee e.1 i with
  |true=>exact⟨e,by simp,beq_eq d⟩
  |false=>
   rw[d] at a;obtain⟨b,h,f⟩:=g a;exact⟨b,c7 _ h,f⟩
theorem IM{b:List (Nat×Bool×OP)}{i:Nat}(a:bN b i=false):gone b i=false:=by
 induction b with
 |nil=>rfl
 |cons e b d=>
  simp only[bN] at a;cases c:ee e.1 i with
  |true=>rw[c] at a;cases a
  |false=>rw[c] at a;simp only[gone,c,cond_false];exact d a
theorem rc{b:List (Nat×Bool×OP)}{a:Nat×Bool×OP}(d:(b.map (·.1)).Nodup)(c:a∈b):gone b a.1=a.2.2.qj/\mw.kv b a.1=a.2.1/\bN b a.1=true:=by
 induction b with
 |nil=>cases c
 |cons e b h=>
  simp only[f5,h8] at d;rcases d0.1 c with rfl |c
  ·simp[gone,mw.kv,bN,g0]
  ·have g:ee e.1 a.1=false:=by
    cases i:ee e.1 a.1 with
    |false=>rfl
    |true=>exact absurd (by rw[beq_eq i];exact g6 (f:=(·.1)) c) d.1
   simp only[gone,mw.kv,bN,g,cond_false];exact h d.2 c
theorem Jf(d:List (Nat×Bool×OP)):∀(a b:Nat) (c:List Rf) (q:Nat),nth (nL d a b c) q=if q<a then c5 (bif gone d (b+q) then .gone else .bG (b+q)) else nth c (q -a)
 |0,b,c,q=>by simp[nL]
 |a+1,b,c,0=>by simp[nL,nth]
 |a+1,b,c,q+1=>by
  simp only[nL,nth];rw[Jf d a (b+1) c q,show b+1+q=b+(q+1) by omega]
  by_cases e:q<a
  ·rw[if_pos e,if_pos (by omega)]
  ·rw[if_neg e,if_neg (by omega),show q+1 - (a+1)=q -a by omega]
theorem Pc(d:List (Nat×Bool×OP)):∀(a c:Nat) (b:List Rf),(nL d a c b).length=a+b.length
 |0,c,b=>by simp[nL]
 |a+1,c,b=>by simp[nL,Pc d a];omega
theorem Ri{p:Nat->Type}{k:List (Nat×Bool×OP)}:∀{g h:List (Ob p)} {j:Nat},calm k j g h=true->∀i c,nth g i=c5 c->∃e,nth h i=c5 e/\(bN k (j+i)=false->c.st=e.st)
 |[],_,_,_,i,c,a=>by simp[nth] at a
 |q::g,b::h,j,a,i,c,d=>by
  simp only[calm] at a;obtain⟨l,o⟩:=fu a;cases i with
  |zero=>
   simp only[nth,dk] at d;subst d;refine⟨b,rfl,λf=>?_⟩
   rw[g3] at f;rw[f] at l;exact beq_eq l
  |succ i=>
   obtain⟨e,m,n⟩:=Ri o i c d;exact⟨e,m,λf=>n (by rw[<-f];congr 1;omega)⟩
 |_::_,[],_,a,i,c,d=>by simp[calm] at a
theorem vV{q:Nat->Type}{h n:List (Ob q)}:∀{k:List (Nat×Bool×OP)},wH h n k=true->∀c,c∈k->c.1<h.length/\(c.2.1=true->c.2.2≠ .dead/\∃e b,nth h c.1=c5 e/\nth n c.1=c5 b/\e.aF=b.aF)
 |[],_,c,d=>by cases d
 |e::k,a,c,d=>by
  simp only[wH] at a;cases i:e.2.1 with
  |true=>
   rw[i] at a;simp only[cond_true] at a
   split at a
   ·rename_i s p j o;cases f:e.2.2.qj with
    |true=>rw[f] at a;cases a
    |false=>
     rw[f] at a;obtain⟨l,g⟩:=fu a;rcases d0.1 d with rfl |d
     ·refine⟨by rw[cJ] at j;exact c9 j,λ_=>⟨λc=>(by rw[c] at f;cases f),s,p,j,o,beq_eq l⟩⟩
     ·exact vV g c d
   ·cases a
  |false=>
   rw[i] at a;simp only[cond_false] at a;obtain⟨l,g⟩:=fu a;rcases d0.1 d with rfl |d
   ·refine⟨by rw[<-eu];exact d6 l,λm=>by rw[i] at m;cases m⟩
   ·exact vV g c d
theorem RZ{c:Nat}:∀{d:List (Nat×Bool×OP)},zE c d=true->∀a,a∈d->a.1<c->a.2.1=true/\a.2.2.qj=false
 |[],_,a,b,_=>by cases b
 |m::d,f,a,b,l=>by
  simp only[zE] at f;obtain⟨e,j⟩:=fu f;rcases d0.1 b with rfl |b
  ·cases g:hY c a.1 with
   |true=>have:=d6 g;omega
   |false=>
    rw[g] at e;simp only[cond_false] at e;obtain⟨k,h⟩:=fu e;refine⟨k,?_⟩
    cases i:a.2.2.qj with
    |false=>rfl
    |true=>rw[i] at h;cases h
  ·exact RZ j a b l
theorem NT(t:cU P B){k H0:List (Ob B.D)}{m:List Rf}{l:List Nat}{ρ:Nat->Nat×Nat}:∀{h:List (Nat×Bool×OP)} {x u:List (TV B.D)},pX k m l h=c5 x->eJ B (ux h) x u->x.length=(ux h).length->
 ∃g,(∀e,pU H0 ρ h (u++e)=(g,e))/\g.map (·.1)=h.map (·.1)/\∀i d,(i,d)∈g->∃a,a∈h/\a.1=i/\d.st=dJ H0 i/\d.aF=(ρ i).2/\
  ((a.2.2= .dead/\d.bd= .dead)\/(a.2.2≠ .dead/\∃o q,dn k m l a.2.2 (.bG i)=c5 o/\eJ B a.2.2.bX o q/\∀e,dI ρ (dJ H0 i) (ρ i).2 a.2.2 (q++e)=(d,e)))
 |[],x,u,y,D,_=>by
  simp only[pX,dk] at y;subst y;cases u with
  |nil=>exact⟨[],λ_=>rfl,rfl,λi d j=>by cases j⟩
  |cons A u=>exact D.elim
 |b::h,x,u,y,D,V=>by
  simp only[pX] at y;obtain⟨n,U,c,O,rfl⟩:=iK y;have L:n.length=b.2.2.bX.length:=by
   cases f:b.2.2 with
   |dead=>rw[f] at c;injection c with c;subst c;rfl
   |rows A S=>rw[f] at c;exact oQ.rD (show dn k m l _ (.bG b.1)=c5 n from c)
   |box M g=>rw[f] at c;exact oQ.rD (show dn k m l _ (.bG b.1)=c5 n from c)
   |refs A I=>rw[f] at c;exact oQ.rD (show dn k m l _ (.bG b.1)=c5 n from c)
  obtain⟨z,E,rfl,p,H⟩:=eJ.split D L;obtain⟨g,s,v,w⟩:=NT t (H0:=H0) (ρ:=ρ) O H H.len.2;cases f:b.2.2 with
  |dead=>
   rw[f] at c p;injection c with c
   subst c;have N:z=[]:=d4 p.len.1;subst N;refine⟨(b.1,⟨dJ H0 b.1,(ρ b.1).2,.dead⟩)::g,λe=>by simp only[pU,f,dI,List.nil_append,s],by simp[v],λi d j=>?_⟩
   rcases d0.1 j with a |j
   ·injection a with e1 e2
    subst e1;subst e2;exact⟨b,by simp,rfl,rfl,rfl,.inl ⟨f,rfl⟩⟩
   ·obtain⟨a,C,F⟩:=w i d j;exact⟨a,c7 _ C,F⟩
  |rows A S=>exact GC t (ρ:=ρ) (H0:=H0) b (by rw[f];simp) (by rw[f] at c;rw[f];exact c) p s v w
  |box M T=>exact GC t (ρ:=ρ) (H0:=H0) b (by rw[f];simp) (by rw[f] at c;rw[f];exact c) p s v w
  |refs A I=>exact GC t (ρ:=ρ) (H0:=H0) b (by rw[f];simp) (by rw[f] at c;rw[f];exact c) p s v w
where
 GC (t:cU P B) {k H0:List (Ob B.D)} {m:List Rf} {l:List Nat} {ρ:Nat->Nat×Nat} {h:List (Nat×Bool×OP)} {n z E:List (TV B.D)} {g:List (Nat×Ob B.D)} (b:Nat×Bool×OP) (hd:b.2.2≠ .dead)
  (c:dn k m l b.2.2 (.bG b.1)=c5 n) (p:eJ B b.2.2.bX n z) (s:∀e,pU H0 ρ h (E++e)=(g,e)) (v:g.map (·.1)=h.map (·.1))
  (w:∀i d,(i,d)∈g->∃a,a∈h/\a.1=i/\d.st=dJ H0 i/\d.aF=(ρ i).2/\
   ((a.2.2= .dead/\d.bd= .dead)\/(a.2.2≠ .dead/\∃o q,dn k m l a.2.2 (.bG i)=c5 o/\eJ B a.2.2.bX o q/\∀e,dI ρ (dJ H0 i) (ρ i).2 a.2.2 (q++e)=(d,e)))):
  ∃g,(∀e,pU H0 ρ (b::h) (z++E++e)=(g,e))/\g.map (·.1)=(b::h).map (·.1)/\∀i d,(i,d)∈g->∃a,a∈b::h/\a.1=i/\d.st=dJ H0 i/\d.aF=(ρ i).2/\
   ((a.2.2= .dead/\d.bd= .dead)\/(a.2.2≠ .dead/\∃o q,dn k m l a.2.2 (.bG i)=c5 o/\eJ B a.2.2.bX o q/\∀e,dI ρ (dJ H0 i) (ρ i).2 a.2.2 (q++e)=(d,e))):=by
  obtain⟨K,G,J,Q,_⟩:=mS t (ρ:=ρ) (dJ H0 b.1) (ρ b.1).2 c p;refine⟨(b.1,K)::g,λe=>?_,by simp[v],λi d j=>?_⟩
  ·rw[d3];simp only[pU];rw[G];simp only[s]
  ·rcases d0.1 j with a |j
   ·injection a with e1 e2
    subst e1;subst e2;exact⟨b,by simp,rfl,J,Q,.inr ⟨hd,n,z,c,p,G⟩⟩
   ·obtain⟨a,C,F⟩:=w i d j;exact⟨a,c7 _ C,F⟩
theorem HX{f:List (Ob B.D)}{h:List Rf}{d:List Nat}:∀{j:List (Nat×Bool×OP)} {g:List (TV B.D)},pX f h d j=c5 g->g.length=(ux j).length
 |[],g,b=>by simp[pX] at b;subst b;rfl
 |c::j,g,b=>by
  simp only[pX] at b;obtain⟨i,n,a,l,rfl⟩:=iK b;have m:i.length=c.2.2.bX.length:=by
   cases e:c.2.2 with
   |dead=>rw[e] at a;injection a with a;subst a;rfl
   |rows k p=>rw[e] at a;exact oQ.rD (show dn f h d _ (.bG c.1)=c5 i from a)
   |box o s=>rw[e] at a;exact oQ.rD (show dn f h d _ (.bG c.1)=c5 i from a)
   |refs k q=>rw[e] at a;exact oQ.rD (show dn f h d _ (.bG c.1)=c5 i from a)
  simp only[ux,bK,d7,m,HX l]
theorem D4{h:Nat->Type}(b:List Nat):∀(e:En h) (a:Nat),lk (mN b e) a=if a∈b then .any else lk e a
 |[],a=>by simp[mN,lk]
 |p::r,a=>by
  simp only[mN];cases g:has b p.1 with
  |true=>
   have f:=(oO _ _).1 g;simp only[cond_true,D4 b r a,lk]
   by_cases c:a∈b
   ·rw[if_pos c,if_pos c]
   ·rw[if_neg c,if_neg c];cases d:ee p.1 a with
    |true=>rw[beq_eq d] at f;exact absurd f c
    |false=>rfl
  |false=>
   simp only[cond_false,lk];cases d:ee p.1 a with
   |true=>
    have:a∉b:=by rw[<-beq_eq d];exact nA g
    rw[if_neg this]
    rfl
   |false=>exact D4 b r a
theorem Sg{e:List Nat}:∀{d:List (Nat×CP)},ET e d=true->∀b c,(b,c)∈d->b∈e
 |[],_,b,c,a=>by cases a
 |p::d,f,b,c,a=>by
  simp only[ET] at f;obtain⟨i,h⟩:=fu f;rcases d0.1 a with g |a
  ·have:=(oO _ _).1 i;rw[<-g] at this;exact this
  ·exact Sg h b c a
theorem cE.UM{f:Nat->Nat->Prop}{c:PV}(h:cE 0 c):Wf f c:=by
 induction h with
 |any=>exact .any
 |bool b=>exact .bool b
 |int k n=>exact .int k n
 |str s=>exact .str s
 |fS=>exact .fS
 |bg=>exact .bg
 |z0=>exact .z0
 |dB=>exact .dB
 |dw a e=>exact .dw a e
 |vs sz es=>exact .vs sz es
 |ptr r v i e h=>omega
 |sl r v off len h=>omega
 |fl r v h=>omega
 |agg a h d=>exact .agg a d
 |bu a h d=>exact .bu a d
 |fn f a l h m d j=>exact .fn f a l d j
end
def F0{b:Nat->Type}(c:List (Ob b))(i v:Nat):Prop:=∃a,nth c i=c5 a/\v<=a.aF
section
variable {P : Program} {B : Tb} {R : Type} {r : R}
structure Cz (B:Tb) (S:St B.D):Prop where
 e:∀t,Wf (F0 S.H) (pv B (lk S.E t))
 h:∀(q:Nat) (o:Ob B.D) (i j:Nat) (c:PV),nth S.H q=c5 o->cellOf (aY B o).es i j=c5 c->Wf (F0 S.H) c
theorem UJ(S:cU P B){aN:Nat}{a J:St B.D}{s:List Nat}{p:lD}{ba:bi B.D p.bX->Option R}(bl:Ext s a J)(cn:aN<=a.H.length)(bf:Cz B a)(h:nW B aN a s p J ba=c5 r){g:Gh}{M:World}(bo:bF g (av B J.H) M):
 ∃W,ba W=c5 r/\Ext s a (ik B a s p W)/\∃g',bF g' (av B (ik B a s p W).H) M/\Bml.GStep aN g (av B J.H) M g' (av B (ik B a s p W).H) M/\
  ∀w v,VR g (av B J.H) M (pv B (lk J.E w)) v->VR g' (av B (ik B a s p W).H) M (pv B (lk (ik B a s p W).E w)) v:=by
 unfold nW at h;obtain⟨bx,h⟩:=a8 h;obtain⟨b9,h⟩:=a8 h;obtain⟨b4,h⟩:=a8 h;obtain⟨aU,h⟩:=a8 h;obtain⟨bw,h⟩:=a8 h;obtain⟨bA,h⟩:=a8 h;obtain⟨aM,h⟩:=a8 h;obtain⟨bb,b1,h⟩:=fq h;obtain⟨W,bJ,ae⟩:=Ae h;refine⟨W,bJ,?_⟩
 obtain⟨cj,cp,ar,bt,rfl⟩:=iK b1;obtain⟨ck,cc,ao,aJ,rfl⟩:=iK bt;obtain⟨D,cg,b2,bq,bs⟩:=eJ.split ae (HX ar);obtain⟨be,au,rfl,bP,bY⟩:=eJ.split bs (oQ ao);generalize cd:nQ J p.new=aq at b4 aU ar ao aJ;generalize a3:nL p.dO (Go.X.len a.H) 0 aq=j at aU ar ao aJ;have af:(p.dO.map (·.1)).Nodup:=by rw[<-aov];exact(tw _).1 bw
 let ρ:Nat->Nat×Nat:=λq=>(q,mw a.H p.dO q)
 obtain⟨o,bW,a1,bI⟩:=NT S (H0:=a.H) (ρ:=ρ) ar bq (HX ar);obtain⟨u,bT,cl,aK⟩:=xN S (ρ:=ρ) (q0:=Go.X.len a.H) ao bP;have bM:ik B a s p W=⟨aX (gR ρ p.dE au) (mN s a.E),aX (b8 a.H o) u⟩:=by
  unfold ik;rw[b2];show(match pU a.H ρ p.dO (D++(be++au)) with |(ch,bb)=>_)=_
  rw[bW];show(match lM ρ (Go.X.len a.H) p.new (be++au) with |(cf,bb)=>_)=_
  rw[bT]
 rw[bM];have a6:(b8 a.H o).length=a.H.length:=qy _ _;have b0:(o.map (·.1)).Nodup:=by rw[a1];exact af
 obtain⟨bn,bH⟩:=I5 (ch:=o) (H:=a.H) b0;have cb:(aX (b8 a.H o) u).length=a.H.length+u.length:=by rw[bK,d7,a6]
 have a9:∀q,q<a.H.length->nth (aX (b8 a.H o) u) q=nth (b8 a.H o) q:=λq k=>by
  rw[cJ,cJ,bK,d2 (by omega)]
 have aI:∀q,a.H.length<=q->nth (aX (b8 a.H o) u) q=u[q -a.H.length]? :=λq k=>by
  rw[cJ,bK,d1 (by omega),a6]
 have Y:∀q,q<a.H.length->nth j q=c5 (bif gone p.dO q then .gone else .bG q):=λq k=>by
  rw[<-a3,Jf,eu,if_pos k,d8]
 have aS:∀q,a.H.length<=q->nth j q=aq[q -a.H.length]? :=λq k=>by
  rw[<-a3,Jf,eu,if_neg (by omega),cJ]
 have co:j.length=a.H.length+aq.length:=by rw[<-a3,Pc,eu]
 have ay:∀q x,nth a.H q=c5 x->bN p.dO q=false->nth J.H q=c5 x/\nth (aX (b8 a.H o) u) q=c5 x:=λq x m e=>by
  obtain⟨aH,bh,ca⟩:=Ri bA q x m;have c:=(bl.h q x aH m bh).2 (ca (by rw[d8];exact e));refine⟨by rw[bh,c],?_⟩
  rw[a9 q (by rw[cJ] at m;exact c9 m),bH q ?_,m];rw[a1];intro bS;obtain⟨c,d,ao⟩:=e5.1 bS;exact adx e c d ao
 have mo:∀q,bN p.dO q=true->∃c n,c∈p.dO/\c.1=q/\q<a.H.length/\nth (aX (b8 a.H o) u) q=c5 n/\n.st=dJ a.H q/\n.aF=(ρ q).2/\
  ((c.2.2= .dead/\n.bd= .dead)\/(c.2.2≠ .dead/\∃N D,dn J.H j (bL j) c.2.2 (.bG q)=c5 N/\eJ B c.2.2.bX N D/\∀bd,dI ρ (dJ a.H q) (ρ q).2 c.2.2 (D++bd)=(n,bd))):=λq e=>by
  obtain⟨c,d,rfl⟩:=adS e;have b5:c.1∈o.map (·.1):=by rw[a1];exact g6 (f:=(·.1)) d
  obtain⟨⟨q,n⟩,bj,k⟩:=e5.1 b5;obtain rfl:q=c.1:=k;obtain⟨C,bB,bZ,ag,O,ac⟩:=bI c.1 n bj;have aZ:=(vV aM c d).1;exact⟨C,n,bB,bZ,aZ,by rw[a9 _ aZ];exact bn _ _ bj aZ,ag,O,ac⟩
 let ax:Nat->Prop:=λi=>∀q,eQ j q≠c5 i
 have bV:∀i,ax i->∀q,eQ j q≠c5 i:=λ_ h=>h
 have aQ:∀i,i∉bL j->ax i:=λi F q k=>F (gV (qS k))
 have aP:mR B g J.H (aX (b8 a.H o) u) M j (bL j) (eQ j) ρ:=by
  refine⟨bo,λ_=>rfl,λq i k=>⟨pn k,?_⟩,λq k=>⟨by unfold eQ;rw[k],?_⟩⟩
  ·by_cases ab:q<a.H.length
   ·have Q:=Y q ab;rw[k] at Q;cases aA:gone p.dO q with
    |true=>rw[aA] at Q;simp at Q
    |false=>
     rw[aA] at Q;simp only[cond_false,dk,Rf.bG.injEq] at Q;subst Q;cases e:bN p.dO i with
     |false=>
      have m:nth a.H i=c5 a.H[i]:=by rw[cJ];exact c4 ab
      obtain⟨u1,u2⟩:=ay i _ m e;refine⟨_,_,u1,u2,?_,rfl,rfl⟩
      show _=mw a.H p.dO i
      unfold mw;rw[m];simp[e]
     |true=>
      obtain⟨c,n,d,rfl,_,X,ag,O,ac⟩:=mo i e;rcases ac with⟨K,_⟩ |⟨_,N,D,z,I,G⟩
      ·have:=(rc af d).1;rw[aA,K] at this;cases this
      ·obtain⟨E,V,_,y,aa⟩:=mS S (ρ:=ρ) (dJ a.H c.1) (ρ c.1).2 z I;obtain rfl:E=n:=by
        have Z:=V [];have t:=G [];rw[Z] at t;exact(ea t).1
       rcases aa with⟨aw,an,C,A,aF,ah,aj⟩ |⟨C,_⟩
       ·injection C with C
        subst C;exact⟨an,E,A,X,O,ah,aj⟩
       ·cases C
   ·rw[aS q (by omega)] at k;obtain⟨aO,N,D,aB,ad,z,I,G,bm⟩:=aK _ _ k;obtain⟨E,V,_,y,aa⟩:=mS S (ρ:=ρ) 0 (ρ (Go.X.len a.H+(q -a.H.length))).2 z I;obtain rfl:E=aB:=by
     have Z:=V [];have t:=G [];rw[Z] at t;exact(ea t).1
    rcases aa with⟨aw,an,c,A,aF,ah,aj⟩ |⟨c,_⟩
    ·injection c with c
     subst c;refine⟨an,E,A,by rw[aI q (by omega)];exact ad,?_,ah,aj⟩
     rw[y,eu,show a.H.length+(q -a.H.length)=q by omega]
    ·cases c
  ·by_cases ab:q<a.H.length
   ·have Q:=Y q ab;rw[k] at Q;cases aA:gone p.dO q <;> rw[aA] at Q <;> simp at Q
   ·rw[aS q (by omega)] at k;obtain⟨aO,N,D,aB,ad,z,I,G,bm⟩:=aK _ _ k;obtain⟨E,V,_,y,aa⟩:=mS S (ρ:=ρ) 0 (ρ (Go.X.len a.H+(q -a.H.length))).2 z I;obtain rfl:E=aB:=by
     have Z:=V [];have t:=G [];rw[Z] at t;exact(ea t).1
    rcases aa with⟨aw,an,c,_⟩ |⟨_,d,_⟩
    ·cases c
    ·refine⟨E,by rw[aI q (by omega)];exact ad,?_,d⟩
     rw[y,eu,show a.H.length+(q -a.H.length)=q by omega]
 have a7:∀{T:PV} {v:Value},VR g (av B J.H) M T v->Wf (F0 a.H) T->VR (dj g (eQ j) ax) (av B (aX (b8 a.H o) u)) M T v:=λ{T v} y bp=>by
  refine VR.re (g:=g) (g':=dj g (eQ j) ax) (λ_ h=>Or.inl h) (λi v aL bR m bc=>?_) y bp
  obtain⟨x,az,bE⟩:=bR;have al:i<a.H.length:=by rw[cJ] at az;exact c9 az
  obtain⟨bC,ai,rfl⟩:=oU m;rw[e7] at bc;have bX:∀c,c∈p.dO->c.1=i->(ρ i).2=bif c.2.1 then x.aF else x.aF+1:=λc d bv=>by
   subst bv;obtain⟨_,a0,a4⟩:=rc af d;show mw a.H p.dO c.1=_
   unfold mw;rw[az];simp[a0,a4]
  cases e:bN p.dO i with
  |false=>
   obtain⟨u1,u2⟩:=ay i x az e;rw[ai] at u1;injection u1 with u1
   subst u1;refine⟨_,df u2,by rw[e7];exact bc,λc=>⟨c,rfl,rfl,?_⟩⟩
   show(eQ j i).bind g.β=_
   rw[pn (i:=i) (by rw[Y i al,IM e];rfl)]
   rfl
  |true=>
   obtain⟨c,n,d,rfl,_,X,ag,O,ac⟩:=mo i e;have L:=bX c d rfl;cases am:c.2.1 with
   |false=>
    rw[am] at L;simp only[cond_false] at L;exact⟨_,df X,by rw[e7,O,L];omega,λaC=>by rw[e7,O,L] at aC;omega⟩
   |true=>
    rw[am] at L;simp only[cond_true] at L;obtain⟨aR,aG,b,ap,U,aT⟩:=(vV aM c d).2 am;rw[az] at ap;injection ap with ap
    subst ap;rw[ai] at U;injection U with U
    subst U;refine⟨_,df X,by rw[e7,O,L];exact bE,λaC=>?_⟩
    rw[e7,O,L] at aC;rcases ac with⟨K,aV⟩ |⟨a5,N,D,z,I,G⟩
    ·exact absurd K aR
    ·obtain⟨E,V,_,ce,aa⟩:=mS S (ρ:=ρ) (dJ a.H c.1) (ρ c.1).2 z I;obtain rfl:E=n:=by
      have Z:=V [];have t:=G [];rw[Z] at t;exact(ea t).1
     rcases aa with⟨aw,an,C,A,aF,ah,aj⟩ |⟨C,_⟩
     ·injection C with C
      subst C;rw[ai] at A;injection A with A
      subst A;refine⟨by rw[e7,aC];exact aT,ah,aj,?_⟩
      show(eQ j c.1).bind g.β=_
      rw[pn (i:=c.1) (by
       rw[Y c.1 al,(rc af d).1];cases K:c.2.2 with
       |dead=>exact absurd K a5
       |rows _ _=>rfl
       |refs _ _=>rfl
       |box _ _=>rfl)]
      rfl
     ·cases C
 have bk:=λbD w=>Ip S aP (λi _ F=>aQ i F) aJ bY bD w
 refine⟨⟨λw ae=>?_,by show a.H.length<=(aX (b8 a.H o) u).length;omega,λi x aL aD m=>?_⟩,dj g (eQ j) ax,O1 S aP ((tw _).1 aU) (show j.length<=(aX (b8 a.H o) u).length by omega) bV λq aH l=>?_,?_,λw v y=>?_⟩
 ·show lk (aX (gR ρ p.dE au) (mN s a.E)) w=_
  rcases bk (mN s a.E) w with⟨T,bz,ak,_⟩ |⟨_,c⟩
  ·exact absurd (Sg b9 w T ak) ae
  ·rw[c,D4,if_neg ae]
 ·have l:nth (aX (b8 a.H o) u) i=c5 aL:=m;cases e:bN p.dO i with
  |false=>
   obtain⟨_,u2⟩:=ay i x aD e;rw[u2] at l;injection l with l
   subst l;exact⟨dt _,λ_=>rfl⟩
  |true=>
   obtain⟨c,n,d,rfl,_,X,ag,_⟩:=mo i e;rw[X] at l;injection l with l
   subst l;have:n.st=x.st+1:=by rw[ag];unfold dJ;rw[aD]
   exact⟨by omega,λc=>by omega⟩
 ·by_cases ab:q<a.H.length
  ·have m:nth a.H q=c5 a.H[q]:=by rw[cJ];exact c4 ab
   cases e:bN p.dO q with
   |false=>
    obtain⟨u1,u2⟩:=ay q _ m e;rw[u2] at l;injection l with l
    refine .inr (.inl ⟨q,a.H[q],by rw[Y q ab,IM e];rfl,u1,l.symm,λT v y b3=>a7 y ?_⟩)
    obtain⟨cm,aG,br,ak⟩:=b3;rcases ak with⟨rfl,ak⟩ |ak
    ·exact bf.h q _ aG br T m ak
    ·exact cE.UM ak
   |true=>
    obtain⟨c,n,d,rfl,_,X,ag,O,ac⟩:=mo q e;rw[X] at l;injection l with l
    subst l;rcases ac with⟨K,aV⟩ |⟨a5,N,D,z,I,G⟩
    ·refine .inr (.inr ⟨?_,by simp[aY,aV],by simp[aY,aV]⟩)
     unfold eQ;rw[Y _ ab,(rc af d).1,K]
     rfl
    ·refine .inl ⟨c.2.2,c.1,N,D,_,_,?_,λ_ _ _ _ _ _ _ _ i _ F=>aQ i F,z,I,G⟩
     rw[Y c.1 ab,(rc af d).1];cases K:c.2.2 with
     |dead=>exact absurd K a5
     |rows _ _=>rfl
     |refs _ _=>rfl
     |box _ _=>rfl
  ·have a2:=l;rw[aI q (by omega)] at a2;have k:q -a.H.length<u.length:=c9 a2;have F:aq[q -a.H.length]? =c5 aq[q -a.H.length]:=c4 (by omega);obtain⟨aO,N,D,aB,ad,z,I,G,bm⟩:=aK _ _ F;rw[a2] at ad;injection ad with ad
   subst ad;have aE:nth j q=c5 aq[q -a.H.length]:=by rw[aS q (by omega)];exact F
   obtain⟨E,V,_,y,aa⟩:=mS S (ρ:=ρ) 0 (ρ (Go.X.len a.H+(q -a.H.length))).2 z I;obtain rfl:E=aH:=by
    have Z:=V [];have t:=G [];rw[Z] at t;exact(ea t).1
   rcases aa with⟨aw,an,c,_⟩ |⟨c,d,bO⟩
   ·rw[c] at aE z;exact .inl ⟨aO,aw,N,D,_,_,aE,λ_ _ _ _ _ _ _ _ i _ F=>aQ i F,z,I,G⟩
   ·rw[c] at aE;exact .inr (.inr ⟨by unfold eQ;rw[aE],d,bO⟩)
 ·refine Bml.GStep.re λi aL F m=>?_
  obtain⟨bC,ai,rfl⟩:=oU m;have al:i<a.H.length:=by omega
  have aD:nth a.H i=c5 a.H[i]:=by rw[cJ];exact c4 al
  cases e:bN p.dO i with
  |false=>
   obtain⟨u1,u2⟩:=ay i _ aD e;rw[ai] at u1;injection u1 with u1
   subst u1;exact⟨_,df u2,dt _,λ_=>⟨pn (by rw[Y i al,IM e];rfl),rfl,rfl⟩⟩
  |true=>
   obtain⟨c,n,d,rfl,_,X,ag,O,ac⟩:=mo i e;have am:=(RZ bx c d F).1;obtain⟨aR,aG,b,ap,U,aT⟩:=(vV aM c d).2 am;rw[ai] at U;injection U with U
   subst U;obtain⟨_,a0,a4⟩:=rc af d;have L:(ρ c.1).2=aG.aF:=by
    show mw a.H p.dO c.1=_
    unfold mw;rw[ap];simp[a0,a4,am]
   have b7:nth j c.1=c5 (.bG c.1):=by
    rw[Y c.1 al,(rc af d).1];cases K:c.2.2 with
    |dead=>exact absurd K aR
    |rows _ _=>rfl
    |refs _ _=>rfl
    |box _ _=>rfl
   obtain⟨bU,ci,aH,A,aF,ah,aj,b6⟩:=aP.bG c.1 c.1 b7;rw[ai] at A;injection A with A
   subst A;exact⟨_,df aF,by rw[e7,e7,ah,L,aT];exact dt _,λ_=>⟨bU,aj,b6⟩⟩
 ·show VR _ _ M (pv B (lk (aX (gR ρ p.dE au) (mN s a.E)) w)) v
  rcases bk (mN s a.E) w with⟨T,bz,_,c,bQ⟩ |⟨_,c⟩
  ·rw[c];exact bQ.2 v y
  ·rw[c,D4]
   by_cases ae:w∈s
   ·rw[if_pos ae];exact .any v
   ·rw[if_neg ae];rw[bl.e w ae] at y;exact a7 y (bf.e w)
end
end Go.X
namespace Go.Bml
open Go
def xB(g:Gh)(f:List aO)(e:World)(args:List PV)(a:List Value):Prop:=
 args.length=a.length/\∀(i:Nat) (b:PV) (c:Value),args[i]? =c5 b->a[i]? =c5 c->VR g f e b c
section
variable {P : Program} {nt : Nat} {E : Env} {d : Option Nat} {ty : TypeId} {pos : String} {aft : Array Edge} {gd : Option (Nat × Bool)}
theorem UP{f:Nat}{v s:List PV}{p:Operand}{k:List Operand}{ci:Array TypeId}{l:Act}{j:World}{g:Gh}{t:List aO}(y:fI g t j nt E l)(H:PE E p= .fn f v s)(A:∀args j,(callFunc f args).run P j= .ok (.enter f args) j):
 ∃w:List Value,(execOp l.eval ⟨d,.call {callee:=.value p,args:=k.toArray,argTypes:=ci},ty,pos,aft,gd⟩).run P j= .ok (.enter f w.toArray) j/\xB g t j (v++k.map (PE E)++s) w:=by
 have m:=H▸y.eval p;have G:∃a vs:List Value,l.eval p= .func (.func f) a.toArray vs.toArray/\v.length=a.length/\(∀(i:Nat) (c:PV) (b:Value),v[i]? =c5 c->a[i]? =c5 b->VR g t j c b)/\s.length=vs.length/\
  (∀(i:Nat) (c:PV) (b:Value),s[i]? =c5 c->vs[i]? =c5 b->VR g t j c b):=by
  generalize l.eval p=z at m;cases m with
  |aW C=>cases C with |fn _ _ _ a vs n m o q=>exact⟨a,vs,rfl,n,λi c b u r=>.aW (m i c b u r),o,λi c b u r=>.aW (q i c b u r)⟩
  |fn _ _ _ a vs n m o q=>exact⟨a,vs,rfl,n,m,o,q⟩
 obtain⟨a,vs,D,n,B,o,q⟩:=G;refine⟨a++k.map l.eval++vs,?_,by simp[n,o],λi c b e h=>?_⟩
 ·simp only[execOp,resolve,D,Deferred.ofValue,invoke,hu,hQ,eH];rw[show(a.toArray++Array.map l.eval k.toArray++vs.toArray)=(a++k.map l.eval++vs).toArray by simp];exact A _ j
 ·by_cases u:i<a.length
  ·rw[d3,d2 (by omega)] at e h;exact B i c b e h
  ·rw[d3,d1 (by omega)] at e h;rw[n] at e
   by_cases r:i -a.length<k.length
   ·rw[d2 (by simpa using r)] at e h;rw[dd] at e h;cases x:k[i -a.length]? with
    |none=>simp[x] at e
    |some F=>
     simp[x] at e h;subst e;subst h;exact y.eval F
   ·rw[d1 (by simp;omega)] at e h;simp only[hL] at e h;exact q _ c b e h
theorem WB{H:List aO}{f:Nat}{cs ds:List PV}{fo:Operand}{as:List Operand}{ci:Array TypeId}{K:PV->List aO->Prop}(s:PE E fo= .fn f cs ds)(m:∀args a,(callFunc f args).run P a= .ok (.enter f args) a)
 (u:∀g h a,bF g H a->xB g H a (cs++as.map (PE E)++ds) h->Calls P f h.toArray a λk c=>∃i e v b,k= .returned i/\K v b/\bF e b c/\VR e b c v i/\GStep H.length g H a e b c):
 fJ P ⟨d,.call {callee:=.value fo,args:=as.toArray,argTypes:=ci},ty,pos,aft,d9⟩ E H K:=by
 intro g nt w a j x y p;obtain⟨h,q,l⟩:=UP (d:=d) (ty:=ty) (pos:=pos) (aft:=aft) (gd:=d9) (ci:=ci) j.e s m;unfold Oper.wp;rw[q,Oper.upon_enter];refine(u g h a j.m l).mono ?_
 rintro k c ⟨i,e,v,b,rfl,r,t,o,n⟩;exact p i c e v b r o t n
end
end Go.Bml
namespace Go.X
open Go Go.Aml Go.Bml
section
variable {P : Program} {B : Tb}
def en(B:Tb):List Nat->List (TV B.D)->Prop
 |[],[]=>True
 |a::ns,b::c=>(∃d,b=B.tv a d)/\en B ns c
 |_,_=>False
theorem NA:∀(ns:List Nat) (a:bi B.D ns),en B ns (rQ B ns a)
 |[],_=>trivial
 |[b],a=>⟨⟨a,rfl⟩,trivial⟩
 |b::c::ns,a=>⟨⟨a.1,rfl⟩,NA (c::ns) a.2⟩
theorem en.split:∀{ns c:List Nat} {a:List (TV B.D)},en B (aX ns c) a->∃d e,a=d++e/\en B ns d/\en B c e
 |[],c,a,h=>⟨[],a,rfl,trivial,h⟩
 |n::ns,c,m::a,h=>by
  obtain⟨d,e,rfl,j,k⟩:=en.split (ns:=ns) h.2;exact⟨m::d,e,rfl,⟨h.1,j⟩,k⟩
 |_::_,_,[],h=>h.elim
theorem en.nil{a:List (TV B.D)}(h:en B [] a):a=[]:=by
 cases a with
 |nil=>rfl
 |cons m a=>exact h.elim
structure Two (B:Tb) (g g':Gh) (H H':List aO) (w:World) (t t':TV B.D):Prop where
 vr:∀v,VR g H w (pv B t) v->VR g' H' w (pv B t') v
 vi:∀v,VI g.F w (pv B t) v->VI g'.F w (pv B t') v
structure E8 (B:Tb) (g g':Gh) (H H':List aO) (w:World) (ts ts':List (TV B.D)):Prop where
 len:(aP B ts').length=(aP B ts).length
 vr:∀(i:Nat) (c c':PV) (v:Value),(aP B ts)[i]? =c5 c->(aP B ts')[i]? =c5 c'->VR g H w c v->VR g' H' w c' v
 vi:∀(i:Nat) (c c':PV) (v:Value),(aP B ts)[i]? =c5 c->(aP B ts')[i]? =c5 c'->VI g.F w c v->VI g'.F w c' v
variable {g g' : Gh} {H H' : List aO} {w : World} {ρ ρ' : Nat → Nat × Nat}
mutual
theorem Qy(x:cU P B)(L:∀q v,VR g H w (.ptr (ρ q).1 (ρ q).2 0 0) v->VR g' H' w (.ptr (ρ' q).1 (ρ' q).2 0 0) v)(J:∀q v,VR g H w (.fl (ρ q).1 (ρ q).2) v->VR g' H' w (.fl (ρ' q).1 (ρ' q).2) v):
 ∀(c:CP) (l:List (TV B.D)),en B c.bX l->((∀b,g.F b->g'.F b)\/Kk B.flat c=true)->∃Y W,(∀n,hO ρ c (l++n)=(Y,n))/\(∀n,hO ρ' c (l++n)=(W,n))/\Two B g g' H H' w Y W
 | .any,l,e,_=>by
  obtain rfl:=en.nil e;exact⟨_,_,λ_=>rfl,λ_=>rfl,λv _=>.any v,λv _=>.any v⟩
 | .v u,l,e,p=>by
  match l,e with
  |[ak],⟨⟨d,h⟩,_⟩=>
   subst h;have m:∀v,VI g.F w (pv B (B.tv u d)) v->VI g'.F w (pv B (B.tv u d)) v:=λv a=>by
    rcases p with p |p
    ·exact a.mono p λ_ _=>rfl
    ·rw[x.tv] at a⊢;exact x.aqv u d p _ _ _ _ v a
   exact⟨_,_,λ_=>rfl,λ_=>rfl,λv a=>.aW (m v (a.dH (by rw[x.tv];exact x.lt u d))),m⟩
 | .p q,l,e,_=>by
  obtain rfl:=en.nil e;exact⟨_,_,λ_=>rfl,λ_=>rfl,L q,λv a=>by cases a⟩
 | .r q,l,e,_=>by
  obtain rfl:=en.nil e;exact⟨_,_,λ_=>rfl,λ_=>rfl,J q,λv a=>by cases a⟩
 | .b b,l,e,_=>by
  obtain rfl:=en.nil e;have m:∀v,VI g.F w (pv B (.bool b)) v->VI g'.F w (pv B (.bool b)) v:=λv a=>by cases a;exact .bool b
  exact⟨.bool b,.bool b,λ_=>rfl,λ_=>rfl,λv a=>.aW (m v (a.dH (.bool b))),m⟩
 | .i F u,l,e,_=>by
  obtain rfl:=en.nil e;have m:∀v,VI g.F w (pv B (.int F u)) v->VI g'.F w (pv B (.int F u)) v:=λv a=>by cases a;exact .int F u
  exact⟨.int F u,.int F u,λ_=>rfl,λ_=>rfl,λv a=>.aW (m v (a.dH (.int F u))),m⟩
 | .ns,l,e,_=>by
  obtain rfl:=en.nil e;have m:∀v,VI g.F w (pv B (.bg)) v->VI g'.F w (pv B .bg) v:=λv a=>by cases a;exact .bg
  exact⟨.bg,.bg,λ_=>rfl,λ_=>rfl,λv a=>.aW (m v (a.dH .bg)),m⟩
 | .z,l,e,_=>by
  obtain rfl:=en.nil e;have m:∀v,VI g.F w (pv B (.dB)) v->VI g'.F w (pv B .dB) v:=λv a=>by cases a;exact .dB
  exact⟨.dB,.dB,λ_=>rfl,λ_=>rfl,λv a=>.aW (m v (a.dH .dB)),m⟩
 | .q M,l,e,p=>by
  have p:∀b,g.F b->g'.F b:=p.elim id λe=>by cases e
  obtain⟨j,y,G,I,r⟩:=sR x L J M l e (.inl p);have m:∀v,VI g.F w (pv B (.vp j 0)) v->VI g'.F w (pv B (.vp y 0)) v:=λv a=>by
   have C:VI g.F w (.dw (aP B j) 0) v:=a;cases C with
   |dw _ _ b ah X ab ai E ad=>
    have N:∀(o:Nat) (c:PV),(aP B y)[o]? =c5 c->o<(aP B j).length:=λo c f=>by have:=c9 f;rw[r.len] at this;exact this
    exact .dw (aP B y) 0 b ah X (p b ab) (λo c f=>ai o _ (c4 (N o c f))) (λo c f=>E o _ (c4 (N o c f)))
     λo c f=>r.vi o _ c (X o) (c4 (N o c f)) f (ad o _ (c4 (N o c f)))
  exact⟨.vp j 0,.vp y 0,λn=>by simp only[hO,G n],λn=>by simp only[hO,I n],λv a=>.aW (m v (a.dH (.dw _ _))),m⟩
 | .g M,l,e,p=>by
  obtain⟨j,y,G,I,r⟩:=sR x L J M l e p;refine⟨.agg j,.agg y,λn=>by simp only[hO,G n],λn=>by simp only[hO,I n],λv a=>?_,λv a=>?_⟩
  ·obtain⟨Q,rfl,t,V⟩:=VR.ky a;refine .agg _ Q (by rw[<-t];exact r.len) λi c d f h=>?_
   have k:i<(aP B j).length:=by have:=c9 h;omega
   exact r.vr i _ c d (c4 k) f (V i _ d (c4 k) h)
  ·have C:VI g.F w (.agg (aP B j)) v:=a;cases C with
   |agg _ Q t V=>
    refine .agg _ Q (by rw[<-t];exact r.len) λi c d f h=>?_
    have k:i<(aP B j).length:=by have:=c9 h;omega
    exact r.vi i _ c d (c4 k) f (V i _ d (c4 k) h)
 | .f D M Z,l,e,p=>by
  obtain⟨af,aj,rfl,E,K⟩:=en.split e;obtain⟨j,y,G,I,r⟩:=sR x L J M af E (p.imp id λe=>(fu e).1);obtain⟨A,aa,ae,ac,O⟩:=sR x L J Z aj K (p.imp id λe=>(fu e).2);refine⟨.fn D j A,.fn D y aa,λn=>by simp only[hO];rw[d3,G,ae],λn=>by simp only[hO];rw[d3,I,ac],λv a=>?_,λv a=>?_⟩
  ·have C:VR g H w (.fn D (aP B j) (aP B A)) v:=a;have ag:∃s vs:List Value,v= .func (.func D) s.toArray vs.toArray/\(aP B j).length=s.length/\(∀(i:Nat) (c:PV) (d:Value),(aP B j)[i]? =c5 c->s[i]? =c5 d->VR g H w c d)/\(aP B A).length=vs.length/\
    (∀(i:Nat) (c:PV) (d:Value),(aP B A)[i]? =c5 c->vs[i]? =c5 d->VR g H w c d):=by
    cases C with
    |aW e=>cases e with |fn _ _ _ s vs t T z U=>exact⟨s,vs,rfl,t,λi c d E K=>.aW (T i c d E K),z,λi c d E K=>.aW (U i c d E K)⟩
    |fn _ _ _ s vs t T z U=>exact⟨s,vs,rfl,t,T,z,U⟩
   obtain⟨s,vs,rfl,t,R,z,S⟩:=ag;refine .fn D _ _ s vs (by rw[<-t];exact r.len) (λi c d f h=>?_) (by rw[<-z];exact O.len) (λi c d f h=>?_)
   ·have k:i<(aP B j).length:=by have:=c9 h;omega
    exact r.vr i _ c d (c4 k) f (R i _ d (c4 k) h)
   ·have k:i<(aP B A).length:=by have:=c9 h;omega
    exact O.vr i _ c d (c4 k) f (S i _ d (c4 k) h)
  ·have C:VI g.F w (.fn D (aP B j) (aP B A)) v:=a;cases C with
   |fn _ _ _ s vs t R z S=>
    refine .fn D _ _ s vs (by rw[<-t];exact r.len) (λi c d f h=>?_) (by rw[<-z];exact O.len) (λi c d f h=>?_)
    ·have k:i<(aP B j).length:=by have:=c9 h;omega
     exact r.vi i _ c d (c4 k) f (R i _ d (c4 k) h)
    ·have k:i<(aP B A).length:=by have:=c9 h;omega
     exact O.vi i _ c d (c4 k) f (S i _ d (c4 k) h)
theorem sR(p:cU P B)(t:∀q v,VR g H w (.ptr (ρ q).1 (ρ q).2 0 0) v->VR g' H' w (.ptr (ρ' q).1 (ρ' q).2 0 0) v)(r:∀q v,VR g H w (.fl (ρ q).1 (ρ q).2) v->VR g' H' w (.fl (ρ' q).1 (ρ' q).2) v):
 ∀(f:List CP) (j:List (TV B.D)),en B (CP.gA f) j->((∀b,g.F b->g'.F b)\/rr B.flat f=true)->∃l k,(∀c,jD ρ f (j++c)=(l,c))/\(∀c,jD ρ' f (j++c)=(k,c))/\E8 B g g' H H' w l k
 |[],j,a,_=>by
  obtain rfl:=en.nil a;exact⟨[],[],λ_=>rfl,λ_=>rfl,rfl,by simp[aP],by simp[aP]⟩
 |G::f,j,a,u=>by
  obtain⟨F,J,rfl,D,E⟩:=en.split a;obtain⟨I,y,x,A,s⟩:=Qy p t r G F D (u.imp id λa=>(fu a).1);obtain⟨l,k,C,z,o⟩:=sR p t r f J E (u.imp id λa=>(fu a).2);refine⟨I::l,y::k,λc=>by simp only[jD];rw[d3,x,C],λc=>by simp only[jD];rw[d3,A,z],by simp[aP,o.len],λi m n v e d h=>?_,λi m n v e d h=>?_⟩
  ·cases i with
   |zero=>simp[aP] at e d;subst e;subst d;exact s.vr v h
   |succ i=>exact o.vr i m n v (by simpa[aP] using e) (by simpa[aP] using d) h
  ·cases i with
   |zero=>simp[aP] at e d;subst e;subst d;exact s.vi v h
   |succ i=>exact o.vi i m n v (by simpa[aP] using e) (by simpa[aP] using d) h
end
end
structure Fits (P:Program) (B:Tb) (c:aq B):Prop where
 Q6:∀args w,(callFunc c.cO args).run P w= .ok (.enter c.cO args) w
 calls:∀x y,c.F x=c5 y->∀(g:Gh) (w:World) (as:List Value),as.length=c.na->bF g (av B (cz B c.par x).H) w->
  (∀t,VR g (av B (cz B c.par x).H) w (pv B (lk (cz B c.par x).E t)) (as.getD t undef))->
  Calls P c.cO as.toArray w λe w'=>∃v g',e= .returned v/\bF g' (av B (cz B c.az y).H) w'/\Bml.GStep c.low g (av B (cz B c.par x).H) w g' (av B (cz B c.az y).H) w'/\
   VR g' (av B (cz B c.az y).H) w' (pv B (kR (cz B c.az y).E)) v
section
variable {P : Program} {B : Tb}
theorem Iz{ρ ρ':Nat->Nat×Nat}{j:OP}{a:List (TV B.D)}(i v g d:Nat)(b:en B j.bX a):
 ∃f e,(∀c,dI ρ i v j (a++c)=(f,c))/\(∀c,dI ρ' g d j (a++c)=(e,c))/\f.aF=v/\e.aF=d/\(aY B e).ty=(aY B f).ty/\(aY B e).sz=(aY B f).sz/\(aY B e).es.length=(aY B f).es.length:=by
 cases j with
 |rows h u=>
  match a,b with
  |[o],_=>
   cases o <;> exact⟨_,_,λ_=>rfl,λ_=>rfl,rfl,rfl,rfl,rfl,rfl⟩
  |_::_::_,⟨_,b⟩=>exact b.elim
 |box n l=>
  have m:a.length=(CP.gA l).length:=by
   have:∀(ns:List Nat) (a:List (TV B.D)),en B ns a->a.length=ns.length:=λns=>by
    induction ns with
    |nil=>intro a b;rw[en.nil b];rfl
    |cons u ns x=>
     intro a b;cases a with
     |nil=>exact b.elim
     |cons h a=>simp[x a b.2]
   exact this _ _ b
  obtain⟨s,y,t⟩:=pd ρ l a m;obtain⟨r,p,w⟩:=pd ρ' l a m;exact⟨⟨i,v,.box n s⟩,⟨g,d,.box n r⟩,λc=>by simp only[dI,y c],λc=>by simp only[dI,p c],rfl,rfl,rfl,by simp[aY,t,w],rfl⟩
 |dead=>
  obtain rfl:=en.nil b;exact⟨⟨i,v,.dead⟩,⟨g,d,.dead⟩,λ_=>rfl,λ_=>rfl,rfl,rfl,rfl,rfl,rfl⟩
 |refs h k=>
  have h0:en B [] a:=by rw[<-QY k];exact b
  obtain rfl:=en.nil h0;refine⟨⟨i,v,.hole h [] (k.map λq=>.fl (ρ q).1 (ρ q).2)⟩,⟨g,d,.hole h [] (k.map λq=>.fl (ρ' q).1 (ρ' q).2)⟩,λ_=>by simp only[dI,uA,List.nil_append],λ_=>by simp only[dI,uA,List.nil_append],rfl,rfl,rfl,rfl,by simp[aY,db]⟩
theorem af9(z:cU P B){g g':Gh}{H H':List aO}{w:World}{h k:Nat->Nat×Nat}(af:∀q v,VR g H w (.ptr (h q).1 (h q).2 0 0) v->VR g' H' w (.ptr (k q).1 (k q).2 0 0) v)(J:∀q v,VR g H w (.fl (h q).1 (h q).2) v->VR g' H' w (.fl (k q).1 (k q).2) v)
 {x:OP} {r:List (TV B.D)} {ac v U Y:Nat} {M L:Ob B.D} (s:en B x.bX r) (o:(∀b,g.F b->g'.F b)\/uT B.flat B.el x=true) (j:∀t,dI h ac v x (r++t)=(M,t)) (d:∀t,dI k U Y x (r++t)=(L,t)):
 ∀i a e,cellOf (aY B L).es i a=c5 e->∃R,cellOf (aY B M).es i a=c5 R/\∀m,VR g H w R m->VR g' H' w e m:=by
 have j:=j [];have d:=d [];rw[ef] at j d;cases x with
 |rows Z Q=>
  match r,s with
  |[V],⟨⟨ad,ae⟩,_⟩=>
   intro i a e f;cases V with
   |row S A=>
    simp only[dI,ez,and_true] at j d;subst j;subst d;refine⟨e,f,λm u=>.aW ?_⟩
    have X:∀l,l∈A.map (B.ty S).enc->cE 0 l:=J2 z;have F:=u.dH (nR X f);rcases o with o |o
    ·exact F.mono o λ_ _=>rfl
    ·obtain rfl:=z.el Q ad S A ae.symm;have c:cellOf (A.map (B.ty (B.el Q)).enc) i a=c5 e:=f;obtain⟨l,n,_⟩:=gw c;unfold cellOf at c;rw[n] at c;obtain⟨W,_,rfl⟩:=e5.1 (dT n);exact z.flat _ W o a e c _ _ _ _ m F
   |_=>
    simp only[dI,ez,and_true] at d;subst d;obtain⟨l,n,_⟩:=gw f;simp[aY] at n
  |_::_::_,⟨_,s⟩=>exact s.elim
 |box ah ag=>
  obtain⟨G,ab,T,aa,K⟩:=sR z af J ag r s o;have N:=T [];have D:=aa [];rw[ef] at N D;simp only[dI,N,ez,and_true] at j;simp only[dI,D,ez,and_true] at d;subst j;subst d;intro i a e f
  match i,f with
  |0,f=>
   have I:(aP B ab)[a]? =c5 e:=f;have E:a<(aP B G).length:=by have:=c9 I;rw[K.len] at this;exact this
   exact⟨(aP B G)[a],c4 E,λm u=>K.vr a _ e m (c4 E) I u⟩
 |dead=>
  obtain rfl:=en.nil s;simp only[dI,ez,and_true] at d;subst d;intro i a e f;obtain⟨l,n,_⟩:=gw f;simp[aY] at n
 |refs Z p=>
  simp only[dI,uA,ez] at j d;obtain⟨rfl,_⟩:=j;obtain⟨rfl,_⟩:=d;intro i a e f;have O:∀(y:Nat->Nat×Nat) i,(aP B (p.map λq=>.fl (y q).1 (y q).2))[i]? =(p[i]?).map λq=>PV.fl (y q).1 (y q).2:=λy i=>by
   rw[db,i8,dd]
   rfl
  have c:((aP B (p.map λq=>.fl (k q).1 (k q).2))[i]?.bind λl=>l.cells[a]?)=c5 e:=f;rw[O] at c;cases C:p[i]? with
  |none=>rw[C] at c;cases c
  |some q=>
   rw[C] at c;cases a with
   |succ a=>simp[PV.cells] at c
   |zero=>
    have c:c5 (PV.fl (k q).1 (k q).2)=c5 e:=c;injection c with c
    subst c;refine⟨.fl (h q).1 (h q).2,?_,λm u=>J q m u⟩
    show((aP B (p.map λq=>.fl (h q).1 (h q).2))[i]?.bind λl=>l.cells[0]?)=_
    rw[O,C]
    rfl
theorem Pj{ρ ρ':Nat->Nat×Nat}:∀{os:List (Nat×List Nat×OP)} {f:List (TV B.D)} {q0:Nat},en B (rS os) f->
 ∃e g,(∀b,lM ρ q0 os (f++b)=(e,b))/\(∀b,lM ρ' q0 os (f++b)=(g,b))/\e.length=os.length/\g.length=os.length/\
  ∀a:Nat,a<os.length->∃d h j i,e[a]? =c5 j/\g[a]? =c5 i/\en B d.bX h/\(oN B.flat B.el os=true->uT B.flat B.el d=true)/\
   (∀b,dI ρ 0 (ρ (q0+a)).2 d (h++b)=(j,b))/\(∀b,dI ρ' 0 (ρ' (q0+a)).2 d (h++b)=(i,b))
 |[],f,q0,c=>by
  obtain rfl:=en.nil c;exact⟨[],[],λ_=>rfl,λ_=>rfl,rfl,rfl,λa k=>by simp at k⟩
 |t::os,f,q0,c=>by
  obtain⟨A,F,rfl,n,x⟩:=en.split c;obtain⟨j,i,l,m,_⟩:=Iz (ρ:=ρ) (ρ':=ρ') 0 (ρ q0).2 0 (ρ' q0).2 n;obtain⟨e,g,v,q,E,D,C⟩:=Pj (os:=os) (q0:=q0+1) x;refine⟨j::e,i::g,λb=>by simp only[lM];rw[d3,l,v],λb=>by simp only[lM];rw[d3,m,q],by simp[E],by simp[D],λa k=>?_⟩
  cases a with
  |zero=>exact⟨t.2.2,A,j,i,rfl,rfl,n,λc=>(fu c).1,l,m⟩
  |succ a=>
   obtain⟨d,h,w,z,o,y,s,p,r,u⟩:=C a (by simpa using k);refine⟨d,h,w,z,by simpa using o,by simpa using y,s,λc=>p (fu c).2,?_,?_⟩
   ·rw[show q0+(a+1)=q0+1+a by omega];exact r
   ·rw[show q0+(a+1)=q0+1+a by omega];exact u
theorem OR(u:cU P B){g m:Gh}{n o:List aO}{l:World}{e h:Nat->Nat×Nat}(y:∀q v,VR g n l (.ptr (e q).1 (e q).2 0 0) v->VR m o l (.ptr (h q).1 (h q).2 0 0) v)(w:∀q v,VR g n l (.fl (e q).1 (e q).2) v->VR m o l (.fl (h q).1 (h q).2) v):
 ∀{k:List (Nat×CP)} {j:List (TV B.D)},en B (vu k) j->((∀b,g.F b->m.F b)\/tJ B.flat k=true)->E8 B g m n o l ((gR e k j).map (·.2)) ((gR h k j).map (·.2))
 |[],j,d,_=>⟨rfl,by simp[gR,aP],by simp[gR,aP]⟩
 |p::k,j,d,z=>by
  obtain⟨F,I,rfl,D,E⟩:=en.split d;obtain⟨H,G,A,C,x⟩:=Qy u y w p.2 F D (z.imp id λd=>(fu d).1);have t:=OR u y w E (z.imp id λd=>(fu d).2);simp only[gR,A,C,f5];refine⟨by simp[aP,t.len],λi r s v c a f=>?_,λi r s v c a f=>?_⟩
  ·cases i with
   |zero=>simp[aP] at c a;subst c;subst a;exact x.vr v f
   |succ i=>exact t.vr i r s v (by simpa[aP] using c) (by simpa[aP] using a) f
  ·cases i with
   |zero=>simp[aP] at c a;subst c;subst a;exact x.vi v f
   |succ i=>exact t.vi i r s v (by simpa[aP] using c) (by simpa[aP] using a) f
theorem al8{g h:Gh}{j k:List aO}{e:World}{a c:List (Nat×TV B.D)}(d:E8 B g h j k e (a.map (·.2)) (c.map (·.2))){v:Value}(f:VR g j e (pv B (kR a)) v):VR h k e (pv B (kR c)) v:=by
 have q:c.length=a.length:=by
  have:=d.len;simpa[db] using this
 have bu:∀(a c:List (Nat×TV B.D)),E8 B g h j k e (a.map (·.2)) (c.map (·.2))->VR g j e (pv B (.bu (a.map (·.2)))) v->VR h k e (pv B (.bu (c.map (·.2)))) v:=λa c d f=>by
  obtain⟨o,rfl,u,t⟩:=VR.Db f;refine .bu _ o (by rw[<-u];exact d.len) λi r m s n=>?_
  have l:i<(aP B (a.map (·.2))).length:=by have:=c9 n;omega
  exact d.vr i _ r m (c4 l) s (t i _ m (c4 l) n)
 match a,c,q with
 |[],[],_=>exact bu [] [] d f
 |[p],[w],_=>exact d.vr 0 _ _ v rfl rfl f
 |y::b::a,x::z::c,_=>exact bu _ _ d f
end
theorem rH:∀(b a:List Rf),bL (b++a)=bL b++bL a
 |[],a=>rfl
 | .bG i::b,a=>by simp[bL,rH b a]
 | .new::b,a=>by simp[bL,rH b a]
 | .gone::b,a=>by simp[bL,rH b a]
 | .bad::b,a=>by simp[bL,rH b a]
theorem uM:∀{ids:List Rf} {i:Nat},i∈bL ids->∃q,nth ids q=c5 (.bG i)
 | .bG c::ids,i,a=>by
  rcases d0.1 a with rfl |a
  ·exact⟨0,rfl⟩
  ·obtain⟨q,b⟩:=uM a;exact⟨q+1,b⟩
 | .new::ids,i,a=>by obtain⟨q,b⟩:=uM (ids:=ids) a;exact⟨q+1,b⟩
 | .gone::ids,i,a=>by obtain⟨q,b⟩:=uM (ids:=ids) a;exact⟨q+1,b⟩
 | .bad::ids,i,a=>by obtain⟨q,b⟩:=uM (ids:=ids) a;exact⟨q+1,b⟩
theorem Ql:∀{n:Nat} {ids:List Rf},kA n ids=true->∀q,q<n->∃i,nth ids q=c5 (.bG i)
 |0,_,_,q,a=>by omega
 |n+1,.bG i::b,a,0,_=>⟨i,rfl⟩
 |n+1,.bG i::b,a,q+1,c=>Ql (n:=n) (ids:=b) a q (by omega)
 |n+1,[],a,_,_=>by simp[kA] at a
 |n+1,.new::_,a,_,_=>by simp[kA] at a
 |n+1,.gone::_,a,_,_=>by simp[kA] at a
 |n+1,.bad::_,a,_,_=>by simp[kA] at a
section
variable {D : Nat → Type} {H : List (Ob D)}
theorem JU:∀{n:Nat} {ids:List Rf} {os:List (Ob D)},kA n ids=true->n<=os.length->(iF H (ids.take n) (os.take n)).map (·.1)=bL (ids.take n)/\∀q i b,q<n->nth ids q=c5 (.bG i)->os[q]? =c5 b->(i,(⟨dJ H i,b.aF,b.bd⟩:Ob D))∈iF H (ids.take n) (os.take n)
 |0,_,_,_,_=>⟨by simp[iF,bL],λq i b a=>by omega⟩
 |n+1,.bG i::f,b::os,a,d=>by
  obtain⟨k,g⟩:=JU (n:=n) (ids:=f) (os:=os) a (by simpa using d);refine⟨by simp[iF,bL,k],λq h j l e c=>?_⟩
  cases q with
  |zero=>
   simp only[nth,dk,Rf.bG.injEq,h9] at e c;subst e;subst c;simp[iF]
  |succ q=>
   simp only[List.take_succ_cons,iF,d0];exact .inr (g q h j (by omega) e (by simpa using c))
 |n+1,.bG i::f,[],a,d=>by simp at d
 |n+1,[],_,a,_=>by simp[kA] at a
 |n+1,.new::_,_,a,_=>by simp[kA] at a
 |n+1,.gone::_,_,a,_=>by simp[kA] at a
 |n+1,.bad::_,_,a,_=>by simp[kA] at a
theorem tm:∀{ids:List Rf},(∀i,i∈bL ids->∃a,nth H i=c5 a)->(jL H ids).map (·.1)=bL ids/\∀q i a,nth ids q=c5 (.bG i)->nth H i=c5 a->(i,(⟨a.st+1,a.aF+1,.dead⟩:Ob D))∈jL H ids
 |[],_=>⟨rfl,λq i a d=>by simp[nth] at d⟩
 | .bG k::f,d=>by
  obtain⟨l,h⟩:=d k (by simp[bL]);obtain⟨g,e⟩:=tm (ids:=f) λi j=>d i (by simp[bL,j])
  refine⟨by simp[jL,h,bL,g],λq i a b c=>?_⟩
  simp only[jL,h];cases q with
  |zero=>
   simp only[nth,dk,Rf.bG.injEq] at b;subst b;rw[h] at c;injection c with c
   subst c;simp
  |succ q=>exact c7 _ (e q i a b c)
 | .new::f,d=>by
  obtain⟨g,e⟩:=tm (ids:=f) d;exact⟨g,λq i a b c=>by cases q with |zero=>simp[nth] at b |succ q=>exact e q i a b c⟩
 | .gone::f,d=>by
  obtain⟨g,e⟩:=tm (ids:=f) d;exact⟨g,λq i a b c=>by cases q with |zero=>simp[nth] at b |succ q=>exact e q i a b c⟩
 | .bad::f,d=>by
  obtain⟨g,e⟩:=tm (ids:=f) d;exact⟨g,λq i a b c=>by cases q with |zero=>simp[nth] at b |succ q=>exact e q i a b c⟩
theorem Jy:∀{bs:Nat} {os:List (Ob D)},(news bs os).map (·.1)=List.range' bs os.length/\∀(a:Nat) (c:Ob D),os[a]? =c5 c->(bs+a,c)∈news bs os
 |bs,[]=>⟨rfl,λa c b=>by simp at b⟩
 |bs,f::os=>by
  obtain⟨e,d⟩:=Jy (bs:=bs+1) (os:=os);refine⟨by simp[news,e,List.range'_succ],λa c b=>?_⟩
  cases a with
  |zero=>simp at b;subst b;simp[news]
  |succ a=>
   have:=d a c (by simpa using b);rw[show bs+(a+1)=bs+1+a by omega];exact c7 _ this
end
def gE{D:Nat->Type}(H:List (Ob D))(a d:Nat)(c:List Rf)(b:List (Ob D)):List (Nat×Ob D):=
 aX (iF H (tk a c) (tk a b)) (aX (jL H (drop a c)) (news d (drop a b)))
section
variable {D : Nat → Type} {H : List (Ob D)}
theorem afH{c:Type}(b:List c)(a q:Nat):nth (b.drop a) q=nth b (a+q):=by
 rw[cJ,cJ,f9]
theorem agp{a bs:Nat}{ids:List Rf}{os:List (Ob D)}(A:kA a ids=true)(u:a<=os.length)(z:(bL ids).Nodup)(m:∀i,i∈bL ids->∃c,nth H i=c5 c)(L:∀i,i∈bL ids->i<bs)
 (J:∀e,a+e<os.length->∃c,nth H (bs+e)=c5 c):
 (∀q i c,q<a->nth ids q=c5 (.bG i)->os[q]? =c5 c->nth (b8 H (gE H a bs ids os)) i=c5 ⟨dJ H i,c.aF,c.bd⟩)/\
 (∀q i c,a<=q->nth ids q=c5 (.bG i)->nth H i=c5 c->nth (b8 H (gE H a bs ids os)) i=c5 ⟨c.st+1,c.aF+1,.dead⟩)/\
 (∀e c,os[a+e]? =c5 c->nth (b8 H (gE H a bs ids os)) (bs+e)=c5 c)/\
 (∀i,i∉bL ids->(i<bs\/bs+(os.length -a)<=i)->nth (b8 H (gE H a bs ids os)) i=nth H i):=by
 have o:bL ids=bL (ids.take a)++bL (ids.drop a):=by rw[<-rH,ev]
 obtain⟨y,t⟩:=JU (H:=H) (os:=os) A u;obtain⟨E,K⟩:=tm (H:=H) (ids:=ids.drop a) λi d=>m i (by rw[o];exact ge _ d)
 obtain⟨G,w⟩:=Jy (bs:=bs) (os:=os.drop a);have n:(gE H a bs ids os).map (·.1)=bL ids++List.range' bs (os.length -a):=by
  unfold gE;rw[bK,bK,kK,kK,drop_eq,drop_eq,List.map_append,List.map_append,y,E,G,o,d3,g8]
 have B:((gE H a bs ids os).map (·.1)).Nodup:=by
  rw[n,List.nodup_append];refine⟨z,List.nodup_range',λx C b r I=>?_⟩
  subst I;have:=L x C;have:=(i3.1 r).1;omega
 obtain⟨h,v⟩:=I5 (ch:=gE H a bs ids os) (H:=H) B;have k:∀p,p∈iF H (ids.take a) (os.take a)\/p∈jL H (ids.drop a)\/p∈news bs (os.drop a)->p∈gE H a bs ids os:=λp F=>by
  unfold gE;rw[bK,bK,kK,kK,drop_eq,drop_eq,c6,c6];exact F
 have lt:∀{i c},nth H i=c5 c->i<H.length:=λ{i c} g=>by rw[cJ] at g;exact c9 g
 refine⟨λq i c l d f=>?_,λq i c l d f=>?_,λe c f=>?_,λi d r=>?_⟩
 ·obtain⟨s,j⟩:=m i (gV d);exact h _ _ (k _ (.inl (t q i c l d f))) (lt j)
 ·exact h _ _ (k _ (.inr (.inl (K (q -a) i c (by rw[afH,show a+(q -a)=q by omega];exact d) f)))) (lt f)
 ·obtain⟨s,j⟩:=J e (c9 f);exact h _ _ (k _ (.inr (.inr (w e c (by rw[f9];exact f))))) (lt j)
 ·refine v i ?_
  rw[n,c6,i3];rintro(g |g)
  ·exact d g
  ·omega
end
section
variable {P : Program} {B : Tb}
open Classical in
theorem aeK(aa:cU P B){c:aq B}(aK:Fits P B c){Ea:En B.D}{H:List (Ob B.D)}{ids:List Rf}{bk:List (TV B.D)}{aU:bi B.D c.par.bX}{ao:bi B.D c.az.bX}{bs:Nat}{rs:En B.D}{os:List (Ob B.D)}
 (cy:leaves c.par ⟨Ea,H⟩ ids=c5 bk) (ca:eJ B c.par.bX bk (rQ B c.par.bX aU)) (aQ:c.F aU=c5 ao) (br:nI B (gu H ids c.low bs) c.az ao=⟨rs,os⟩)
 (b5:zc (aX (eW H c.par.dF ids) (gK ⟨Ea,H⟩ c.par.dE))=true\/(oN B.flat B.el c.az.dF=true/\tJ B.flat c.az.dE=true))
 (bP:kA c.low ids=true) (cg:c.low<=os.length) (b0:∀i,i∈bL ids->i<bs) (be:∀e,c.low+e<os.length->nth H (bs+e)=c5 xt)
 {g:Gh} {w:World} {as:List Value} (ah:bF g (av B H) w) (cx:as.length=c.na) (bq:∀az,VR g (av B H) w (pv B (lk Ea az)) (as.getD az undef)):
 Calls P c.cO as.toArray w λt Q=>∃v g',t= .returned v/\bF g' (av B (b8 H (gE H c.low bs ids os))) Q/\Bml.GStep (av B H).length g (av B H) w g' (av B (b8 H (gE H c.low bs ids os))) Q/\
  VR g' (av B (b8 H (gE H c.low bs ids os))) Q (pv B (kR rs)) v:=by
 let aI:=aX (eW H c.par.dF ids) (gK ⟨Ea,H⟩ c.par.dE)
 let fz:Nat->Prop:=λi=>i∈aI/\∀q,eQ ids q≠c5 i
 obtain⟨bx,bT,cl,b7⟩:=PQ aa cy ca ah (fz:=fz) (λi a=>a.2) (λi d cA=>⟨d,λq j=>cA (gV (qS j))⟩);refine(aK.calls aU ao aQ _ w as cx cl λaz=>b7 az _ (bq az)).mono ?_
 rintro t Q ⟨v,y,rfl,ab,M,a2⟩;have aO:∀i,i∈bL ids->∃K,nth H i=c5 K:=λi d=>by
  obtain⟨q,j⟩:=uM d;obtain⟨_,K,_,X,_⟩:=bT.bG q i j;exact⟨K,X⟩
 obtain⟨bX,bz,bN,bo⟩:=agp (os:=os) (bs:=bs) bP cg bx aO b0 λe E=>⟨_,be e E⟩
 generalize cr:b8 H (gE H c.low bs ids os)=H2 at bX bz bN bo⊢;have cD:H2.length=H.length:=by rw[<-cr,qy]
 have ci:=NA (B:=B) c.az.bX ao;obtain⟨cL,bn,bY,u1,u2⟩:=en.split ci;obtain⟨J,b9,co,cp,cF,cM,bW⟩:=Pj (ρ:=λq=>(q,0)) (ρ':=gu H ids c.low bs) (q0:=0) u1;have cq:cz B c.az ao=⟨gR (λq=>(q,0)) c.az.dE bn,J⟩:=by
  unfold cz nI;rw[bY,co]
 have cm:rs=gR (gu H ids c.low bs) c.az.dE bn/\os=b9:=by
  unfold nI at br;rw[bY,cp] at br;injection br with u o
  exact⟨u.symm,o.symm⟩
 obtain⟨rfl,rfl⟩:=cm;rw[cq] at ab M a2
 replace ab:bF y (av B J) Q:=ab
 replace M:Bml.GStep c.low (dj g (eQ ids) fz) (av B (cz B c.par aU).H) w y (av B J) Q:=M
 replace a2:VR y (av B J) Q (pv B (kR (gR (λq=>(q,0)) c.az.dE bn))) v:=a2
 have cE:J.length=os.length:=by omega
 have aZ:∀q b h,(dj g (eQ ids) fz).β q=c5 (b,h)->∃i,nth ids q=c5 (.bG i)/\g.β i=c5 (b,h):=λq b h a=>by
  have l:(eQ ids q).bind g.β=c5 (b,h):=a;cases aJ:eQ ids q with
  |none=>rw[aJ] at l;cases l
  |some i=>rw[aJ] at l;exact⟨i,qS aJ,l⟩
 let af:Nat->Prop:=λi=>∃q,q<c.low/\nth ids q=c5 (.bG i)
 let aF:Nat->Prop:=λi=>bs<=i/\c.low+(i -bs)<os.length
 let bO:Nat->Prop:=λb=>∃i h,fz i/\g.β i=c5 (b,h)
 let V:Gh:={F:=λb=>y.F b/\¬bO b,β:=λi=>if a:af i then y.β a.choose else if i∈bL ids then d9 else if aF i then y.β (c.low+(i -bs)) else g.β i}
 have aj:∀q i,q<c.low->nth ids q=c5 (.bG i)->V.β i=y.β q:=λq i j d=>by
  have a:af i:=⟨q,j,d⟩;show(if a:af i then y.β a.choose else _)=_
  rw[dif_pos a,ES bx a.choose_spec.2 d]
 have ax:∀q i,c.low<=q->nth ids q=c5 (.bG i)->V.β i=d9:=λq i j d=>by
  have a:¬af i:=λ⟨D,u,o⟩=>by have:=ES bx o d;omega
  show(if a:af i then y.β a.choose else if i∈bL ids then d9 else _)=_
  rw[dif_neg a,if_pos (gV d)]
 have bJ:∀e,bs+e∉bL ids:=λe a=>by have:=b0 _ a;omega
 have an:∀e,c.low+e<os.length->V.β (bs+e)=y.β (c.low+e):=λe E=>by
  have a:¬af (bs+e):=λ⟨D,u,o⟩=>bJ e (gV o)
  have o:aF (bs+e):=⟨by omega,by rw[show bs+e -bs=e by omega];exact E⟩;show(if a:af (bs+e) then y.β a.choose else if bs+e∈bL ids then d9 else if aF (bs+e) then y.β (c.low+(bs+e -bs)) else _)=_
  rw[dif_neg a,if_neg (bJ e),if_pos o,show bs+e -bs=e by omega]
 have ak:∀i,i∉bL ids->(i<bs\/bs+(os.length -c.low)<=i)->V.β i=g.β i:=λi d k=>by
  have a:¬af i:=λ⟨D,u,o⟩=>d (gV o)
  have o:¬aF i:=λ⟨u,o⟩=>by omega
  show(if a:af i then y.β a.choose else if i∈bL ids then d9 else if aF i then y.β (c.low+(i -bs)) else g.β i)=_
  rw[dif_neg a,if_neg d,if_neg o]
 have ai:∀i,(∃q,q<c.low/\nth ids q=c5 (.bG i))\/(∃q,c.low<=q/\nth ids q=c5 (.bG i))\/(∃e,c.low+e<os.length/\i=bs+e)\/(i∉bL ids/\(i<bs\/bs+(os.length -c.low)<=i)):=λi=>by
  by_cases d:i∈bL ids
  ·obtain⟨q,j⟩:=uM d;rcases f8 q c.low with a |a
   ·exact .inl ⟨q,a,j⟩
   ·exact .inr (.inl ⟨q,a,j⟩)
  ·by_cases a:bs<=i/\i<bs+(os.length -c.low)
   ·exact .inr (.inr (.inl ⟨i -bs,by omega,by omega⟩))
   ·exact .inr (.inr (.inr ⟨d,by omega⟩))
 have bl:∀q b h,y.β q=c5 (b,h)->w.heap.size<=b\/∃i p,i∈bL ids/\g.β i=c5 (b,p):=λq b h a=>by
  rcases M.oZ q b h a with a |⟨D,p,a⟩
  ·exact .inl a
  ·obtain⟨i,d,k⟩:=aZ D b p a;exact .inr ⟨i,p,gV d,k⟩
 have bD:∀q i,q<c.low->nth ids q=c5 (.bG i)->∃op r m f S,J[q]? =c5 m/\os[q]? =c5 f/\en B op.bX r/\(oN B.flat B.el c.az.dF=true->uT B.flat B.el op=true)/\(∀x,dI (λq=>(q,0)) 0 0 op (r++x)=(m,x))/\(∀x,dI (gu H ids c.low bs) 0 S.aF op (r++x)=(f,x))/\
  nth H i=c5 S/\nth H2 i=c5 ⟨dJ H i,f.aF,f.bd⟩/\m.aF=0/\f.aF=S.aF/\(aY B f).ty=(aY B m).ty/\(aY B f).sz=(aY B m).sz/\(aY B f).es.length=(aY B m).es.length:=λq i j d=>by
  obtain⟨op,r,m,f,z,Y,N,U,I,C⟩:=bW q (by omega);obtain⟨S,a4⟩:=aO i (gV d);rw[d8] at I C;have bp:(gu H ids c.low bs q).2=S.aF:=by
   unfold gu;rw[show gx q c.low=true from fe j,d];simp only[cond_true,a4]
  rw[bp] at C;obtain⟨ar,au,a7,bt,bA,bC,aD,ap,aC⟩:=Iz (B:=B) (ρ:=λq=>(q,0)) (ρ':=gu H ids c.low bs) 0 0 0 S.aF N;obtain rfl:ar=m:=by have O:=a7 [];have b:=I [];rw[O] at b;exact(ea b).1
  obtain rfl:au=f:=by have O:=bt [];have b:=C [];rw[O] at b;exact(ea b).1
  exact⟨op,r,ar,au,S,z,Y,N,U,I,C,a4,bX q i au j d Y,bA,bC,aD,ap,aC⟩
 have bm:∀e,c.low+e<os.length->∃op r m f,J[c.low+e]? =c5 m/\os[c.low+e]? =c5 f/\en B op.bX r/\(oN B.flat B.el c.az.dF=true->uT B.flat B.el op=true)/\(∀x,dI (λq=>(q,0)) 0 0 op (r++x)=(m,x))/\(∀x,dI (gu H ids c.low bs) 0 1 op (r++x)=(f,x))/\
  nth H2 (bs+e)=c5 f/\m.aF=0/\f.aF=1/\(aY B f).ty=(aY B m).ty/\(aY B f).sz=(aY B m).sz/\(aY B f).es.length=(aY B m).es.length:=λe E=>by
  obtain⟨op,r,m,f,z,Y,N,U,I,C⟩:=bW (c.low+e) (by omega);rw[d8] at I C;have bp:(gu H ids c.low bs (c.low+e)).2=1:=by
   unfold gu;have:gx (c.low+e) c.low=false:=by
    cases k:gx (c.low+e) c.low with
    |false=>rfl
    |true=>have:=d6 k;omega
   rw[this];rfl
  rw[bp] at C;obtain⟨ar,au,a7,bt,bA,bC,aD,ap,aC⟩:=Iz (B:=B) (ρ:=λq=>(q,0)) (ρ':=gu H ids c.low bs) 0 0 0 1 N;obtain rfl:ar=m:=by have O:=a7 [];have b:=I [];rw[O] at b;exact(ea b).1
  obtain rfl:au=f:=by have O:=bt [];have b:=C [];rw[O] at b;exact(ea b).1
  exact⟨op,r,ar,au,z,Y,N,U,I,C,bN e au Y,bA,bC,aD,ap,aC⟩
 have bh:∀i b h,g.β i=c5 (b,h)->i<H.length/\b<w.heap.size/\¬g.F b:=λi b h a=>by
  have d:=ah.m8 i b h a;have n:i<H.length:=by rwa [qL] at d
  refine⟨n,ah.qD a,?_⟩
  have:=(ah.obj i _ (c4 d)).mem;rw[a] at this;exact this.1
 have cf:∀b,g.F b->¬bO b:=λb k ⟨i,h,_,a⟩=>(bh i b h a).2.2 k
 have bK:Bml.GStep (av B H).length g (av B H) w V (av B H2) Q:=by
  refine⟨M.os,M.tape,M.output,M.size,λb k=>⟨M.F b (.inl k),cf b k⟩,λb k=>M.jh b (.inl k),λb k a3=>M.rest b k λq h a=>?_,λb k=>?_,λi b h k=>?_,λi K d X=>?_⟩
  ·obtain⟨i,_,o⟩:=aZ q b h a;exact a3 i h o
  ·rcases M.oY b k.1 with a |a |⟨q,h,a⟩
   ·rcases a with a |⟨i,h,u,o⟩
    ·exact .inl a
    ·exact absurd ⟨i,h,u,o⟩ k.2
   ·exact .inr (.inl a)
   ·obtain⟨i,_,o⟩:=aZ q b h a;exact .inr (.inr ⟨i,h,o⟩)
  ·rcases ai i with⟨q,j,d⟩ |⟨q,j,d⟩ |⟨e,E,rfl⟩ |⟨d,T⟩
   ·rw[aj q i j d] at k;exact(bl q b h k).imp id λ⟨i,p,_,a⟩=>⟨i,p,a⟩
   ·rw[ax q i j d] at k;cases k
   ·rw[an e E] at k;exact(bl _ b h k).imp id λ⟨i,p,_,a⟩=>⟨i,p,a⟩
   ·rw[ak i d T] at k;exact .inr ⟨i,h,k⟩
  ·obtain⟨bc,R,rfl⟩:=oU X;rcases ai i with⟨q,j,n⟩ |⟨q,j,n⟩ |⟨e,E,rfl⟩ |⟨n,T⟩
   ·obtain⟨op,r,m,f,S,z,Y,N,U,I,C,L,W,ae,aT,aB,ag,ac⟩:=bD q i j n;rw[R] at L;injection L with L
    subst L;refine⟨_,df W,by rw[e7,e7,aT];exact dt _,λ_=>?_⟩
    obtain⟨aJ,K,ay,a1,cv,cn,b2,ch⟩:=bT.bG q i n;rw[R] at a1;injection a1 with a1
    subst a1;obtain⟨cG,aV,cO,b3⟩:=M.dF q _ j (df cv);have cd:(av B J)[q]? =c5 (aY B m):=df (by rw[cJ];exact z);rw[cd] at aV;injection aV with aV
    subst aV;obtain⟨cs,b1,cj⟩:=b3 (by rw[e7,e7,ae,cn]);refine⟨?_,?_,?_⟩
    ·show(aY B ⟨dJ H i,f.aF,f.bd⟩).sz=_
     rw[show aY B ⟨dJ H i,f.aF,f.bd⟩=aY B f from rfl,ag,cs,b2]
    ·show(aY B ⟨dJ H i,f.aF,f.bd⟩).es.length=_
     rw[show aY B ⟨dJ H i,f.aF,f.bd⟩=aY B f from rfl,ac,b1,ch]
    ·rw[aj q i j n,cj];show(eQ ids q).bind g.β=_
     rw[aJ];rfl
   ·have:=bz q i bc j n R;exact⟨_,df this,by rw[e7,e7];exact Nat.le_succ _,λt=>by rw[e7,e7] at t;exact absurd t (Nat.succ_ne_self _)⟩
   ·obtain⟨op,r,m,f,z,Y,N,U,I,C,L,W,ae,_⟩:=bm e E;rw[be e E] at R;injection R with R
    subst R;exact⟨_,df L,by rw[e7];exact hK _,λt=>by rw[e7,e7,ae] at t;cases t⟩
   ·exact⟨_,df (by rw[bo i n T];exact R),dt _,λ_=>⟨rfl,rfl,ak i n T⟩⟩
 have bQ:(∀b,y.F b->V.F b)\/(oN B.flat B.el c.az.dF=true/\tJ B.flat c.az.dE=true):=b5.imp (λa3 b k=>⟨k,λ⟨i,h,u,_⟩=>by
  have o:i∈aI:=u.1;have aE:aI=[]:=by
   cases cC:aI with
   |nil=>rfl
   |cons O J=>rw[show aX (eW H c.par.dF ids) (gK ⟨Ea,H⟩ c.par.dE)=aI from rfl,cC] at a3;cases a3
  rw[aE] at o;cases o⟩) id
 have ce:∀q,(∃i,q<c.low/\nth ids q=c5 (.bG i))\/c.low<=q:=λq=>by
  rcases f8 q c.low with a |a
  ·obtain⟨i,d⟩:=Ql bP q a;exact .inl ⟨i,a,d⟩
  ·exact .inr a
 have conv:∀q:Nat,∀m,(av B J)[q]? =c5 m->m.aF=0/\∃i f,gu H ids c.low bs q=(i,f.aF)/\(av B H2)[i]? =c5 f/\f.sz=m.sz/\f.es.length=m.es.length/\V.β i=y.β q:=λq m u=>by
  obtain⟨cN,aR,rfl⟩:=oU u;rw[cJ] at aR;rcases ce q with⟨i,j,d⟩ |j
  ·obtain⟨op,r,ar,f,S,z,Y,N,U,I,C,L,W,ae,aT,aB,ag,ac⟩:=bD q i j d;rw[aR] at z;injection z with z
   subst z;refine⟨by rw[e7,ae],i,_,?_,df W,ag,ac,aj q i j d⟩
   unfold gu;rw[show gx q c.low=true from fe j,d];simp only[cond_true,L,e7,aT]
  ·have cH:q<J.length:=c9 aR;have E:c.low+(q -c.low)<os.length:=by omega
   obtain⟨op,r,ar,f,z,Y,N,U,I,C,L,W,ae,aB,ag,ac⟩:=bm (q -c.low) E;rw[show c.low+(q -c.low)=q by omega,aR] at z;injection z with z
   subst z;refine⟨by rw[e7,W],bs+(q -c.low),_,?_,df L,ag,ac,by rw[an _ E,show c.low+(q -c.low)=q by omega]⟩
   unfold gu;have:gx q c.low=false:=by
    cases k:gx q c.low with
    |false=>rfl
    |true=>have:=d6 k;omega
   rw[this];simp only[cond_false,e7,ae]
 have bS:∀q v,VR y (av B J) Q (.ptr q 0 0 0) v->VR V (av B H2) Q (.ptr (gu H ids c.low bs q).1 (gu H ids c.low bs q).2 0 0) v:=λq v a=>by
  cases a with
  |aW a=>cases a
  |ptr _ _ _ _ m O X bq cb=>
   obtain⟨h0,i,f,a6,bH,a9,bE,ba⟩:=conv q m X;obtain⟨u,b,h,k,rfl⟩:=cb h0.symm;rw[a6];exact .ptr i _ 0 0 f _ bH (dt _) λ_=>⟨by rw[bE];exact u,b,h,by rw[ba];exact k,by rw[a9]⟩
 have bV:∀q v,VR y (av B J) Q (.fl q 0) v->VR V (av B H2) Q (.fl (gu H ids c.low bs q).1 (gu H ids c.low bs q).2) v:=λq v a=>by
  cases a with
  |aW a=>cases a
  |fl _ _ m _ X bq u ct=>
   obtain⟨h0,i,f,a6,bH,a9,bE,ba⟩:=conv q m X;rw[a6];refine .fl i _ f _ bH (dt _) u λ_=>?_
   have bM:=ct h0.symm;unfold SL at bM⊢;rw[a9,bE,ba];exact bM
 have bZ:∀q op r m (f:Ob B.D) aS a0,J[q]? =c5 m->en B op.bX r->(oN B.flat B.el c.az.dF=true->uT B.flat B.el op=true)->(∀x,dI (λq=>(q,0)) 0 0 op (r++x)=(m,x))->(∀x,dI (gu H ids c.low bs) aS a0 op (r++x)=(f,x))->
  (aY B f).ty=(aY B m).ty->(aY B f).sz=(aY B m).sz->(aY B f).es.length=(aY B m).es.length->∀i,V.β i=y.β q->qT V (av B H2) Q i (aY B f):=λq op r m f aS a0 z N U I C aD ap aC i b4=>by
  obtain⟨bB,bd,ad⟩:=ab.obj q _ (df (by rw[cJ];exact z));have ck:=af9 aa (H:=av B J) (H':=av B H2) (g:=y) (g':=V) (w:=Q) bS bV N (bQ.imp id λa=>U a.1) I C;refine⟨by rw[ap];exact bB,aeL aa (op:=op) (ms:=r) I C bd,?_⟩
  rw[b4];cases k:y.β q with
  |none=>
   rw[k] at ad;exact d4 (by rw[aC,ad];rfl)
  |some bf=>
   obtain⟨b,h⟩:=bf;rw[k] at ad;obtain⟨bv,cells,aN,a8,bb,bI,bj⟩:=ad;refine⟨λa=>bv a.1,cells,by rw[aD];exact aN,by rw[ap];exact a8,bb,by rw[aC];exact bI,λO e cc aK=>?_⟩
   obtain⟨bw,cw,cu⟩:=ck O e cc aK;obtain⟨a5,u,o,aE⟩:=bj O e bw cw;exact⟨a5,by rw[ap];exact u,o,cu a5 aE⟩
 refine⟨v,V,rfl,⟨λb k=>ab.fb b k.1,λi A b h p a l=>?_,λi b h a=>?_,λi K X=>?_⟩,bK,?_⟩
 ·
  have bG:∀i,i∉bL ids->(i<bs\/bs+(os.length -c.low)<=i)->∀b h,g.β i=c5 (b,h)->∀q p,y.β q≠c5 (b,p):=λi d _ b h k q p j=>by
   rcases bl q b p j with a |⟨A,C2,u,o⟩
   ·have:=(bh i b h k).2.1;omega
   ·obtain rfl:=ah.inj i A b h C2 k o;exact d u
  rcases ai i with⟨q,j,d⟩ |⟨q,j,d⟩ |⟨e,E,rfl⟩ |⟨d,T⟩
  ·rw[aj q i j d] at a;rcases ai A with⟨D,Z,n⟩ |⟨D,Z,n⟩ |⟨aL,aG,rfl⟩ |⟨n,al⟩
   ·rw[aj D A Z n] at l;obtain rfl:=ab.inj q D b h p a l;rw[d] at n;injection n with n
    injection n
   ·rw[ax D A Z n] at l;cases l
   ·rw[an aL aG] at l;have:=ab.inj q _ b h p a l;omega
   ·rw[ak A n al] at l;exact absurd a (bG A n al b p l q h)
  ·rw[ax q i j d] at a;cases a
  ·rw[an e E] at a;rcases ai A with⟨D,Z,n⟩ |⟨D,Z,n⟩ |⟨aL,aG,rfl⟩ |⟨n,al⟩
   ·rw[aj D A Z n] at l;have:=ab.inj _ D b h p a l;omega
   ·rw[ax D A Z n] at l;cases l
   ·rw[an aL aG] at l;have:=ab.inj _ _ b h p a l;omega
   ·rw[ak A n al] at l;exact absurd a (bG A n al b p l _ h)
  ·rw[ak i d T] at a;rcases ai A with⟨D,Z,n⟩ |⟨D,Z,n⟩ |⟨aL,aG,rfl⟩ |⟨n,al⟩
   ·rw[aj D A Z n] at l;exact absurd l (bG i d T b h a D p)
   ·rw[ax D A Z n] at l;cases l
   ·rw[an aL aG] at l;exact absurd l (bG i d T b h a _ p)
   ·rw[ak A n al] at l;exact ah.inj i A b h p a l
 ·rw[qL,cD];rcases ai i with⟨q,j,d⟩ |⟨q,j,d⟩ |⟨e,E,rfl⟩ |⟨d,T⟩
  ·obtain⟨K,X⟩:=aO i (gV d);rw[cJ] at X;exact c9 X
  ·rw[ax q i j d] at a;cases a
  ·have:=be e E;rw[cJ] at this;exact c9 this
  ·rw[ak i d T] at a;exact(bh i b h a).1
 ·obtain⟨bc,R,rfl⟩:=oU X;rcases ai i with⟨q,j,d⟩ |⟨q,j,d⟩ |⟨e,E,rfl⟩ |⟨d,T⟩
  ·obtain⟨op,r,m,f,S,z,Y,N,U,I,C,L,W,ae,aT,aB,ag,ac⟩:=bD q i j d;rw[R] at W;injection W with W
   subst W;exact bZ q op r m f 0 S.aF z N U I C aB ag ac i (aj q i j d)
  ·obtain⟨S,a4⟩:=aO i (gV d);have:=bz q i S j d a4;rw[R] at this;injection this with this
   subst this;refine⟨Nat.one_pos,λO t G=>by simp[aY] at G,?_⟩
   rw[ax q i j d]
   rfl
  ·obtain⟨op,r,m,f,z,Y,N,U,I,C,L,W,ae,aB,ag,ac⟩:=bm e E;rw[R] at L;injection L with L
   subst L;exact bZ (c.low+e) op r m bc 0 1 z N U I C aB ag ac _ (an e E)
  ·rw[bo i d T] at R;obtain⟨bB,bd,ad⟩:=ah.obj i _ (df R);refine⟨bB,bd,?_⟩
   rw[ak i d T];cases k:g.β i with
   |none=>rw[k] at ad;exact ad
   |some bf=>
    obtain⟨b,h⟩:=bf;rw[k] at ad;obtain⟨bv,cells,aN,a8,bb,bI,bj⟩:=ad;have bU:∀q p,(dj g (eQ ids) fz).β q≠c5 (b,p):=λq p a=>by
     obtain⟨A,u,o⟩:=aZ q b p a;obtain rfl:=ah.inj i A b h p k o;exact d (gV u)
    refine⟨λaQ=>?_,cells,(M.rest b (nN aN) bU).trans aN,a8,bb,bI,λO e bw aK=>?_⟩
    ·rcases M.oY b aQ.1 with a |a |⟨q,p,a⟩
     ·rcases a with a |⟨A,p,u,o⟩
      ·exact bv a
      ·exact aQ.2 ⟨A,p,u,o⟩
     ·have:=nN aN;omega
     ·exact bU q p a
    ·obtain⟨a5,u,o,aE⟩:=bj O e bw aK;exact⟨a5,u,o,aE.nZ bK⟩
 ·exact al8 (OR aa bS bV u2 (bQ.imp id λa=>a.2)) a2
where
 aeL (aa:cU P B) {ρ ρ':Nat->Nat×Nat} {s v aS a0:Nat} {op:OP} {ms:List (TV B.D)} {K ay:Ob B.D} (a:∀x,dI ρ s v op (ms++x)=(K,x)) (l:∀x,dI ρ' aS a0 op (ms++x)=(ay,x))
  (hw:∀(i:Nat) (t:PV),(aY B K).es[i]? =c5 t->t.cells.length=(aY B K).sz):∀(i:Nat) (t:PV),(aY B ay).es[i]? =c5 t->t.cells.length=(aY B ay).sz:=by
  have a:=a [];have l:=l [];rw[ef] at a l;cases op with
  |refs r aH=>
   simp only[dI,uA,ez] at a l;obtain⟨rfl,_⟩:=a;obtain⟨rfl,_⟩:=l;have bR:∀(aM:Nat->Nat×Nat) i,(aP B (aH.map λq=>.fl (aM q).1 (aM q).2))[i]? =(aH[i]?).map λq=>PV.fl (aM q).1 (aM q).2:=λaM i=>by
    rw[db,i8,dd]
    rfl
   intro i t G;have G:(aP B (aH.map λq=>.fl (ρ' q).1 (ρ' q).2))[i]? =c5 t:=G;rw[bR] at G;cases j:aH[i]? with
   |none=>rw[j] at G;cases G
   |some q=>
    rw[j] at G;injection G with G
    subst G;exact hw i (.fl (ρ q).1 (ρ q).2) (by show(aP B (aH.map λq=>.fl (ρ q).1 (ρ q).2))[i]? =_;rw[bR,j];rfl)
  |rows r am=>
   refine HK aa ay λam aw aA t=>?_
   cases ms with
   |nil=>
    simp only[dI] at l;obtain⟨rfl,_⟩:=ea l;cases t
   |cons J bk=>cases J <;> (simp only[dI] at l;obtain⟨rfl,_⟩:=ea l;cases t)
  |box az cB=>
   refine HK aa ay λam aw aA t=>?_
   simp only[dI] at l;obtain⟨rfl,_⟩:=ea l;cases t
  |dead=>
   refine HK aa ay λam aw aA t=>?_
   simp only[dI] at l;obtain⟨rfl,_⟩:=ea l;cases t
 HK (aa:cU P B) (K:Ob B.D) (hnh:∀am aw aA,K.bd≠ .hole am aw aA):∀(i:Nat) (t:PV),(aY B K).es[i]? =c5 t->t.cells.length=(aY B K).sz:=λi t G=>by
  obtain⟨cI,cK,b6⟩:=K;cases b6 with
  |rows r aw=>
   obtain⟨ao,_,rfl⟩:=e5.1 (dT G);exact aa.wid r ao
  |box az cB=>
   match i,G with
   |0,G=>
    simp only[aY,h9,dk] at G;subst G;simp[aY,PV.cells,db]
  |dead=>simp[aY] at G
  |hole am aw aA=>exact absurd rfl (hnh am aw aA)
end
section
variable {P : Program} {B : Tb} {H H' : List (Ob B.D)}
theorem rT{i v:Nat}(a:nth H' i=nth H i):aK H' i v=aK H i v:=by unfold aK;rw[a]
theorem R5{c:List Nat}:∀(a:List (TV B.D)),(∀i,i∈iB a->nth H' i=nth H i)->qf H' c a=qf H c a
 |[],_=>rfl
 |d::a,b=>by
  simp only[qf];rw[R5 a λi e=>b i (by simp only[iB,bK,c6];exact .inr e)]
  congr 1
  cases d with
  |fl q v=>simp only[ml];rw[rT (b q (by simp[iB,refs,bK]))]
  |_=>rfl
theorem Ki:∀(a:List Nat),(∀i,i∈a->nth H' i=nth H i)->kY H' a=kY H a
 |[],_=>rfl
 |r::a,b=>by
  unfold kY;rw[b r (by simp),Ki a λi c=>b i (c7 _ c)]
mutual
theorem H6{g:List Nat}:∀(e:TV B.D),(∀i,jN H (refs e) i->nth H' i=nth H i)->kJ H' g e=kJ H g e
 | .any,_=>rfl
 | .z0,_=>rfl
 | .fS,_=>rfl
 | .bg,_=>rfl
 | .dB,_=>rfl
 | .int ..,_=>rfl
 | .bool _,_=>rfl
 | .str _,_=>rfl
 | .row ..,_=>rfl
 | .rv ..,_=>rfl
 | .vp ..,_=>rfl
 | .ptr ..,_=>rfl
 | .bu _,_=>rfl
 | .jC _,_=>rfl
 | .fl q v,a=>by
  simp only[kJ];rw[rT (a q (.one (by simp[refs])))]
  split
  ·rfl
  ·rename_i n h m;obtain⟨l,j⟩:=fx m;rw[R5 h λi b=>a i ?_];unfold jN;rw[bK,c6];exact .inr (yx.2 ⟨q,l,v,n,h,by simp[refs],j,b⟩)
  ·rfl
 | .sl q v o len,a=>by simp only[kJ];rw[rT (a q (.one (by simp[refs])))]
 | .agg d,a=>by simp only[kJ];rw[v8 d a]
 | .fn f d k,a=>by
  simp only[kJ];rw[v8 d λi b=>a i (b.mono λr c=>by simp only[refs,bK,c6];exact .inl c),v8 k λi b=>a i (b.mono λr c=>by simp only[refs,bK,c6];exact .inr c)]
theorem v8{e:List Nat}:∀(a:List (TV B.D)),(∀i,jN H (iB a) i->nth H' i=nth H i)->jS H' e a=jS H e a
 |[],_=>rfl
 |f::a,d=>by
  simp only[jS];rw[H6 f λi c=>d i (c.mono λr b=>by simp only[iB,bK,c6];exact .inl b),v8 a λi c=>d i (c.mono λr b=>by simp only[iB,bK,c6];exact .inr b)]
end
mutual
theorem Mh{u:List Rf}{t:List Nat}(m:∀i,i∈bL u->nth H' i=nth H i):∀(p:CP) (c:TV B.D) (d:List (TV B.D)),eR H u t p c=c5 d->(∀i,i∈jn H p c->nth H' i=nth H i)->eR H' u t p c=c5 d/\jn H' p c=jn H p c
 | .any,c,d,a,_=>⟨a,rfl⟩
 | .v v,c,d,a,h=>by
  simp only[eR] at a⊢;have w:∀i,jN H (refs c) i->nth H' i=nth H i:=h;rw[H6 c w];refine⟨a,?_⟩
  simp only[jn];rw[Ki (refs c) λi l=>w i (.one l)]
 | .p q,c,d,a,N=>by
  refine⟨?_,rfl⟩
  simp only[eR] at a⊢
  split at a
  ·rename_i i x
   split at a
   ·rename_i L j y n k;obtain⟨e,g⟩:=a8 a;obtain rfl:=beq_eq e;rw[rT (m i (gV k)),n,k];simp only[g0,cond_true];exact g
   ·cases a
  ·cases a
 | .r q,c,d,a,N=>by
  refine⟨?_,rfl⟩
  simp only[eR] at a⊢
  split at a
  ·rename_i i x
   split at a
   ·rename_i v D y n k;obtain⟨e,g⟩:=a8 a;obtain rfl:=beq_eq e;rw[rT (m i (gV k)),n,k];simp only[g0,cond_true];exact g
   ·rename_i v D T y n k;obtain⟨e,g⟩:=a8 a;obtain rfl:=beq_eq e;rw[rT (m i (gV k)),n,k];simp only[g0,cond_true];exact g
   ·cases a
  ·exact a
  ·exact a
  ·cases a
 | .q o,c,d,a,h=>by
  simp only[eR] at a⊢
  split at a
  ·rename_i i x;have l:nth H' i=nth H i:=h i (by simp[jn])
   split at a
   ·rename_i L j n;obtain⟨U,A⟩:=fx n;rw[rT l,n];cases z:has t i with
    |true=>rw[z] at a;cases a
    |false=>
     rw[z] at a;obtain⟨e,g⟩:=a8 a;obtain⟨r,s⟩:=pY m o j d g λO J=>h O (by simp only[jn,A,d0];exact .inr J)
     simp only[e,cond_true,cond_false];refine⟨r,?_⟩
     simp only[jn,l,A,s]
   ·cases a
  ·rename_i j;obtain⟨e,g⟩:=a8 a;obtain⟨r,s⟩:=pY m o j d g h;simp only[e,cond_true];exact⟨r,s⟩
  ·cases a
 | .f V o F,c,d,a,h=>by
  simp only[eR] at a⊢
  split at a
  ·rename_i f j K;obtain⟨S,C⟩:=a8 a;obtain⟨G,I,e,g,rfl⟩:=iK C;obtain⟨Q,R⟩:=pY m o j G e λi l=>h i (by simp only[jn,bK,c6];exact .inl l)
   obtain⟨M,E⟩:=pY m F K I g λi l=>h i (by simp only[jn,bK,c6];exact .inr l)
   refine⟨by rw[S];simp[Q,M,cat],by simp only[jn,R,E]⟩
  ·cases a
 | .g o,c,d,a,h=>by
  simp only[eR] at a⊢
  split at a
  ·rename_i j;exact pY m o j d a h
  ·cases a
 | .b b,c,d,a,_=>⟨a,rfl⟩
 | .i W v,c,d,a,_=>⟨a,rfl⟩
 | .z,c,d,a,_=>⟨a,rfl⟩
 | .ns,c,d,a,_=>⟨a,rfl⟩
theorem pY{f:List Rf}{j:List Nat}(g:∀i,i∈bL f->nth H' i=nth H i):∀(c:List CP) (b:List (TV B.D)) (d:List (TV B.D)),fg H f j c b=c5 d->(∀i,i∈gJ H c b->nth H' i=nth H i)->fg H' f j c b=c5 d/\gJ H' c b=gJ H c b
 |[],[],d,a,_=>⟨a,rfl⟩
 |s::c,t::b,d,a,h=>by
  simp only[fg] at a⊢;obtain⟨m,l,o,p,rfl⟩:=iK a;obtain⟨q,r⟩:=Mh g s t m o λi e=>h i (by simp only[gJ,bK,c6];exact .inl e)
  obtain⟨n,k⟩:=pY g c b l p λi e=>h i (by simp only[gJ,bK,c6];exact .inr e)
  exact⟨by simp[q,n,cat],by simp only[gJ,r,k]⟩
 |[],_::_,d,a,_=>by simp[fg] at a
 |_::_,[],d,a,_=>by simp[fg] at a
end
theorem Bu{u:List Rf}{y:List Nat}(n:∀i,i∈bL u->nth H' i=nth H i):∀{l:List (Nat×List Nat×OP)} {d:List Rf} {h:List (TV B.D)},(∀i,i∈bL d->nth H' i=nth H i)->iP H u y l d=c5 h->(∀i,i∈eW H l d->nth H' i=nth H i)->
 iP H' u y l d=c5 h/\eW H' l d=eW H l d/\∀i,i∈bL d->∃F,nth H i=c5 F
 |[],[],h,_,e,_=>⟨e,rfl,by simp[bL]⟩
 |(J,K,E)::l,i::d,h,o,e,p=>by
  simp only[iP] at e⊢;obtain⟨x,L,b,s,rfl⟩:=iK e;have v:∀c,c∈bL d->nth H' c=nth H c:=λc a=>o c (by cases i <;> simp[bL,a])
  cases E with
  |rows D Q=>
   obtain⟨j,f,g⟩:=Bu n v s λc a=>p c (by simpa[eW] using a)
   cases i with
   |bG q=>
    have k:=o q (by simp[bL]);simp only[dn,k] at b⊢;refine⟨by rw[b,j];rfl,by simpa[eW] using f,λc a=>?_⟩
    rcases d0.1 a with rfl |a
    ·split at b
     ·exact⟨_,by assumption⟩
     ·cases b
    ·exact g c a
   |new=>
    refine⟨?_,by simpa[eW] using f,λc a=>g c (by simpa[bL] using a)⟩
    simp only[dn] at b⊢;rw[b,j];rfl
   |gone=>simp[dn] at b
   |bad=>simp[dn] at b
  |box M G=>
   cases i with
   |bG q=>
    have k:=o q (by simp[bL]);simp only[dn,k] at b⊢
    split at b
    ·rename_i N z m;obtain⟨w,r⟩:=a8 b;obtain⟨t,I⟩:=pY n G z x r λc a=>p c (by simp only[eW,m,bK,c6];exact .inl a)
     obtain⟨j,f,g⟩:=Bu n v s λc a=>p c (by simp only[eW,m,bK,c6];exact .inr a)
     refine⟨by rw[w,j];simp[t,cat],by simp only[eW,k,m,I,f],λc a=>?_⟩
     rcases d0.1 a with rfl |a
     ·exact⟨_,m⟩
     ·exact g c a
    ·cases b
   |new=>simp[dn] at b
   |gone=>simp[dn] at b
   |bad=>simp[dn] at b
  |dead=>cases i <;> simp[dn] at b
  |refs D A=>
   cases i with
   |bG q=>
    have k:=o q (by simp[bL]);simp only[dn,k] at b⊢
    split at b
    ·rename_i O C m;obtain⟨w,r⟩:=a8 b;obtain⟨t,_⟩:=pY n (iQ A) C x r λc a=>by rw[Fq] at a;cases a
     obtain⟨j,f,g⟩:=Bu n v s λc a=>p c (by simpa[eW] using a)
     refine⟨by rw[w,j];simp[t,cat],by simpa[eW] using f,λc a=>?_⟩
     rcases d0.1 a with rfl |a
     ·exact⟨_,m⟩
     ·exact g c a
    ·cases b
   |new=>simp[dn] at b
   |gone=>simp[dn] at b
   |bad=>simp[dn] at b
 |[],_::_,h,_,e,_=>by simp[iP] at e
 |_::_,[],h,_,e,_=>by simp[iP] at e
theorem N0{f:List Rf}{g:List Nat}{b:En B.D}(h:∀i,i∈bL f->nth H' i=nth H i):∀{a:List (Nat×CP)} {d:List (TV B.D)},oz ⟨b,H⟩ f g a=c5 d->(∀i,i∈gK ⟨b,H⟩ a->nth H' i=nth H i)->
 oz ⟨b,H'⟩ f g a=c5 d/\gK ⟨b,H'⟩ a=gK ⟨b,H⟩ a
 |[],d,c,_=>⟨c,rfl⟩
 |p::a,d,c,j=>by
  simp only[oz] at c⊢;obtain⟨m,s,o,l,rfl⟩:=iK c;obtain⟨q,n⟩:=Mh h p.2 _ m o λi e=>j i (by simp only[gK,bK,c6];exact .inl e)
  obtain⟨r,k⟩:=N0 h l λi e=>j i (by simp only[gK,bK,c6];exact .inr e)
  exact⟨by simp[q,r,cat],by simp only[gK,n,k]⟩
theorem NS{p:bY}{c:En B.D}{a:List Rf}{g:List (TV B.D)}(b:leaves p ⟨c,H⟩ a=c5 g)(e:∀i,i∈aX (bL a) (aX (eW H p.dF a) (gK ⟨c,H⟩ p.dE))->nth H' i=nth H i):
 leaves p ⟨c,H'⟩ a=c5 g/\aX (eW H' p.dF a) (gK ⟨c,H'⟩ p.dE)=aX (eW H p.dF a) (gK ⟨c,H⟩ p.dE)/\∀i,i∈bL a->∃o,nth H i=c5 o:=by
 unfold leaves at b⊢;obtain⟨m,b⟩:=a8 b;obtain⟨n,b⟩:=a8 b;obtain⟨u,t,j,k,rfl⟩:=iK b;have f:∀i,i∈bL a->nth H' i=nth H i:=λi d=>e i (by simp only[bK,c6];exact .inl d)
 obtain⟨q,r,s⟩:=Bu f f j λi d=>e i (by simp only[bK,c6];exact .inr (.inl d))
 obtain⟨l,h⟩:=N0 f k λi d=>e i (by simp only[bK,c6];exact .inr (.inr d))
 refine⟨?_,by rw[r,h],s⟩
 rw[m,n];show cat (iP H' a (bL a) p.dF a) (oz ⟨c,H'⟩ a (bL a) p.dE)=_
 rw[q,l]
 rfl
theorem aeG{a:List Rf}{low bs:Nat}(c:∀i,i∈bL a->nth H' i=nth H i):gu H' a low bs=gu H a low bs:=by
 funext q
 unfold gu;cases gx q low with
 |false=>rfl
 |true=>
  simp only[cond_true];cases b:nth a q with
  |none=>rfl
  |some r=>
   cases r with
   |bG i=>simp only[c i (gV b)]
   |new=>rfl
   |gone=>rfl
   |bad=>rfl
theorem Xs{e:List Rf}{low bs:Nat}{os:List (Ob B.D)}(k:∀i,i∈bL e->nth H' i=nth H i):gE H' low bs e os=gE H low bs e os:=by
 have l:bL e=bL (e.take low)++bL (e.drop low):=by rw[<-rH,ev]
 have b:∀(a:List Rf) (os:List (Ob B.D)),(∀i,i∈bL a->nth H' i=nth H i)->iF H' a os=iF H a os:=λa=>by
  induction a with
  |nil=>intro os _;rfl
  |cons h a d=>
   intro os c;cases h with
   |bG i=>
    cases os with
    |nil=>rfl
    |cons n os=>
     simp only[iF,dJ,c i (by simp[bL])];rw[d os λg j=>c g (by simp[bL,j])]
   |new=>cases os <;> rfl
   |gone=>cases os <;> rfl
   |bad=>cases os <;> rfl
 have m:∀(a:List Rf),(∀i,i∈bL a->nth H' i=nth H i)->jL H' a=jL H a:=λa=>by
  induction a with
  |nil=>intro _;rfl
  |cons h a d=>
   intro c;cases h with
   |bG i=>
    simp only[jL,c i (by simp[bL])];rw[d λg j=>c g (by simp[bL,j])]
   |new=>exact d c
   |gone=>exact d c
   |bad=>exact d c
 unfold gE;rw[kK,drop_eq,b _ _ λi f=>k i (by rw[l];exact List.mem_append_left _ f),m _ λi f=>k i (by rw[l];exact ge _ f)]
end
section
variable {P : Program} {B : Tb} {R : Type} {r : R}
theorem Dz{f:Nat->Type}:∀(c:List (TV f)) (a b:Nat),lk (fi a c) (a+b)=(c[b]?).getD .any
 |[],_,_=>rfl
 |e::c,a,0=>by simp[fi,lk,g0]
 |e::c,a,b+1=>by
  have:ee a (a+(b+1))=false:=by
   cases d:ee a (a+(b+1)) with
   |false=>rfl
   |true=>have:=beq_eq d;omega
  simp only[fi,lk,this,cond_false];rw[show a+(b+1)=a+1+b by omega,Dz c (a+1) b];simp
theorem QD{c:Nat->Type}:∀(a:List (TV c)) (b:Nat),(fi b a).length=a.length
 |[],_=>rfl
 |d::a,b=>by simp[fi,QD a]
theorem ZT{g:Gh}{h:List aO}{f:World}{c:List (TV B.D)}{b:List Value}(d:xB g h f (aP B c) b)(a:Nat):VR g h f (pv B (lk (fi 0 c) a)) (b.getD a undef):=by
 have e:=Dz c 0 a;rw[d8] at e;rw[e];cases i:c[a]? with
 |none=>exact .any _
 |some k=>
  have l:=c9 i;have j:a<b.length:=by rw[<-d.1,db,hL];exact l
  have:=d.2 a (pv B k) b[a] (EL i) (c4 j);rw[f1,c4 j];exact this
theorem Z3(ac:cU P B){t:List (aq B)}(Y:∀b,b∈t->Fits P B b){u:Nat}{c:List (TV B.D)}{H:List (Ob B.D)}{G:cr B.D->Option R}(a:nz B u ⟨fi 0 c,H⟩ G t=c5 r):
 ∃k,G k=c5 r/\iZ H k/\∃b,b∈t/\b.cO=u/\∀(H':List (Ob B.D)),(∀i,i∈aX k.rd (eV k.wr)->nth H' i=nth (aX H (dx k.nw)) i)->∀g w n,bF g (av B H') n->xB g (av B H') n (aP B c) w->
  Calls P u w.toArray n λA q=>∃z p v o,A= .returned z/\(v=pv B k.val/\o=av B (b8 H' k.wr))/\bF p o q/\VR p o q v z/\Bml.GStep (av B H').length g (av B H') n p o q:=by
 induction t with
 |nil=>simp[nz] at a
 |cons b t Q=>
  have next:nz B u ⟨fi 0 c,H⟩ G t=c5 r->∃k,G k=c5 r/\iZ H k/\∃y,y∈b::t/\y.cO=u/\∀(H':List (Ob B.D)),(∀i,i∈aX k.rd (eV k.wr)->nth H' i=nth (aX H (dx k.nw)) i)->∀g w n,bF g (av B H') n->xB g (av B H') n (aP B c) w->
   Calls P u w.toArray n λA q=>∃z p v o,A= .returned z/\(v=pv B k.val/\o=av B (b8 H' k.wr))/\bF p o q/\VR p o q v z/\Bml.GStep (av B H').length g (av B H') n p o q:=λa=>by
   obtain⟨k,s,F,y,E,am⟩:=Q (λy ay=>Y y (c7 _ ay)) a;exact⟨k,s,F,y,c7 _ E,am⟩
  simp only[nz] at a;cases L:(bif ee b.cO u then ee (len (fi 0 c)) b.na else false) with
  |false=>rw[L] at a;exact next a
  |true=>
   rw[L] at a;obtain⟨C,aA⟩:=fu L;have C:=beq_eq C;simp only[cond_true] at a
   split at a
   ·rename_i aJ x;unfold Nv at a;obtain⟨J,a⟩:=a8 a;obtain⟨M,a⟩:=a8 a;obtain⟨ab,a⟩:=a8 a;obtain⟨z,a,ae⟩:=Ae a;obtain⟨ak,ad,a⟩:=dv.1 a;generalize aM:nQ (D:=B.D) ⟨fi 0 c,H⟩ b.par.dF=ids at x J M ab a;generalize aw:nI B (gu H ids b.low (len H)) b.az ak=aB at a;obtain⟨rs,os⟩:=aB;obtain⟨aj,ao⟩:=a8 a;have T:b.low<=os.length:=by rw[<-eu];exact d6 aj
    have aF:zc (aX (eW H b.par.dF ids) (gK ⟨fi 0 c,H⟩ b.par.dE))=true\/(oN B.flat B.el b.az.dF=true/\tJ B.flat b.az.dE=true):=by
     cases aE:zc (aX (eW H b.par.dF ids) (gK ⟨fi 0 c,H⟩ b.par.dE)) with
     |true=>exact .inl rfl
     |false=>
      rw[aE] at J;exact .inr (fu J)
    obtain⟨_,_,K⟩:=NS (H':=H) x λ_ _=>rfl
    have X:(bL ids).Nodup:=by
     unfold leaves at x;obtain⟨_,x⟩:=a8 x;obtain⟨X,_⟩:=a8 x;exact(tw _).1 X
    have S:∀i,i∈bL ids->i<len H:=λi d=>by
     obtain⟨e,h⟩:=K i d;rw[cJ] at h;rw[eu];exact c9 h
    have Z:(len (drop b.low os))=os.length -b.low:=by rw[eu,drop_eq,g8]
    have O:bL ids=bL (ids.take b.low)++bL (ids.drop b.low):=by rw[<-rH,ev]
    obtain⟨an,aI⟩:=JU (H:=H) (os:=os) M T;obtain⟨ap,aK⟩:=tm (H:=H) (ids:=ids.drop b.low) λi d=>K i (by rw[O];exact ge _ d)
    obtain⟨ag,ax⟩:=Jy (bs:=len H) (os:=os.drop b.low);refine⟨_,ao,?_,b,by simp,C,?_⟩
    ·intro i j l;have l:(i,j)∈gE H b.low (len H) ids os:=l;unfold gE at l;rw[bK,bK,kK,kK,drop_eq,drop_eq,c6,c6] at l;show i<H.length+len (drop b.low os)/\_
     rw[Z];rcases l with l |l |l
     ·have d:i∈bL ids:=by
       rw[O];refine List.mem_append_left _ ?_;rw[<-an];exact g6 (f:=(·.1)) l
      have:=S i d;rw[eu] at this;refine⟨by omega,λe h=>?_⟩
      have:j.st=dJ H i:=Nh _ _ _ _ l;rw[this];unfold dJ;rw[h];exact hI _
     ·have d:i∈bL ids:=by
       rw[O];refine ge _ ?_;rw[<-ap];exact g6 (f:=(·.1)) l
      have:=S i d;rw[eu] at this;refine⟨by omega,λe h=>?_⟩
      obtain⟨aL,I,al⟩:=s9 _ _ _ l;rw[h] at I;injection I with I
      subst I;rw[al];exact hI _
     ·have d:i∈List.range' (len H) (os.drop b.low).length:=by rw[<-ag];exact g6 (f:=(·.1)) l
      have:=i3.1 d;rw[g8,eu] at this;refine⟨by omega,λe h=>?_⟩
      rw[cJ] at h;have:=c9 h;omega
    ·intro H' U g w n l W;have aa:∀i,i∈bL ids\/i∈aX (eW H b.par.dF ids) (gK ⟨fi 0 c,H⟩ b.par.dE)->nth H' i=nth (aX H (dx (len (drop b.low os)))) i:=λi d=>U i (by
      show i∈aX (aX (bL ids) (aX (eW H b.par.dF ids) (gK ⟨fi 0 c,H⟩ b.par.dE))) _
      rw[bK,bK,c6,c6];exact .inl d)
     have V:∀i e,nth H i=c5 e->nth (aX H (dx (len (drop b.low os)))) i=c5 e:=λi e h=>Dy h
     have N:∀i,i∈bL ids->nth H' i=nth H i:=λi d=>by
      obtain⟨e,h⟩:=K i d;rw[aa i (.inl d),V i e h,h]
     obtain⟨az,aH,_⟩:=NS (H':=H') x λi d=>by
      rw[bK,c6] at d;rcases d with d |d
      ·exact N i d
      ·obtain⟨e,h⟩:=Ni ab i d;rw[aa i (.inr d),V i e h,h]
     have ar:=aeG (low:=b.low) (bs:=len H) N;have ah:=Xs (low:=b.low) (bs:=len H) (os:=os) N;have af:=aeK ac (Y b (by simp)) (Ea:=fi 0 c) (H:=H') (ids:=ids) (bs:=len H) (rs:=rs) (os:=os) az ae ad (by rw[ar];exact aw) (by rw[aH];exact aF) M T S (λm aC=>by
      have aG:len H+m∈eV (gE H b.low (len H) ids os):=by
       have ai:(os.drop b.low)[m]? =c5 os[b.low+m]:=by rw[f9];exact c4 aC
       have:=ax m _ ai;have:(len H+m,os[b.low+m])∈gE H b.low (len H) ids os:=by
        unfold gE;rw[bK,bK,kK,kK,drop_eq,drop_eq,c6,c6];exact .inr (.inr this)
       exact Z4 this
      have:=U (len H+m) (by
       show len H+m∈aX _ (eV (gE H b.low (len H) ids os))
       rw[bK,c6];exact .inr aG)
      rw[this];exact PK (by show m<len (drop b.low os);rw[Z];omega)) l (as:=w) (by
       have s:=beq_eq aA;rw[eu,QD] at s;rw[<-W.1,db,hL,s]) (ZT W)
     rw[<-C];refine af.mono ?_
     rintro A q ⟨v,p,au,s,F,E⟩;rw[ah] at s F E;exact⟨v,p,_,_,au,⟨rfl,rfl⟩,s,E,F⟩
   ·exact next a
where
 Z4 {D:Nat->Type} {c:List (Nat×Ob D)} {i:Nat} {e:Ob D} (a:(i,e)∈c):i∈eV c:=by
  induction c with
  |nil=>cases a
  |cons aD c Q=>
   rcases d0.1 a with A |a
   ·simp[eV, <-A]
   ·simp[eV,Q a]
 Nh {D:Nat->Type} {H:List (Ob D)}:∀(c:List Rf) (os:List (Ob D)) (i:Nat) (j:Ob D),(i,j)∈iF H c os->j.st=dJ H i
  | .bG m::c,e::os,i,j,a=>by
   simp only[iF,d0,ez] at a;rcases a with⟨rfl,rfl⟩ |a
   ·rfl
   ·exact Nh c os i j a
  |[],_,_,_,a=>by simp[iF] at a
  | .bG m::c,[],_,_,a=>by simp[iF] at a
  | .new::c,_,_,_,a=>by simp[iF] at a
  | .gone::c,_,_,_,a=>by simp[iF] at a
  | .bad::c,_,_,_,a=>by simp[iF] at a
 s9 {D:Nat->Type} {H:List (Ob D)}:∀(c:List Rf) (i:Nat) (j:Ob D),(i,j)∈jL H c->∃e,nth H i=c5 e/\j.st=e.st+1
  | .bG m::c,i,j,a=>by
   simp only[jL] at a
   split at a
   ·rename_i e h;simp only[d0,ez] at a;rcases a with⟨rfl,rfl⟩ |a
    ·exact⟨e,h,rfl⟩
    ·exact s9 c i j a
   ·exact s9 c i j a
  |[],_,_,a=>by simp[jL] at a
  | .new::c,i,j,a=>s9 c i j a
  | .gone::c,i,j,a=>s9 c i j a
  | .bad::c,i,j,a=>s9 c i j a
 Ni {D:Nat->Type} {H:List (Ob D)}:∀{c:List Nat},here H c=true->∀i,i∈c->∃e,nth H i=c5 e
  |[],_,i,d=>by cases d
  |aD::c,a,i,d=>by
   simp only[here] at a
   split at a
   ·rename_i e h;rcases d0.1 d with rfl |d
    ·exact⟨e,h⟩
    ·exact Ni a i d
   ·cases a
end
end Go.X
namespace Go.Bml
open Go
section
variable {P : Program} {nt : Nat} {E : Env} {H : List aO} {d : Option Nat} {ty : TypeId} {pos : String} {aft : Array Edge} {x y : Operand} {t : TypeId}
theorem aiA{c b:List PV}{a:Nat}(j:a+b.length<=c.length)(i e:Nat):cellOf (c.take a++b++c.drop (a+b.length)) i e=if i<a then cellOf c i e else if i<a+b.length then cellOf b (i -a) e else cellOf c i e:=by
 have h:(c.take a).length=a:=by simp;omega
 unfold cellOf;rw[d3]
 by_cases f:i<a
 ·rw[if_pos f,d2 (by omega),e0 f]
 ·rw[if_neg f,d1 (by omega),h]
  by_cases g:i<a+b.length
  ·rw[if_pos g,d2 (by omega)]
  ·rw[if_neg g,d1 (by omega),f9]
   congr 2
   omega
theorem bF.put{g:Gh}{m:World}{r b C off:Nat}{o:aO}{a:List PV}{j:List Value}{aK:Array Value}(V:bF g H m)(S:H[r]? =c5 o)(J:g.β r=c5 (b,C))(T:m.heap[b]? =c5 (.cells aK o.ty (0,0)))
 (X:gI g H m o.sz a j) (ae:∀(i:Nat) (e:PV),a[i]? =c5 e->e.cells.length=o.sz) (ah:off+a.length<=o.es.length):
 GStep H.length g H m (g.push r (c5 (b,C))) (H.set r ⟨o.ty,o.sz,o.es.take off++a++o.es.drop (off+a.length),o.aF⟩) (m.setRow b (aK.toList.take (off*o.sz)++j++aK.toList.drop (off*o.sz+j.length)).toArray)/\
 bF (g.push r (c5 (b,C))) (H.set r ⟨o.ty,o.sz,o.es.take off++a++o.es.drop (off+a.length),o.aF⟩) (m.setRow b (aK.toList.take (off*o.sz)++j++aK.toList.drop (off*o.sz+j.length)).toArray):=by
 have G:=V.obj r o S;have W:=G.mem;rw[J] at W;obtain⟨_,ap,B,U,ac,ag,Q⟩:=W;rw[T] at B;injection B with B
 injection B with B _ _
 subst B;have M:j.length=a.length*o.sz:=X.1;have al:off*o.sz+j.length<=aK.size:=by
  rw[U,M, <-gy];exact ej _ (by omega)
 have N:(o.es.take off++a++o.es.drop (off+a.length)).length=o.es.length:=by simp;omega
 generalize L:(aK.toList.take (off*o.sz)++j++aK.toList.drop (off*o.sz+j.length)).toArray=s;have ad:s.size=aK.size:=by
  rw[<-L];simp only[List.size_toArray,d7,f4,g8,Array.length_toList];omega
 have O:(aK.toList.take (off*o.sz)).length=off*o.sz:=by simp;omega
 have ab:∀k,k<j.length->s[off*o.sz+k]? =j[k]? :=λk Y=>by
  rw[<-L,ey,d3,d1 (by omega),O,d2 (by omega)]
  congr 1
  omega
 have R:∀q,q<off*o.sz\/off*o.sz+j.length<=q->s[q]? =aK[q]? :=λq I=>by
  rw[<-L,ey,d3];rcases I with I |I
  ·rw[d2 (by omega),e0 I,gt]
  ·rw[d1 (by omega),O,d1 (by omega),f9,gt]
   congr 1
   omega
 refine V.set (r:=r) (o:=o) (o':=⟨o.ty,o.sz,o.es.take off++a++o.es.drop (off+a.length),o.aF⟩) (p:=c5 (b,C)) S rfl rfl rfl (by simp)
  (λZ am ai=>setRow_other m b Z s (λe=>ai C (by rw[e];exact J))) (dt _) (λ_=>⟨rfl,N,J.symm⟩)
  (λZ ao h=>by injection h with h;injection h with u A;subst u;exact .inl ⟨C,J⟩) G.pos
  (λi e he=>?_) ?_
 ·have ak:(o.es.take off).length=off:=by simp;omega
  simp only at he;rw[d3] at he
  by_cases u:i<off
  ·rw[d2 (by omega),e0 u] at he;exact G.width i e he
  ·rw[d1 (by omega)] at he
   by_cases A:i - (o.es.take off).length<a.length
   ·rw[d2 A] at he;exact ae _ e he
   ·rw[d1 (by omega),f9] at he;exact G.width _ e he
 ·refine⟨s,setRow_heap m b aK s o.ty (0,0) T,by rw[ad,U],ac,by rw[N];exact ag,λi F c n=>?_⟩
  show ∃l,s[i*o.sz+F]? =c5 l/\l.oneCell'=true/\VR g H m c l
  simp only at n;rw[aiA ah] at n
  split at n
  ·rename_i u;obtain⟨l,w,A,D⟩:=Q i F c n;obtain⟨af,aa,aj⟩:=gw n;have an:=G.width i af aa;have:(i+1)*o.sz<=off*o.sz:=ej _ u;rw[gy,Nat.one_mul] at this;exact⟨l,(R _ (.inl (by omega))).trans w,A,D⟩
  ·rename_i u
   split at n
   ·rename_i A;obtain⟨l,w,D,K⟩:=X.2 _ _ c n;refine⟨l,?_,D,K⟩
    have Y:=(d5.1 w).1;rw[show i*o.sz+F=off*o.sz+((i -off)*o.sz+F) by rw[<-Nat.add_assoc, <-gy];congr 2;omega,ab _ Y];exact w
   ·rename_i A;obtain⟨l,w,D,K⟩:=Q i F c n;have:(off+a.length)*o.sz<=i*o.sz:=ej _ (by omega);rw[gy, <-M] at this;exact⟨l,(R _ (.inr (by omega))).trans w,D,K⟩
theorem al0{g:Gh}{w:World}{b:Value}{z:PV}{a n:Nat}(B:kP b=z)(u:z.cells.length=a)(D:z.cells.all PV.one=true):gI g H w a (f6 n z) (e6 b.cells n).toList/\∀e∈(e6 b.cells n).toList,e.oneCell'=true:=by
 have I:VR g H w z b:=B▸ .aW (AE _ _ _);obtain⟨F,C⟩:=I.tZ D (λvs=>B▸Hl b vs);have f:b.cells.size=a:=by simp at F;omega
 have s:∀c,c<n*a->(e6 b.cells n).toList[c]? =b.cells[c%a]? :=λc h=>by
  have r:0<a:=hX λm=>by rw[m] at h;omega
  have k:c%a<b.cells.size:=by rw[f];exact Nat.mod_lt _ r
  rw[gt];unfold e6;rw[Array.getElem?_map,Array.getElem?_range,if_pos (by rw[f];exact h)];simp only[hM,f];rw[getElem!_def,f2 k]
 have G:(e6 b.cells n).toList.length=n*a:=by simp[e6,f]
 refine⟨⟨by rw[G,gv],λi q K j=>?_⟩,λe p=>?_⟩
 ·obtain⟨L,j⟩:=Rq j;obtain⟨e,p,o,v⟩:=C q K j;have l:q<a:=by rw[<-u];exact(d5.1 j).1
  refine⟨e,?_,o,v⟩
  have k:i*a+q<n*a:=by
   have:(i+1)*a<=n*a:=ej _ (by omega);rw[gy,Nat.one_mul] at this;omega
  rw[s _ k,Nat.mul_comm,Nat.mul_add_mod,Nat.mod_eq_of_lt l];exact p
 ·obtain⟨c,h,rfl⟩:=List.getElem_of_mem p;have A:c<n*a:=by omega
  have r:0<a:=hX λm=>by rw[m] at A;omega
  have l:c%a<z.cells.length:=by rw[u];exact Nat.mod_lt _ r
  obtain⟨e,J,o,v⟩:=C _ _ (c4 l);have:=s c A;rw[J,c4 h] at this;injection this with this
  rw[this];exact o
theorem aog{b:Act}{a:World}:(execOp b.eval ⟨d,.call {callee:=.builtin .clear,args:=#[x],argTypes:=#[t]},ty,pos,aft,d9⟩).run P a=
 ((g9 #[t] ty #[b.eval x]).run P a).andThen λv c=>.ok (.value v) c:=by
 simp[execOp,resolve,invoke,builtin]
theorem ou{r:Nat}{b:aO}(a:H[r]? =c5 b):H.set r b=H:=by
 refine List.ext_getElem? λi=>?_
 by_cases c:i=r
 ·subst c;rw[e4 (d5.1 a).1,a]
 ·rw[ec (Ne.symm c)]
theorem Wy{r v off len:Nat}{o:aO}{h:Value}{z:PV}(W:PE E x= .sl r v off len)(A:ek H r o)(Q:o.aF=v)(G:dU P t=c5 o.ty)(R:dV P o.ty=c5 h)(ab:kP h=z)(F:z.cells.length=o.sz)(L:z.cells.all PV.one=true):
 fJ P ⟨d,.call {callee:=.builtin .clear,args:=#[x],argTypes:=#[t]},ty,pos,aft,d9⟩ E H λO H1=>O= .bu []/\H1=H.set r ⟨o.ty,o.sz,o.es.take off++f6 len z++o.es.drop (off+len),o.aF⟩:=by
 intro g nt j w s ag aj X;have T:=lh (W▸s.e.eval x) A Q;obtain⟨M,q⟩:=id T;have I:H[r]? =c5 o:=A;have Y:∃a e,(g9 #[t] ty #[j.eval x]).run P w= .ok (.tuple #[]) a/\GStep H.length g H w e (H.set r ⟨o.ty,o.sz,o.es.take off++f6 len z++o.es.drop (off+len),o.aF⟩) a/\
  bF e (H.set r ⟨o.ty,o.sz,o.es.take off++f6 len z++o.es.drop (off+len),o.aF⟩) a:=by
  have zero:len=0->(∃f cap,j.eval x= .slice f 0 cap)->∃a e,(g9 #[t] ty #[j.eval x]).run P w= .ok (.tuple #[]) a/\GStep H.length g H w e (H.set r ⟨o.ty,o.sz,o.es.take off++f6 len z++o.es.drop (off+len),o.aF⟩) a/\
   bF e (H.set r ⟨o.ty,o.sz,o.es.take off++f6 len z++o.es.drop (off+len),o.aF⟩) a:=by
   rintro rfl ⟨f,cap,c⟩;have k:(g9 #[t] ty #[j.eval x]).run P w= .ok (.tuple #[]) w:=by
    rw[c];cases f <;> simp[g9,run_underlying (gD G)]
   have V:(⟨o.ty,o.sz,o.es.take off++f6 0 z++o.es.drop (off+0),o.aF⟩:aO)=o:=by simp
   rw[V,ou I];exact⟨w,g,k,GStep.refl _ _ _ _,s.m⟩
  cases m:g.β r with
  |none=>
   rw[m] at q;obtain⟨_,h0,f,c⟩:=q;subst h0;exact zero rfl ⟨f,0,c⟩
  |some p=>
   obtain⟨b,ae⟩:=p;rw[m] at q;obtain⟨cap,f,c,al,aa,_⟩:=q
   by_cases h0:len=0
   ·subst h0;exact zero rfl ⟨f,cap,c⟩
   ·rw[aa h0] at c;have ac:=(s.m.obj r o A);have J:=ac.mem;rw[m] at J;obtain⟨_,aK,C,S,af,ah,ad⟩:=J;obtain⟨B,U⟩:=al0 (g:=g) (H:=H) (w:=w) (n:=len) ab F L;have K:(e6 h.cells len).toList.length=len*o.sz:=by rw[B.1,gv]
    have Z:off*o.sz+0+(e6 h.cells len).toList.length<=aK.size:=by
     rw[S,K,g3, <-gy];exact ej _ (by omega)
    have D:=run_storeCells_at P b (off*o.sz) o.ty (e6 h.cells len).toList 0 aK w C Z U;simp only[g3] at D;have k:(g9 #[t] ty #[j.eval x]).run P w= .ok (.tuple #[]) (w.setRow b (aK.toList.take (off*o.sz)++(e6 h.cells len).toList++aK.toList.drop (off*o.sz+(e6 h.cells len).toList.length)).toArray):=by
     rw[c];obtain⟨ai,rfl⟩:∃n,len=n+1:=⟨len -1,by omega⟩;simp[g9,run_underlying (gD G),Ey R,D]
    obtain⟨l,u⟩:=s.m.put I m C B (λi ak N=>by have:=dT N;rw[h5 this];exact F) (off:=off) (by simpa using M);rw[gv] at l u;exact⟨_,_,k,l,u⟩
 obtain⟨a,e,k,l,u⟩:=Y;unfold Oper.wp;rw[aog,k];exact X (.tuple #[]) a e (.bu []) _ ⟨rfl,rfl⟩ (.aW (.bu [] [] rfl (by simp))) u l
theorem Yo{a:Act}{b:World}:(execOp a.eval ⟨d,.call {callee:=.builtin .copy,args:=#[x,y],argTypes:=#[t,t]},ty,pos,aft,d9⟩).run P b=
 ((h6 #[t,t] ty #[a.eval x,a.eval y]).run P b).andThen λv c=>.ok (.value v) c:=by
 simp[execOp,resolve,invoke,builtin]
theorem aem{g:Gh}{w:World}{a b:Nat}{c:List PV}{m:List Value}(f:gI g H w a c m)(q:∀(i:Nat) (j:PV),c[i]? =c5 j->j.cells.length=a)(r:b<=c.length):gI g H w a (c.take b) (m.take (b*a))/\∀h∈m.take (b*a),h.oneCell'=true:=by
 have z:b*a<=c.length*a:=ej _ r;refine⟨⟨by rw[f4,f4,f.1,Nat.min_eq_left z,Nat.min_eq_left r],λi u k e=>?_⟩,λh o=>?_⟩
 ·have p:i<b:=by
   obtain⟨j,l,_⟩:=gw e;have:=(d5.1 l).1;simp at this;omega
  have s:cellOf c i u=c5 k:=by
   unfold cellOf at e⊢;rw[e0 p] at e;exact e
  obtain⟨h,o,n,D⟩:=f.2 i u k s;obtain⟨j,l,L⟩:=gw s;have K:=q i j l;have:(i+1)*a<=b*a:=ej _ p;rw[gy,Nat.one_mul] at this;exact⟨h,by rw[e0 (by omega)];exact o,n,D⟩
 ·obtain⟨J,F,rfl⟩:=List.getElem_of_mem o;have v:J<b*a:=by simp at F;omega
  have G:0<a:=hX λf=>by rw[f] at v;omega
  obtain⟨C,I,B⟩:=Jv G (Nat.lt_of_lt_of_le v z);obtain⟨k,e⟩:=Gg q C I;obtain⟨h,A,n,_⟩:=f.2 _ _ k e;rw[B] at A;rw[List.getElem_take];have:=(d5.1 A).2;rw[this];exact n
theorem US{r v off len:Nat}{o:aO}{p:PV}{a:List PV}(av:PE E x= .sl r v off len)(z:ek H r o)(Z:o.aF=v)(ad:PE E y=p)(an:lE H p o.sz a)(N:dU P t=c5 o.ty)(L:cH P o.ty=c5 o.sz):
 fJ P ⟨d,.call {callee:=.builtin .copy,args:=#[x,y],argTypes:=#[t,t]},ty,pos,aft,d9⟩ E H λaa H1=>aa= .int .i64 ((min len a.length:Nat):Int)/\H1=H.set r ⟨o.ty,o.sz,o.es.take off++a.take len++o.es.drop (off+(a.take len).length),o.aF⟩:=by
 intro g nt m e n aJ aM az;have al:=lh (av▸n.e.eval x) z Z;obtain⟨aE,u⟩:=id al;have T:=n.m.obj r o z;have ae:=T.pos;have C:H[r]? =c5 o:=z;obtain⟨M,X,aH,U,ac⟩:=an.real n.m (ad▸n.e.eval y) ae;have ay:∃f j,(h6 #[t,t] ty #[m.eval x,m.eval y]).run P e= .ok (goInt ((min len a.length:Nat):Int)) f/\GStep H.length g H e j (H.set r ⟨o.ty,o.sz,o.es.take off++a.take len++o.es.drop (off+(a.take len).length),o.aF⟩) f/\
  bF j (H.set r ⟨o.ty,o.sz,o.es.take off++a.take len++o.es.drop (off+(a.take len).length),o.aF⟩) f:=by
  have W:Nat.min a.length len=min len a.length:=Nat.min_comm _ _;have zero:min len a.length=0->(∃k cap,m.eval x= .slice k len cap)->∃f j,(h6 #[t,t] ty #[m.eval x,m.eval y]).run P e= .ok (goInt ((min len a.length:Nat):Int)) f/\GStep H.length g H e j (H.set r ⟨o.ty,o.sz,o.es.take off++a.take len++o.es.drop (off+(a.take len).length),o.aF⟩) f/\
   bF j (H.set r ⟨o.ty,o.sz,o.es.take off++a.take len++o.es.drop (off+(a.take len).length),o.aF⟩) f:=by
   rintro h0 ⟨k,cap,h⟩;have ap:a.take len=[]:=d4 (by rw[f4];exact h0);have R:(⟨o.ty,o.sz,o.es.take off++a.take len++o.es.drop (off+(a.take len).length),o.aF⟩:aO)=o:=by rw[ap];simp
   refine⟨e,g,?_,by rw[R,ou C];exact GStep.refl _ _ _ _,by rw[R,ou C];exact n.m⟩
   rw[h0];rw[h,U];cases k <;> cases X <;> simp[h6,run_underlying (gD N),Builtin.lenOf,run_sizeOf L,W,h0,Builtin.firstCells,loadCells,loadCellsFrom,storeCells]
  cases s:g.β r with
  |none=>
   rw[s] at u;obtain⟨_,h0,k,h⟩:=u;subst h0;exact zero (by simp) ⟨k,0,h⟩
  |some q=>
   obtain⟨b,aG⟩:=q;rw[s] at u;obtain⟨cap,k,h,aN,aB,_⟩:=u
   by_cases h0:min len a.length=0
   ·exact zero h0 ⟨k,cap,h⟩
   ·have af:len≠0:=by omega
    have ab:a≠[]:=λaj=>by rw[aj] at h0;simp at h0
    rw[aB af] at h;obtain⟨O,l,rfl,ar,am⟩:=ac.resolve_left ab;have V:=T.mem;rw[s] at V;obtain⟨_,aK,J,ah,aI,aL,aF⟩:=V;have ax:a.take len=a.take (min len a.length):=by
     rw[List.take_eq_take_iff];omega
    rw[ax];generalize ao:min len a.length=c at*;have aD:c<=len:=by omega
    have S:c<=a.length:=by omega
    obtain⟨I,aq⟩:=aem ar M S;have G:(l.take (c*o.sz)).length=c*o.sz:=by rw[I.1,f4,Nat.min_eq_left S]
    have aA:off*o.sz+0+(l.take (c*o.sz)).length<=aK.size:=by
     rw[ah,G,g3, <-gy];exact ej _ (by omega)
    have K:=run_storeCells_at P b (off*o.sz) o.ty (l.take (c*o.sz)) 0 aK e J aA aq;simp only[g3] at K;have ag:(loadCells O (c*o.sz)).run P e= .ok (l.take (c*o.sz)).toArray e:=by
     have:=run_loadCells_list (P:=P) e O (l.take (c*o.sz)) λQ aw B=>am Q aw (by
      have ak:Q<c*o.sz:=by have:=(d5.1 B).1;omega
      rw[e0 ak] at B;exact B)
     rw[G] at this;exact this
    have D:(h6 #[t,t] ty #[m.eval x,m.eval y]).run P e= .ok (goInt c) (e.setRow b (aK.toList.take (off*o.sz)++l.take (c*o.sz)++aK.toList.drop (off*o.sz+(l.take (c*o.sz)).length)).toArray):=by
     rw[h,U];have ai:Nat.min a.length len=c:=by rw[<-ao];exact Nat.min_comm _ _
     simp[h6,run_underlying (gD N),Builtin.lenOf,run_sizeOf L,ai,Builtin.firstCells,ag,K]
    have au:(a.take c).length=c:=by rw[f4];omega
    obtain⟨A,F⟩:=n.m.put C s J I (λi aC w=>by
     have Y:i<c:=by have:=(d5.1 w).1;omega
     rw[e0 Y] at w;exact M i aC w) (off:=off) (by rw[au];omega)
    exact⟨_,_,D,A,F⟩
 obtain⟨f,j,D,A,F⟩:=ay;unfold Oper.wp;rw[Yo,D];exact az (goInt ((min len a.length:Nat):Int)) f j (.int .i64 ((min len a.length:Nat):Int)) _ ⟨rfl,rfl⟩ (.aW (VI.int .i64 _)) F A
theorem apT{A:Op}{r v len:Nat}{o:aO}(c:cM P ⟨d,A,ty,pos,aft,d9⟩ E H (.sl r v 0 len))(m:ek H r o)(F:o.aF=v):
 fJ P ⟨d,A,ty,pos,aft,d9⟩ E H λD H1=>D= .fl r (v+1)/\H1=H.set r ⟨o.ty,o.sz,o.es.take len,v+1⟩:=by
 intro g nt L s q Z ab S;obtain⟨x,U,T⟩:=c g nt L s q;have K:=lh T m F;obtain⟨Y,h⟩:=id K;have u:=q.m.obj r o m;have z:H[r]? =c5 o:=m;have G:(o.es.take len).length=len:=by simp;omega
 obtain⟨J,X⟩:=q.m.set (r:=r) (o:=o) (o':=⟨o.ty,o.sz,o.es.take len,v+1⟩) (w':=s) (p:=g.β r) z rfl rfl rfl (dt _) (λ_ _ _=>rfl) (by simp;omega) (λc=>by simp at c;omega) (λb l c=>.inl ⟨l,c⟩) u.pos
  (λi B a=>by
   have k:i<len:=by have:=(d5.1 a).1;simp at this;omega
   simp only at a;rw[e0 k] at a;exact u.width i B a)
  (by
   have j:=u.mem;cases e:g.β r with
   |none=>
    rw[e] at j;show o.es.take len=[]
    rw[show o.es=[] from j];simp
   |some p=>
    obtain⟨b,l⟩:=p;rw[e] at j;obtain⟨_,cells,W,I,M,aa,C⟩:=j;refine⟨cells,W,I,M,by simp;omega,λi R V f=>C i R V ?_⟩
    obtain⟨B,a,_⟩:=gw f;have k:i<len:=by have:=(d5.1 a).1;simp at this;omega
    unfold cellOf at f⊢;simp only at f;rw[e0 k] at f;exact f)
 unfold Oper.wp;rw[U];have w:x.oneCell'=true/\SL (g.push r (g.β r)) ⟨o.ty,o.sz,o.es.take len,v+1⟩ r 0 (o.es.take len).length x:=by
  unfold SL;rw[Gh.kg,G];cases e:g.β r with
  |none=>
   rw[e] at h;obtain⟨_,h0,n,a⟩:=h;exact⟨by rw[a];rfl,by simp,rfl,h0,n,a⟩
  |some p=>
   obtain⟨b,l⟩:=p;rw[e] at h;obtain⟨cap,n,a,Q,N,O⟩:=h;exact⟨by rw[a];rfl,by simp,cap,n,a,Q,N,O⟩
 exact S x s _ (.fl r (v+1)) _ ⟨rfl,rfl⟩ (.fl r (v+1) _ x (e4 (d5.1 z).1) (dt _) w.1 λ_=>w.2) X J
end
end Go.Bml
namespace Go.X
open Go Go.Aml Go.Bml
section
variable {P : Program} {B : Tb} {R : Type} {r : R}
def D0(b:TV B.D)(q v c a d:Nat):Prop:=(b= .fl q v/\c=0/\a=d)\/b= .sl q v c a
theorem MJ{i:List (Ob B.D)}{k:TV B.D}{j:Nat->Nat->Nat->Nat->(b:Nat)->List (B.D b)->Option R}(a:B4 B i k j=c5 r):
 ∃q v f e b c d,nth i q=c5 ⟨d,v,.rows b c⟩/\D0 (B:=B) k q v f e c.length/\j q v f e b c=c5 r:=by
 unfold B4 at a
 split at a
 ·rename_i q v
  split at a
  ·rename_i b c h;obtain⟨d,g⟩:=fx h;exact⟨q,v,0,_,b,c,d,g,.inl ⟨rfl,rfl,rfl⟩,a⟩
  ·cases a
 ·rename_i q v f e
  split at a
  ·rename_i b c h;obtain⟨d,g⟩:=fx h;exact⟨q,v,f,e,b,c,d,g,.inr rfl,a⟩
  ·cases a
 ·cases a
theorem Lj{a:Option Nat}{c:Nat}(b:KK a c=true):a=c5 c:=by
 cases a with
 |none=>cases b
 |some d=>rw[beq_eq b]
theorem MH{n:Oper}{b:Env}{a:List aO}{k:Operand}{q d j:Nat}{ob:aO}{l:PV->List aO->Prop}(s:(PE b k= .fl q ob.aF/\d=0/\j=ob.es.length)\/PE b k= .sl q ob.aF d j)(m:ek a q ob)
 (c:∀i,PE i k= .sl q ob.aF d j->(∀g f e,kV a (PE b g) f e->kV a (PE i g) f e)->fJ P n i a l):fJ P n b a l:=by
 rcases s with⟨h,rfl,rfl⟩ |h
 ·obtain⟨t,rfl,o⟩:=ri h;refine yP o m rfl (c _ ?_ λg f e p=>JM p o m)
  exact ni _ _ _
 ·exact c b h λ_ _ _ c=>c
theorem Ln{c:En B.D}{e:Operand}{h:TV B.D}{q v b d f:Nat}{a:aO}(m:D0 (B:=B) h q v b d f)(g:PE (aU B c) e=pv B h)(k:a.aF=v)(i:a.es.length=f):
 (PE (aU B c) e= .fl q a.aF/\b=0/\d=a.es.length)\/PE (aU B c) e= .sl q a.aF b d:=by
 subst k;subst i;rcases m with⟨rfl,l,j⟩ |rfl
 ·exact .inl ⟨g,l,j⟩
 ·exact .inr g
theorem aiS(J:cU P B){t a q v off e h:Nat}{x y:Operand}{E:En B.D}{H:List (Ob B.D)}{b c:List (B.D a)}{l:List Nat}(u:D0 (B:=B) (pe E x) q v off e b.length)(g:nth H q=c5 ⟨h,v,.rows a b⟩)(s:yd B H (pe E y) a c l)
 (C:dU P t=c5 a) (z:cH P a=c5 (B.sz a)):
 gY P (.call {callee:=.builtin .copy,args:=#[x,y],argTypes:=#[t,t]}) E H ⟨.int .i64 ((min e c.length:Nat):Int),[(q,⟨dJ H q,v,.rows a (mg c off e b)⟩)],0,q::l⟩:=by
 have m:x∈(Op.call {callee:=.builtin .copy,args:=#[x,y],argTypes:=#[t,t]}).operands/\y∈(Op.call {callee:=.builtin .copy,args:=#[x,y],argTypes:=#[t,t]}).operands:=by simp[i4,Call.operands]
 intro d ty pos aft I k f;have n:=df (f.lN (.inl (by simp)) g);have j:kV (av B k) (PE (aU B I) y) (B.sz a) (c.map (B.ty a).enc):=by rw[f.pe m.2];exact s k λi o p g=>f.lN (.inl (by simp[p])) g
 refine MH (ob:=aY B ⟨h,v,.rows a b⟩) (Ln u (f.pe m.1) rfl (by simp[aY])) n λL A F=>?_
 refine uL (x:=y) (F _ _ _ j) λD j G=>?_
 have w:=US (P:=P) (E:=D) (H:=av B k) (d:=d) (ty:=ty) (pos:=pos) (aft:=aft) (x:=x) (y:=y) (r:=q) (v:=v) (off:=off) (len:=e) (t:=t) (o:=aY B ⟨h,v,.rows a b⟩) (G x _ A (by simp)) n rfl rfl j C z;refine lI w ?_
 rintro v K ⟨rfl,rfl⟩;refine⟨by simp[pv],?_⟩
 rw[mc];simp[aY,mg,i5,List.map_drop]
theorem Uj(k:cU P B){t a q v off g h:Nat}{x:Operand}{E:En B.D}{H:List (Ob B.D)}{e:List (B.D a)}{z:Value}{j:B.D a}(F:D0 (B:=B) (pe E x) q v off g e.length)(w:nth H q=c5 ⟨h,v,.rows a e⟩)
 (M:dU P t=c5 a) (y:dV P a=c5 z) (L:jj (dN (cv (D:=B.D) z))=true) (N:B.up a (cv z)=c5 j):
 gY P (.call {callee:=.builtin .clear,args:=#[x],argTypes:=#[t]}) E H ⟨.bu [],[(q,⟨dJ H q,v,.rows a (iG j off g e)⟩)],0,[q]⟩:=by
 have C:x∈(Op.call {callee:=.builtin .clear,args:=#[x],argTypes:=#[t]}).operands:=by simp[i4,Call.operands]
 obtain⟨X,p⟩:=k.up a _ j N;have I:(pv B (cv z)).cells.length=B.sz a:=by rw[p.cells.1,k.wid]
 intro d ty pos aft W K n;have m:=df (n.lN (.inl (by simp)) w);refine MH (ob:=aY B ⟨h,v,.rows a e⟩) (Ln F (n.pe C) rfl (by simp[aY])) m λQ J _=>?_
 have G:=Wy (P:=P) (E:=Q) (H:=av B K) (d:=d) (ty:=ty) (pos:=pos) (aft:=aft) (x:=x) (r:=q) (v:=v) (off:=off) (len:=g) (t:=t) (o:=aY B ⟨h,v,.rows a e⟩) J m rfl M y (DK B z).symm I (by rw[l5];exact oK L);have O:jB ⟨a,B.sz a,((aY B ⟨h,v,.rows a e⟩).es.take off++f6 g (pv B (cv z))++(aY B ⟨h,v,.rows a e⟩).es.drop (off+g)),v⟩ ⟨a,B.sz a,(iG j off g e).map (B.ty a).enc,v⟩:=by
  refine jB.of (by simp[aY,iG]) (λi T b f c=>?_) λi V u=>?_
  ·simp only[aY,iG,List.map_append,i5,List.map_drop,List.map_replicate, <-d3] at f c
   by_cases l:i<(List.take off (List.map (B.ty a).enc e)++f6 g (pv B (cv z))).length
   ·rw[d2 l] at f;rw[d2 (by simpa using l)] at c
    by_cases s:i<(List.take off (List.map (B.ty a).enc e)).length
    ·rw[d2 s] at f c;rw[f] at c;injection c with c
     subst c;exact .refl _
    ·rw[d1 (by omega)] at f c;rw[h5 (dT f),h5 (dT c)];exact p
   ·rw[d1 (by omega)] at f;rw[d1 (by simpa using l)] at c;simp only[d7,gv] at f c;rw[f] at c;injection c with c
    subst c;exact .refl _
  ·obtain⟨A,_,rfl⟩:=e5.1 (dT u);exact k.wid a A
 refine lI (tu G (c9 m) O (.refl _)) ?_
 rintro S U ⟨rfl,rfl⟩;refine⟨rfl,?_⟩
 rw[mc]
 rfl
theorem ao6{t:TypeId}{x:Operand}{hi:Option Operand}{E:En B.D}{H:List (Ob B.D)}{c:cr B.D->Option R}(h:shrink B P E H t (pe E x) hi c=c5 r):
 ∃o,c o=c5 r/\iZ H o/\gY P (.slice t x d9 hi d9) E H o:=by
 unfold shrink at h
 split at h
 ·rename_i q v N
  split at h
  ·rename_i e i S;obtain⟨I,p⟩:=fx S;obtain⟨w,L⟩:=a8 h;obtain⟨b,F,M⟩:=fq L;obtain⟨W,j,O⟩:=dv.1 M;obtain⟨_,U,X,rfl⟩:=Kt j;refine⟨_,O,pz p,λd ty pos aft g K y=>?_⟩
   have s:∀z,z∈(Op.slice t x d9 hi d9).operands->PE (aU B g) z=pv B (pe E z):=λz D=>y.pe D
   have n:=df (y.lN (.inl (by simp)) p);have ops:∀a,hi=c5 a->∀c e,pe E a= .int c e->PE (aU B g) a= .int c e:=λa j c e k=>by
    rw[s a (by subst j;simp[i4]),k];rfl
   obtain⟨f,rfl,u⟩:=ri (show PE (aU B g) x= .fl q v by rw[s x (by simp[i4]),N];rfl);refine yP u n rfl ?_
   have C:PE ((f,PV.sl q v 0 i.length)::aU B g) (.tmp f)= .sl q v 0 i.length:=ni _ _ _;have Q:∀a,hi=c5 a->∀c e,pe E a= .int c e->PE ((f,PV.sl q v 0 i.length)::aU B g) a= .int c e:=λa j c e k=>by
    have m:=ops a j c e k
    by_cases A:a= .tmp f
    ·subst A;rw[show PE (aU B g) (.tmp f)= .fl q v from u] at m;cases m
    ·rw[wD a A];exact m
   have:=SC (P:=P) (E:=(f,PV.sl q v 0 i.length)::aU B g) (H:=av B K) (d:=d) (ty:=ty) (pos:=pos) (aft:=aft) (gd:=d9) (t:=t) (x:=.tmp f) (lo:=d9) (hi:=hi) (l:=0) (h:=b.toNat) C n rfl (mh w).1 (mh w).2 rfl (wk (by simpa[aY] using F) (by omega) Q) (by omega) (by simp[aY];omega);rw[d8,Nat.sub_zero] at this;have G:=apT this n rfl;have J:(aY B ⟨I,v,.rows e i⟩).es.length=i.length:=by simp[aY]
   rw[J];refine lI G ?_
   rintro T V ⟨rfl,rfl⟩;refine⟨rfl,?_⟩
   rw[mc];simp[aY,i5]
  ·cases h
 ·cases h
end
section
variable {P : Program} {B : Tb} {R : Type} {r : R}
theorem iW{d:Op}{e:En B.D}{b:List (Ob B.D)}{c:List Nat}{v:TV B.D}{f:cr B.D->Option R}(h:f ⟨v,[],0,c⟩=c5 r)(g:fW P d e b c v):∃a,f a=c5 r/\iZ b a/\gY P d e b a:=
 ⟨_,h,S6,g.sound⟩
theorem tp{e:Op}{f:En B.D}{d:List (Ob B.D)}{g:cr B.D->Option R}(a:∃v b,g ⟨v,[],0,b⟩=c5 r/\fW P e f d b v):∃c,g c=c5 r/\iZ d c/\gY P e f d c:=by
 obtain⟨v,b,h,a⟩:=a;exact iW h a
theorem ML{e:En B.D}{d:List Operand}{f:TV B.D}(a:fB e d=[f]):∃c,d=[c]/\pe e c=f:=by
 match d,a with
 |[c],a=>exact⟨c,rfl,by simpa[fB] using a⟩
 |[],a=>cases a
 |c::b::d,a=>simp[fB] at a
theorem GZ{e:En B.D}{d:List Operand}{g f:TV B.D}(a:fB e d=[g,f]):∃c b,d=[c,b]/\pe e c=g/\pe e b=f:=by
 match d,a with
 |[c,b],a=>exact⟨c,b,rfl,by simpa[fB] using a⟩
 |[],a=>cases a
 |[c],a=>simp[fB] at a
 |c::b::h::d,a=>simp[fB] at a
theorem oy{a:Type}{c:Array a}{b:List a}(d:c.toList=b):c=b.toArray:=by
 rw[<-d,g4]
theorem OQ{f:Type}:∀(e c:List f) {d:f},d∈nf e c->d∈e\/d∈c
 |[],_,_,a=>.inr a
 |b::e,c,d,a=>by
  rcases OQ e (b::c) a with a |a
  ·exact .inl (c7 _ a)
  ·rcases d0.1 a with rfl |a
   ·exact .inl gb
   ·exact .inr a
theorem MI(w:cU P B){G:List (aq B)}(n:∀h,h∈G->Fits P B h){k:Nat}{cs ds:List (TV B.D)}{fo:Operand}{args:Array Operand}{ci:Array TypeId}{E:En B.D}{H:List (Ob B.D)}{s:cr B.D->Option R}
 (O:pv B (pe E fo)= .fn k (aP B cs) (aP B ds)) (A:nz B k ⟨fi 0 (aX cs (aX (fB E args.toList) ds)),H⟩ s G=c5 r):
 ∃b,s b=c5 r/\iZ H b/\gY P (.call {callee:=.value fo,args:=args,argTypes:=ci}) E H b:=by
 obtain⟨b,L,D,h,Q,y,M⟩:=Z3 w n A;refine⟨b,L,D,λd ty pos aft q j l=>?_⟩
 have m:∀a,a=fo\/a∈args->a∈(Op.call {callee:=.value fo,args:=args,argTypes:=ci}).operands:=λa c=>by
  simp only[i4,Call.operands];rcases c with rfl |c
  ·simp
  ·simp[c]
 have e:=WB (P:=P) (E:=aU B q) (H:=av B j) (d:=d) (ty:=ty) (pos:=pos) (aft:=aft) (fo:=fo) (as:=args.toList) (ci:=ci) (f:=k) (cs:=aP B cs) (ds:=aP B ds) (K:=λv K=>v=pv B b.val/\K=av B (b8 j b.wr))
  (by rw[l.pe (m fo (.inl rfl)),O]) (by rw[<-y];exact(n h Q).Q6) (λg t N C o=>by
   have p:aP B cs++args.toList.map (PE (aU B q))++aP B ds=aP B (aX cs (aX (fB E args.toList) ds)):=by
    rw[<-DE (E:=E) λa c=>l.pe (m a (.inr (g5.1 c)))];simp[bK,db]
   rw[p] at o;refine(M j (λi u=>l.h i u) g t N C o).mono ?_
   rintro p S ⟨a,z,v,K,x,I,J,e,F⟩;exact⟨a,z,v,K,x,I,J,e,F⟩)
 rw[g4] at e;exact e
theorem aaE(m:cU P B){G:List (aq B)}(ak:∀d,d∈G->Fits P B d){aa:Bool}{w:En B.D}{H:List (Ob B.D)}{T:Op}{W:cr B.D->Option R}(a:step B P G aa w H T W=c5 r):
 ∃al,W al=c5 r/\iZ H al/\gY P T w H al:=by
 cases T with
 |move e=>exact iW a anB
 |assign e=>exact iW a aqt
 |pick d j b=>
  simp only[step] at a
  split at a
  ·rename_i b h;exact iW a (akp h)
  ·cases a
 |binOp T t e A yt=>
  simp only[step] at a;obtain⟨v,g,n⟩:=afA (H:=H) (yt:=yt) a;exact iW g n
 |unOp T t e=>
  simp only[step] at a;obtain⟨v,g,n⟩:=amY (P:=P) (t:=t) (H:=H) a;exact iW g n
 |convert aP aQ e=>
  simp only[step] at a
  split at a
  ·rename_i b C j c aD;obtain⟨n,g⟩:=a8 a;exact iW g (aip c aD n)
  ·cases a
 |extract e i=>
  simp only[step] at a
  split at a
  ·rename_i cs c;obtain⟨v,L,g⟩:=fq a;exact iW g (ahW c L)
  ·cases a
 |nilCheck e=>
  simp only[step] at a
  split at a
  ·rename_i q v i K c;exact iW a (Gw (.inl ⟨q,v,i,K,rfl⟩) c)
  ·rename_i cs K c;exact iW a (Gw (.inr (.inl ⟨cs,K,rfl⟩)) c)
  ·rename_i f cs ds c;exact iW a (Gw (.inr (.inr ⟨f,cs,ds,rfl⟩)) c)
  ·cases a
 |field t e f=>
  simp only[step] at a
  split at a
  ·rename_i cs aF ag c x;obtain⟨v,L,g⟩:=fq a;exact iW g (aex c x L)
  ·cases a
 |fieldAddr t e f=>
  simp only[step] at a
  split at a
  ·rename_i aF ag x
   split at a
   ·rename_i p n
    split at a
    ·rename_i q v i K c;exact iW a (R3 x n (.inl ⟨q,v,i,K,c,rfl⟩))
    ·rename_i cs K c;exact iW a (R3 x n (.inr ⟨cs,K,c,rfl⟩))
    ·cases a
   ·cases a
  ·cases a
 |indexAddr t e i=>exact tp (amg m a)
 |index t e i=>exact tp (ame a)
 |load t e=>exact tp (PD m a)
 |store t e A=>exact amr m a
 |slice t e Y ah am=>
  cases am with
  |none=>
   simp only[step] at a;cases aa with
   |false=>exact tp (aqA a)
   |true=>
    cases Y with
    |none=>exact ao6 a
    |some Y=>cases a
  |some am=>
   cases Y with
   |some Y=>cases ah <;> simp[step] at a
   |none=>
    cases ah with
    |none=>simp[step] at a
    |some ah=>exact tp (VT m a)
 |box t e=>
  simp only[step] at a;obtain⟨o,a⟩:=a8 a;obtain⟨k,g⟩:=a8 a;exact⟨_,g,xO,W5 o k⟩
 |alloc t=>
  simp only[step] at a
  split at a
  ·rename_i z s;obtain⟨o,a⟩:=a8 a;obtain⟨k,g⟩:=a8 a;exact⟨_,g,xO,ac4 s o k⟩
  ·cases a
 |build t aA=>
  simp only[step] at a
  split at a
  ·rename_i z aR s ax;obtain⟨o,a⟩:=a8 a;obtain⟨D,I,a⟩:=fq a;obtain⟨cs,x,g⟩:=fq a;exact iW g (agn s ax o I x)
  ·cases a
 |buildSlice t D aA=>
  simp only[step] at a
  split at a
  ·rename_i p u;obtain⟨k,a⟩:=a8 a;obtain⟨E,a⟩:=a8 a;obtain⟨X,a⟩:=a8 a
   split at a
   ·rename_i ab c;obtain⟨o,a⟩:=a8 a;exact(aaJ m u c o k E X).sound a
   ·exact aco m a u k E X
  ·cases a
 |makeSlice t D d=>
  simp only[step] at a;obtain⟨aw,a⟩:=a8 a
  split at a
  ·rename_i p aM C u I
   split at a
   ·rename_i z aI s N;obtain⟨o,a⟩:=a8 a;obtain⟨k,a⟩:=a8 a;obtain⟨aH,aj,a⟩:=fq a;obtain⟨ab,c,a⟩:=dv.1 a;exact(aoF m aw I u s N o k aj c).sound a
   ·cases a
  ·cases a
 |makeFunc fn j d=>
  cases fn with
  |func f=>exact iW a W8
  |_=>simp[step] at a
 |call d=>
  obtain⟨callee,args,V⟩:=d;cases callee with
  |value f=>
   simp only[step] at a
   split at a
   ·rename_i Z cs ds x;refine MI m (G:=bif aa then nf G [] else G) (λd h=>ak d ?_) (by rw[x];rfl) a
    cases aa with
    |false=>exact h
    |true=>exact(OQ G [] h).resolve_right List.not_mem_nil
   ·rename_i aJ x;obtain⟨Z,rfl,a⟩:=dv.1 a;have av:∀D,sV B Z ⟨fi 0 (fB w args.toList),H⟩ W D=c5 r->(∀d,d∈D->Fits P B d)->∃d,d∈D/\nz B Z ⟨fi 0 (fB w args.toList),H⟩ W [d]=c5 r:=λD=>by
     induction D with
     |nil=>intro a;simp[sV] at a
     |cons j D ap=>
      intro a I;simp only[sV] at a;cases h0:(bif ee (len (fi 0 (fB w args.toList))) j.na then(leaves j.par ⟨fi 0 (fB w args.toList),H⟩ (nQ ⟨fi 0 (fB w args.toList),H⟩ j.par.dF)).isSome else false) with
      |false=>
       rw[h0] at a;obtain⟨d,h,k⟩:=ap a λd h=>I d (c7 _ h)
       exact⟨d,c7 _ h,k⟩
      |true=>
      rw[h0] at a;simp only[cond_true] at a;cases ae:ee Z j.cO with
      |true=>
       rw[ae] at a;exact⟨j,by simp,by rw[beq_eq ae];exact a⟩
      |false=>
       rw[ae] at a;obtain⟨d,h,k⟩:=ap a λd h=>I d (c7 _ h)
       exact⟨d,c7 _ h,k⟩
    obtain⟨d,h,k⟩:=av G a ak;refine MI m (G:=[d]) (cs:=[]) (ds:=[]) (λaK aC=>by rw[List.mem_singleton.1 aC];exact ak d h) (by rw[x];rfl) ?_
    rw[aX,bK,ef];exact k
   ·cases a
  |invoke _ _=>simp[step] at a
  |builtin b=>
   cases b <;> simp only[step] at a <;> first |(cases a;done) |skip
   case len=>
    split at a
    ·rename_i e t c u
     split at a
     ·rename_i p O;obtain⟨j,l,af⟩:=ML c;have l:args=#[j]:=oy l;subst l;have h:V=#[t]:=oy u;subst h;subst af;exact tp (Vw m O a)
     ·cases a
    ·cases a
   case min=>
    obtain⟨v,L,g⟩:=fq a;obtain⟨e,A,j,b,C,p,ad,c,S,U,rfl⟩:=Nx L;exact iW g (adE rfl ad c S U)
   case max=>
    obtain⟨v,L,g⟩:=fq a;obtain⟨e,A,j,b,C,p,ad,c,S,U,rfl⟩:=Nx L;exact iW g (alY rfl ad c S U)
   case append=>
    split at a
    ·rename_i aO e t ay c u;obtain⟨ac,y⟩:=a8 a;clear a;obtain rfl:=beq_eq ac
     split at y
     ·rename_i p O
      split at y
      ·rename_i aI N;obtain⟨M,y⟩:=a8 y;obtain⟨j,b,l,J,Q⟩:=GZ c;have l:args=#[j,b]:=oy l;subst l;have h:V=#[t,t]:=oy u;subst h;subst Q;cases ao:SG B H (pe w b) with
       |true=>
        rw[ao,cond_true, <-J] at y;exact agG m y O N M
       |false=>
       rw[ao,cond_false] at y;obtain⟨aG,ar,a,n⟩:=Rz y
       split at a
       ·obtain⟨an,s,a⟩:=dv.1 a;exact(MY m (.inl J) n O N M s).sound a
       ·obtain⟨an,s,a⟩:=dv.1 a;exact(MY m (.inr J) n O N M s).sound a
       ·rename_i q v
        split at a
        ·rename_i C ab h;obtain⟨aL,F⟩:=fx h;obtain⟨aN,az,a⟩:=fq a;obtain⟨rfl,rfl⟩:=AG az;obtain⟨an,s,g⟩:=dv.1 a;exact⟨_,g,pz F,YX m J F n O N M s⟩
        ·cases a
       ·cases a
      ·cases y
     ·cases y
    ·cases a
   case clear=>
    split at a
    ·rename_i e t c u;obtain⟨q,v,ag,aB,p,ab,aE,F,n,o⟩:=MJ a;obtain⟨ai,k⟩:=a8 o;obtain⟨_,E⟩:=a8 k
     split at E
     ·rename_i z s;obtain⟨I,X⟩:=a8 E;obtain⟨aH,aj,g⟩:=fq X;obtain⟨j,l,af⟩:=ML c;have l:args=#[j]:=oy l;subst l;have h:V=#[t]:=oy u;subst h;subst af;exact⟨_,g,pz F,Uj m n F (Lj ai) s I aj⟩
     ·cases E
    ·cases a
   case copy=>
    split at a
    ·rename_i e A t ay c u;obtain⟨ac,h0⟩:=a8 a;obtain rfl:=beq_eq ac;obtain⟨q,v,ag,aB,p,ab,aE,F,n,o⟩:=MJ h0;obtain⟨ai,k⟩:=a8 o;obtain⟨M,E⟩:=a8 k;obtain⟨aG,ar,g,S⟩:=Rz E;obtain⟨au,_⟩:=qY M;obtain⟨j,b,l,J,Q⟩:=GZ c;have l:args=#[j,b]:=oy l;subst l;have h:V=#[t,t]:=oy u;subst h;subst J;subst Q;exact⟨_,g,pz F,aiS m n F S (Lj ai) au⟩
    ·cases a
 |_=>simp[step] at a
where
 Nx {f:Int->Int->Int} {args:Array Operand} {w:En B.D} {v:TV B.D} (a:Dm B f (fB w args.toList)=c5 v):∃e A j b C p,args=#[e,A]/\pe w e= .int j C/\pe w A= .int b p/\fV j b=true/\v= .int j (f C p):=by
  unfold Dm at a
  split at a
  ·rename_i j C b p c;obtain⟨U,a⟩:=a8 a;injection a with a
   obtain⟨e,A,l,J,Q⟩:=GZ c;exact⟨e,A,j,b,C,p,oy l,J,Q,U,a.symm⟩
  ·cases a
end
section
variable {P : Program} {B : Tb} {R : Type} {r : R}
theorem H8{c:Type}{b:List c}{i:Nat}{d:c}(a:nth b i=c5 d):i<b.length:=by
 rw[cJ] at a;exact c9 a
theorem SE{f:Type}:∀{ch:List (Nat×f)} {b e:List f} {i:Nat},nth b i=nth e i->nth (b8 b ch) i=nth (b8 e ch) i
 |[],_,_,_,a=>a
 |p::ch,b,e,i,a=>by
  refine SE (ch:=ch) ?_
  rw[iL,iL,cJ,cJ];rw[cJ,cJ] at a
  by_cases d:p.1=i
  ·subst d;cases c:b[p.1]? with
   |none=>
    rw[c] at a;rw[ei (by rw[eE];exact List.getElem?_eq_none_iff.1 c),ei (by rw[eE];exact List.getElem?_eq_none_iff.1 a.symm)]
   |some g=>
    rw[c] at a;rw[e4 (c9 c),e4 (c9 a.symm)]
  ·rw[ec d,ec d];exact a
theorem Mu{d:Type}:∀{c b:List (Nat×d)} {a:List d},b8 a (aX c b)=b8 (b8 a c) b
 |[],_,_=>rfl
 |p::c,b,a=>by simp only[aX,b8];exact Mu
theorem Rn{f:Nat->Type}{c d:List (Ob f)}:∀{a:List Nat},(∀i,i∈a->nth c i=nth d i)->gU c a=gU d a
 |[],_=>rfl
 |q::a,b=>by
  simp only[gU];rw[b q (by simp),Rn λi e=>b i (by simp[e])]
theorem FG{n:Nat->Type}{X:List (Ob n)}:∀{fr:List Nat} {Z:List (Ob n)},Z.length=X.length->(∀i,i∈fr->nth Z i=nth X i\/∃c,nth X i=c5 c/\nth Z i=c5 ⟨c.st+1,c.aF+1,.dead⟩)->
 (∀i,i∈fr->∀c,nth X i=c5 c->nth (b8 Z (gU X fr)) i=c5 ⟨c.st+1,c.aF+1,.dead⟩)/\(∀i,i∉fr->nth (b8 Z (gU X fr)) i=nth Z i)
 |[],Z,_,_=>⟨λi a=>(List.not_mem_nil a).elim,λi _=>rfl⟩
 |q::fr,Z,l,m=>by
  simp only[gU];cases f:nth X q with
  |none=>
   obtain⟨h,g⟩:=FG (X:=X) (fr:=fr) (Z:=Z) l λi a=>m i (by simp[a])
   refine⟨λi a c d=>?_,λi a=>g i λb=>a (by simp[b])⟩
   rcases d0.1 a with rfl |a
   ·rw[f] at d;cases d
   ·exact h i a c d
  |some e=>
   have o:q<Z.length:=by rw[l];exact H8 f
   have k:∀i,nth (me Z q ⟨e.st+1,e.aF+1,.dead⟩) i=if q=i then c5 ⟨e.st+1,e.aF+1,.dead⟩ else nth Z i:=λi=>by
    rw[iL,cJ,cJ]
    by_cases b:q=i
    ·subst b;rw[if_pos rfl,e4 o]
    ·rw[if_neg b,ec b]
   obtain⟨h,g⟩:=FG (X:=X) (fr:=fr) (Z:=me Z q ⟨e.st+1,e.aF+1,.dead⟩) (by rw[iL,eE,l]) λi a=>by
    rw[k]
    by_cases b:q=i
    ·subst b;exact .inr ⟨e,f,by rw[if_pos rfl]⟩
    ·rw[if_neg b];exact m i (by simp[a])
   refine⟨λi a c d=>?_,λi a=>?_⟩
   ·by_cases j:i∈fr
    ·exact h i j c d
    ·rcases d0.1 a with rfl |a
     ·rw[b8,g i j,k,if_pos rfl];rw[f] at d;injection d with d
      rw[d]
     ·exact absurd a j
   ·have p:q≠i:=λb=>a (by simp[b])
    rw[b8,g i λb=>a (by simp[b]),k,if_neg p]
def lX(b:List Nat)(a:Nat)(q:Nat):Option Nat:=bif has b q then d9 else bif gx q a then c5 q else d9
theorem u7{c:List Nat}{d q i:Nat}(a:lX c d q=c5 i):i=q/\q∉c/\q<d:=by
 unfold lX at a;cases e:has c q with
 |true=>rw[e] at a;cases a
 |false=>
  rw[e] at a;simp only[cond_false] at a;cases b:gx q d with
  |false=>rw[b] at a;cases a
  |true=>
   rw[b] at a;injection a with a
   exact⟨a.symm,nA e,d6 b⟩
theorem KI{a:List Nat}{b q:Nat}(g:q∉a)(e:q<b):lX a b q=c5 q:=by
 unfold lX;have f:has a q=false:=by
  cases c:has a q with
  |false=>rfl
  |true=>exact absurd ((oO a q).1 c) g
 have d:gx q b=true:=fe e;rw[f,d]
 rfl
theorem apa{g:Gh}{X:List (Ob B.D)}{m:World}(D:bF g (av B X) m)(fr:List Nat)(W:∀i,i∈fr->i<X.length)(S:Nat):
 bF (dj g (lX fr X.length) (λi=>i∈fr)) (av B (b8 X (gU X fr))) m/\
 (∀h p,VR g (av B X) m h p->VR (dj g (lX fr X.length) (λi=>i∈fr)) (av B (b8 X (gU X fr))) m h p)/\
 Bml.GStep S g (av B X) m (dj g (lX fr X.length) (λi=>i∈fr)) (av B (b8 X (gU X fr))) m:=by
 obtain⟨G,J⟩:=FG (X:=X) (fr:=fr) (Z:=X) rfl λi _=>.inl rfl
 have z:(b8 X (gU X fr)).length=X.length:=qy _ _;have x:∀q c,(av B X)[q]? =c5 c->∃d,(av B (b8 X (gU X fr)))[q]? =c5 d/\((q∈fr/\c.aF<d.aF/\d.es=[]/\d.sz=1)\/(q∉fr/\d=c)):=λq c n=>by
  obtain⟨L,t,rfl⟩:=oU n
  by_cases u:q∈fr
  ·refine⟨_,df (G q u L t),.inl ⟨u,?_,rfl,rfl⟩⟩
   rw[e7];exact hI _
  ·exact⟨_,df (by rw[J q u];exact t),.inr ⟨u,rfl⟩⟩
 have C:∀h p,VR g (av B X) m h p->VR (dj g (lX fr X.length) (λi=>i∈fr)) (av B (b8 X (gU X fr))) m h p:=λh p o=>by
  refine VR.re (f:=λr v=>∃c,(av B X)[r]? =c5 c/\v<=c.aF) (g':=dj g (lX fr X.length) (λi=>i∈fr)) (λb K=>Or.inl K) (λr v c _ n I=>?_) o o.wf
  obtain⟨d,j,s⟩:=x r c n;rcases s with⟨a,O,_⟩ |⟨a,rfl⟩
  ·exact⟨d,j,by omega,λl=>by omega⟩
  ·refine⟨_,j,I,λl=>⟨l,rfl,rfl,?_⟩⟩
   have e:=c9 n;rw[qL] at e;show(lX fr X.length r).bind g.β=g.β r
   rw[KI a e]
   rfl
 refine⟨?_,C,?_⟩
 ·refine bF.re D (λi H q k=>?_) (λq V i o F=>?_) (λq i o=>?_) λq d j=>?_
  ·obtain⟨l,a,_⟩:=u7 k;subst l;exact a H
  ·rw[<-(u7 o).1, <-(u7 F).1]
  ·rw[qL,z];exact(u7 o).2.2
  ·have e:=c9 j;rw[qL,z] at e;have y:(av B X)[q]? =c5 ((av B X)[q]'(by rw[qL];exact e)):=c4 _;obtain⟨U,w,s⟩:=x q _ y;rw[j] at w;injection w with w
   subst w;rcases s with⟨a,_,E,M⟩ |⟨a,rfl⟩
   ·refine⟨by rw[M];exact Nat.one_pos,λi l A=>by rw[E] at A;simp at A,λ_=>E,λi k=>?_⟩
    exact absurd a (u7 k).2.1
   ·have t:=D.obj q _ y;refine⟨t.pos,t.width,λk=>?_,λi k=>?_⟩
    ·rw[KI a e] at k;cases k
    ·obtain⟨l,_,_⟩:=u7 k;subst l;exact⟨_,y,rfl,rfl,rfl,λi Y h T=>⟨h,T,λQ N=>C h Q N⟩⟩
 ·refine GStep.re λq c _ n=>?_
  obtain⟨d,j,s⟩:=x q c n;have e:=c9 n;rw[qL] at e;rcases s with⟨a,O,_⟩ |⟨a,rfl⟩
  ·exact⟨d,j,by omega,λl=>by omega⟩
  ·exact⟨_,j,dt _,λ_=>⟨KI a e,rfl,rfl⟩⟩
theorem SN{h:Nat->Type}{e:Nat}{d:List (Nat×Ob h)}:∀{c:List Nat},Jd e d c=true->∀i,i∈c->e<=i/\i∈eV d
 |[],_,i,a=>by cases a
 |q::c,f,i,a=>by
  obtain⟨j,b⟩:=fu f;obtain⟨b,g⟩:=fu b;rcases d0.1 a with rfl |a
  ·exact⟨d6 j,(oO _ _).1 b⟩
  ·exact SN g i a
theorem KW{e:Nat->Type}{f:List (Ob e)}:∀{c:List Nat} {i:Nat} {d:Ob e},(i,d)∈gU f c->i∈c
 |[],_,_,a=>by cases a
 |q::c,i,d,a=>by
  simp only[gU] at a
  split at a
  ·rcases d0.1 a with b |a
   ·injection b with b _
    simp[b]
   ·exact c7 _ (KW a)
  ·exact c7 _ (KW a)
theorem QB{c:Type}:∀{a b:List (Nat×c)},eV (aX a b)=aX (eV a) (eV b)
 |[],_=>rfl
 |p::a,b=>by simp only[aX,eV,QB]
theorem T1{e:Nat->Type}{c:List (Ob e)}:∀{b:List Nat} {i:Nat},i∈eV (gU c b)->i∈b
 |[],_,a=>by cases a
 |q::b,i,a=>by
  simp only[gU] at a
  split at a
  ·simp only[eV,d0] at a;rcases a with d |a
   ·simp[d]
   ·exact c7 _ (T1 a)
  ·exact c7 _ (T1 a)
theorem Zj(N:cU P B){G:Op}{K:En B.D}{H:List (Ob B.D)}{a E:cr B.D}(f:Fs H a=c5 E)(y:iZ H a)(Z:gY P G K H a):iZ H E/\gY P G K H E:=by
 unfold Fs at f;obtain⟨ae,f⟩:=a8 f;obtain⟨O,f⟩:=a8 f;injection f with f
 subst f;have o:=SN ae;refine⟨λi S d=>?_,?_⟩
 ·have d:(i,S)∈aX a.wr (gU (behind H a) (refs a.val)):=d;rw[bK,c6] at d;rcases d with d |d
  ·exact y i S d
  ·have b:=KW d;obtain⟨s,F⟩:=o i b;have z:∃e,(i,e)∈a.wr:=F1 F;obtain⟨e,j⟩:=z;refine⟨(y i e j).1,λax W=>?_⟩
   have:=H8 W;rw[eu] at s;omega
 ·intro af ab ar aa U c J g ac Q aq ag aj ao al;have w:Ag G (aX a.rd (eV a.wr)) K U (aX H (dx a.nw)) c:=⟨J.e,λi b=>J.h i (by
   show i∈aX a.rd (eV (aX a.wr _))
   rw[bK,c6] at b⊢;rcases b with b |b
   ·exact .inl b
   ·exact .inr (by rw[QB,bK,c6];exact .inl b)),J.le⟩
  refine Z af ab ar aa U c w g ac Q aq ag aj ao λC M X v ay an l d ai=>?_
  obtain⟨rfl,rfl⟩:=an;have t:∀i,i∈refs a.val->nth (behind H a) i=nth (b8 c a.wr) i:=λi b=>by
   unfold behind;refine SE ?_
   have:=w.h i (by rw[bK,c6];exact .inr (o i b).2);exact this.symm
  have Y:∀i,i∈refs a.val->i<(b8 c a.wr).length:=λi b=>by
   rw[qy];have s:=w.h i (by rw[bK,c6];exact .inr (o i b).2);obtain⟨e,j⟩:=F1 (o i b).2;have F:=(y i e j).1;have z:i<(aX H (dx a.nw)).length:=by rw[bK,d7,qV];exact F
   have ad:nth (aX H (dx a.nw)) i=c5 ((aX H (dx a.nw))[i]):=by rw[cJ];exact c4 z
   rw[ad] at s;exact H8 s
  obtain⟨ak,az,ah⟩:=apa d (refs a.val) Y (av B c).length;refine al C M _ (pv B (G0 (behind H a) a.val)) (av B (b8 (b8 c a.wr) (gU (b8 c a.wr) (refs a.val)))) ⟨rfl,?_⟩ ?_ ak (ai.trans ah)
  ·show av B _=av B (b8 c (aX a.wr (gU (behind H a) (refs a.val))))
   rw[Mu,Rn t]
  ·have V:kY (b8 c a.wr) (refs a.val)=[]:=by
    rw[Ki (H:=behind H a) (refs a.val) λi b=>(t i b).symm];cases q:kY (behind H a) (refs a.val) with
    |nil=>rfl
    |cons Q n=>rw[q] at O;cases O
   have u:∀i,jN (b8 c a.wr) (refs a.val) i->i∈refs a.val:=λi b=>by
    unfold jN at b
    rwa [V,bK,ef] at b
   have am:∀m:TV B.D,(∀i,i∈refs m->i∈refs a.val)->kJ (behind H a) [] m=kJ (b8 c a.wr) [] m:=λm A=>H6 m λi b=>t i (u i (b.mono A))
   have au:∀k:List (TV B.D),(∀i,i∈iB k->i∈refs a.val)->jS (behind H a) [] k=jS (b8 c a.wr) [] k:=λk A=>v8 k λi b=>t i (u i (b.mono A))
   unfold G0
   split
   ·rename_i I x;rw[au I λi b=>by rw[x];exact b];rw[x] at l;have l:VR X (av B (b8 c a.wr)) M (.bu (aP B I)) C:=l;obtain⟨L,rfl,q,aw⟩:=l.Db;have T:=pH (kept:=[]) (src:=lX (refs a.val) (b8 c a.wr).length) (fz:=λi=>i∈refs a.val) N d I L (λi b _=>u i (by rw[x];exact b)) q aw;exact .aW (.bu _ L (by rw[T.1];exact q) T.2)
   ·rw[am a.val λi b=>b];exact .aW (Jt (kept:=[]) (src:=lX (refs a.val) (b8 c a.wr).length) (fz:=λi=>i∈refs a.val) N d a.val C (λi b _=>u i b) l)
where
 F1 {D:Nat->Type}:∀{n:List (Nat×Ob D)} {i:Nat},i∈eV n->∃e,(i,e)∈n
  |[],_,h=>by cases h
  |p::n,i,h=>by
   simp only[eV,d0] at h;rcases h with ap |h
   ·exact⟨p.2,by rw[ap];simp⟩
   ·obtain⟨e,j⟩:=F1 h;exact⟨e,c7 _ j⟩
theorem aaq(d:cU P B){h:List (aq B)}(n:∀l,l∈h->Fits P B l){s j:Bool}{k:En B.D}{c:List (Ob B.D)}{i:Op}{m:cr B.D->Option R}(f:zM B P h s j k c i m=c5 r):
 ∃a,m a=c5 r/\iZ c a/\gY P i k c a:=by
 unfold zM at f;obtain⟨a,b,g,e⟩:=aaE d n f;cases j with
 |false=>exact⟨a,b,g,e⟩
 |true=>
  obtain⟨p,t,b⟩:=fq b;obtain⟨o,q⟩:=Zj d t g e;exact⟨p,b,o,q⟩
end
section
variable {P : Program} {B : Tb} {R : Type} {r : R}
def qo{b:Nat->Type}(c:Oper)(a:St b):Option (cr b)->St b
 |some d=>⟨gr a.E c.dst d.val,behind a.H d⟩
 |none=>⟨gr a.E c.dst (.bu []),a.H⟩
def fG{c:Nat->Type}(b:List Oper)(a:Oper):Option (cr c)->Lg
 |some d=>rV b a d
 |none=>xo b a
def tQ{e:Nat->Type}(f:List Oper)(h:Oper)(g:En e)(p:Bool->TV e->Prop):Prop:=∃a c d b,h.guard=c5 (a,c)/\nth f a=c5 d/\d.dst=c5 b/\p c (lk g b)
def Ij(P:Program)(B:Tb)(f:List Oper)(c:Oper)(a:St B.D):Option (cr B.D)->Prop
 |some d=>(c.guard=d9\/tQ f c a.E λe v=>v= .bool e)/\gY P c.op a.E a.H d/\iZ a.H d/\∀i,i∈d.rd->i<a.H.length
 |none=>tQ f c a.E λe v=>v= .bu []\/∃b,v= .bool b/\b≠e
def l6(P:Program)(B:Tb)(c:List Oper):List Oper->St B.D->List (Option (cr B.D))->St B.D->Prop
 |[],a,[],b=>b=a
 |d::f,a,e::g,b=>Ij P B c d a e/\l6 P B c f (qo d a e) g b
 |_,_,_,_=>False
def mF{f:Nat->Type}(a:List Oper):List Oper->List (Option (cr f))->List Lg
 |b::c,d::e=>fG a b d::mF a c e
 |_,_=>[]
theorem SI{c:Nat}:∀{b:List Nat},Dp c b=true->∀i,i∈b->i<c
 |[],_,i,a=>by cases a
 |g::b,d,i,a=>by
  obtain⟨f,e⟩:=fu d;rcases d0.1 a with rfl |a
  ·exact d6 f
  ·exact SI e i a
theorem qg(w:cU P B){p:List (aq B)}(x:∀s,s∈p->Fits P B s){q:List Nat}{c:List Oper}{m:List Lg->St B.D->Option R}:∀{f:List Oper} {i:Nat} {k:List Lg} {a:St B.D},ops B P p q c m i f k a=c5 r->
 ∃g h,l6 P B c f a g h/\m ((mF c f g).reverse++k) h=c5 r
 |[],i,k,a,d=>⟨[],a,rfl,d⟩
 |e::f,i,k,a,d=>by
  simp only[ops] at d;have go:∀(l:e.guard=d9\/tQ c e a.E λo v=>v= .bool o),(zM B P p (has q i) (has q (i+1000)) a.E a.H e.op λj=>bif Dp (len a.H) j.rd then
   bif zL i c then match j.val with
    | .bool s=>cond s (ops B P p q c m (i+1) f (rV c e j::k) ⟨gr a.E e.dst (.bool true),behind a.H j⟩) (ops B P p q c m (i+1) f (rV c e j::k) ⟨gr a.E e.dst (.bool false),behind a.H j⟩)
    |_=>d9
   else ops B P p q c m (i+1) f (rV c e j::k) ⟨gr a.E e.dst j.val,behind a.H j⟩
   else d9)=c5 r->∃g h,l6 P B c (e::f) a g h/\m ((mF c (e::f) g).reverse++k) h=c5 r:=λl d=>by
   obtain⟨j,n,L,K⟩:=aaq w x d;obtain⟨J,n⟩:=a8 n;have I:∀i,i∈j.rd->i<a.H.length:=λi H=>by rw[<-eu];exact SI J i H
   have next:ops B P p q c m (i+1) f (rV c e j::k) ⟨gr a.E e.dst j.val,behind a.H j⟩=c5 r->∃g h,l6 P B c (e::f) a g h/\m ((mF c (e::f) g).reverse++k) h=c5 r:=λd=>by
    obtain⟨g,h,z,C⟩:=qg w x d;refine⟨c5 j::g,h,⟨⟨l,K,L,I⟩,z⟩,?_⟩
    simp only[mF,fG,List.reverse_cons,d3,List.singleton_append];exact C
   cases G:zL i c with
   |false=>rw[G] at n;exact next n
   |true=>
    rw[G] at n;simp only[cond_true] at n
    split at n
    ·rename_i s N;refine next ?_
     rw[N];cases s <;> exact n
    ·cases n
  have skip:(tQ c e a.E λo v=>v= .bu []\/∃b,v= .bool b/\b≠o)->ops B P p q c m (i+1) f (xo c e::k) ⟨gr a.E e.dst (.bu []),a.H⟩=c5 r->∃g h,l6 P B c (e::f) a g h/\m ((mF c (e::f) g).reverse++k) h=c5 r:=λl d=>by
   obtain⟨g,h,z,C⟩:=qg w x d;refine⟨d9::g,h,⟨l,z⟩,?_⟩
   simp only[mF,fG,List.reverse_cons,d3,List.singleton_append];exact C
  split at d
  ·rename_i l;exact go (.inl l) d
  ·rename_i D o l
   split at d
   ·rename_i F y
    split at d
    ·rename_i E A
     split at d
     ·rename_i b t;cases u:Bool.xor b o with
      |true=>
       rw[u] at d;exact skip ⟨D,o,F,E,l,y,A,.inr ⟨b,t,λM=>by subst M;cases b <;> cases u⟩⟩ d
      |false=>
       rw[u] at d;refine go (.inr ⟨D,o,F,E,l,y,A,?_⟩) d
       rw[t];cases b <;> cases o <;> first |rfl |cases u
     ·rename_i t;exact skip ⟨D,o,F,E,l,y,A,.inl t⟩ d
     ·cases d
    ·cases d
   ·cases d
theorem Mc(b a:List (Ob B.D)):av B (aX b a)=av B b++av B a:=by rw[bK];simp[av]
theorem ab3{d n:Nat}{g:Gh}{f:Env}{b:List aO}{e:Act}{a:World}(c:Rel g d f b e a):∃h,Rel h d f (b++[⟨0,1,[],0⟩]) e a/\Bml.GStep n g b a h (b++[⟨0,1,[],0⟩]) a:=by
 obtain⟨i,j⟩:=c.m.T6 0 1 Nat.one_pos;exact⟨_,⟨j,c.e.step i⟩,i.every⟩
theorem G6{f n:Nat}{j:Env}{i:Act}{c:World}:∀(b:Nat) {g:Gh} {a:List aO},Rel g f j a i c->∃k,Rel k f j (a++av B (dx b)) i c/\Bml.GStep n g a c k (a++av B (dx b)) c
 |0,g,a,d=>⟨g,by simpa[dx,av] using d,by simpa[dx,av] using Bml.GStep.refl n g a c⟩
 |b+1,g,a,d=>by
  obtain⟨q,p,l⟩:=ab3 (n:=n) d;obtain⟨o,h,e⟩:=G6 b p;have m:a++[⟨0,1,[],0⟩]++av B (dx b)=a++av B (dx (b+1)):=by simp[dx,av,aY,xt]
  rw[m] at h e;exact⟨o,h,l.trans e⟩
theorem OT{c n:Nat}{i:Array Oper}{e:List Oper}{h:fE}{j:Env}{d:List (Ob B.D)}(b:Nat)(l:gp P c n i e h j (av B (aX d (dx b)))):gp P c n i e h j (av B d):=by
 intro g o v q t w;obtain⟨s,f,a⟩:=G6 (B:=B) (n:=n) b q;rw[<-Mc] at f a;exact l s o v f t λu m k p=>w u m k (eI.trans a p)
theorem Sf{d:Op}{c:List Nat}{b:En B.D}{a:List (Ob B.D)}:Ag d c b b a a:=⟨λ_ _=>rfl,λ_ _=>rfl,dt _⟩
theorem yW{nt n:Nat}{k:List Oper}{Q:fE}:∀{i:List Oper} {S:St B.D} {x:List (Option (cr B.D))} {g:St B.D},l6 P B k i S x g->(∀e,e∈i->fL nt e.dst=true)->Q .normal (aU B g.E) (av B g.H)->
 gp P nt n k.toArray i Q (aU B S.E) (av B S.H)
 |[],S,[],g,a,_,w=>by
  obtain rfl:g=S:=a;exact Of w
 |e::i,S,c::x,g,a,y,w=>by
  obtain⟨z,a⟩:=a;have t:=yW (nt:=nt) (n:=n) a (λe F=>y e (c7 _ F)) w;have u:=y e (by simp);obtain⟨f,C,q,s,o,gd⟩:=e;have D:∀{p:Bool->TV B.D->Prop},tQ k ⟨f,C,q,s,o,gd⟩ S.E p->∃h d c,gd=c5 (h,d)/\(k.toArray[h]?).bind (·.dst)=c5 c/\p d (lk S.E c):=λa=>by
   obtain⟨h,d,T,c,K,A,I,J⟩:=a;refine⟨h,d,c,K,?_,J⟩
   rw[cJ] at A;simp[A,I]
  cases c with
  |none=>
   obtain⟨h,d,c,rfl,m,l⟩:=D (p:=λd v=>v= .bu []\/∃b,v= .bool b/\b≠d) z;rcases l with l |⟨b,H,L⟩
   ·refine MO m (by rw[ep,l];rfl) u ?_
    rw[show li (aU B S.E) f (.bu [])=aU B (gr S.E f (.bu [])) by rw[sx];rfl];exact t
   ·refine Sk m (by rw[ep,H];rfl) L u ?_
    rw[show li (aU B S.E) f (.bu [])=aU B (gr S.E f (.bu [])) by rw[sx];rfl];exact t
  |some E=>
   obtain⟨j,G,N,M⟩:=z;have run:gp P nt n k.toArray (⟨f,C,q,s,o,d9⟩::i) Q (aU B S.E) (av B S.H):=by
    refine OT E.nw (Sz (G f q s o S.E (aX S.H (dx E.nw)) Sf) u ?_)
    rintro v O ⟨rfl,rfl⟩;rw[<-sx];exact t
   rcases j with j |j
   ·obtain rfl:gd=d9:=j;exact run
   ·obtain⟨h,d,c,rfl,m,l⟩:=D j;exact S7 m (by rw[ep,l];rfl) run
 |[],_,_::_,_,a,_,_=>a.elim
 |_::_,_,[],_,a,_,_=>a.elim
theorem alB{b:List (Ob B.D)}{a:cr B.D}:(behind b a).length=b.length+a.nw:=by
 unfold behind;rw[qy,bK,d7,qV]
theorem Fk{e:Type}:∀{c:List (Nat×e)} {a:List e} {i:Nat},(∀b,(i,b)∉c)->nth (b8 a c) i=nth a i
 |[],_,_,_=>rfl
 |p::c,a,i,d=>by
  rw[b8,Fk λb g=>d b (c7 _ g),cJ,cJ,iL,ec];intro f;exact d p.2 (by subst f;exact gb)
theorem RD{e:Type}:∀{ch:List (Nat×e)} {b:List e} {i:Nat} {c:e},nth (b8 b ch) i=c5 c->(i,c)∈ch\/nth b i=c5 c
 |[],_,_,_,a=>.inr a
 |p::ch,b,i,c,a=>by
  rcases RD (ch:=ch) a with a |a
  ·exact .inl (c7 _ a)
  ·rw[cJ,iL] at a
   by_cases f:p.1=i
   ·subst f;rcases f8 p.1 b.length with d |d
    ·rw[e4 d] at a;injection a with a
     subst a;exact .inl gb
    ·rw[ei (by rw[eE];exact d)] at a;cases a
   ·rw[ec f, <-cJ] at a;exact .inr a
theorem td{e:Nat->Type}(d:En e)(a:Option Nat)(v:TV e)(b:Nat):lk (gr d a v) b=if a=c5 b then v else lk d b:=by
 cases a with
 |none=>simp[gr]
 |some a=>
  simp only[gr,lk]
  by_cases c:a=b
  ·subst c;simp[g0]
  ·have:ee a b=false:=by
    cases f:ee a b with
    |false=>rfl
    |true=>exact absurd (beq_eq f) c
   simp[this,c]
theorem ah1{j:List Nat}{q:List Oper}{c:Oper}{b:St B.D}{a:Option (cr B.D)}(h:Ij P B q c b a)(s:∀p,c.dst=c5 p->p∈j):Ext j b (qo c b a):=by
 have o:∀v a,a∉j->lk (gr b.E c.dst v) a=lk b.E a:=λv a f=>by
  rw[td,if_neg];intro l;exact f (s a l)
 cases a with
 |none=>exact⟨λa f=>o _ a f,dt _,λi m c h d=>by
  have d:nth b.H i=c5 c:=d;rw[h] at d;injection d with d;subst d;exact⟨dt _,λ_=>rfl⟩⟩
 |some g=>
  obtain⟨_,_,t,_⟩:=h;refine⟨λa f=>o _ a f,by show b.H.length<=(behind b.H g).length;rw[alB];omega,λi m c h0 k=>?_⟩
  have k:nth (b8 (aX b.H (dx g.nw)) g.wr) i=c5 c:=k;rcases RD k with e |e
  ·have:=(t i c e).2 m h0;exact⟨by omega,λl=>by omega⟩
  ·have:=Dy (n:=g.nw) h0;rw[this] at e;injection e with e
   subst e;exact⟨dt _,λ_=>rfl⟩
theorem Pe{g:List Nat}{j:List Oper}:∀{e:List Oper} {c:St B.D} {h:List (Option (cr B.D))} {d:St B.D},l6 P B j e c h d->(∀b,b∈e->∀i,b.dst=c5 i->i∈g)->Ext g c d
 |[],c,[],d,a,_=>by obtain rfl:d=c:=a;exact .refl _ _
 |b::e,c,l::h,d,a,f=>(ah1 a.1 (f b (by simp))).trans (Pe a.2 λb k=>f b (c7 _ k))
 |[],_,_::_,_,a,_=>a.elim
 |_::_,_,[],_,a,_=>a.elim
end
section
variable {P : Program} {B : Tb}
def gT{b:Nat->Type}:List Oper->List (Option (cr b))->Nat->St b->St b
 |c::d,e::f,i+1,a=>gT d f i (qo c a e)
 |_,_,_,a=>a
def wq{a:Nat->Type}:Option (cr a)->TV a
 |some b=>b.val
 |none=>.bu []
def jM{a:Nat->Type}:Option (cr a)->List (Nat×Ob a)
 |some b=>b.wr
 |none=>[]
def xL{a:Nat->Type}:Option (cr a)->Nat
 |some b=>b.nw
 |none=>0
def jH{a:Nat->Type}:List (Option (cr a))->Nat
 |[]=>0
 |b::c=>xL b+jH c
def gN{b:Nat->Type}(c:Nat->Bool):Nat->List Oper->List (Option (cr b))->En b->En b
 |d,e::f,g::h,a=>gN c (d+1) f h (if c d then gr a e.dst (wq g) else a)
 |_,_,_,a=>a
def eA{b:Nat->Type}(c:Nat->Bool):Nat->List (Option (cr b))->List (Ob b)->List (Ob b)
 |d,e::f,a=>eA c (d+1) f (if c d then b8 a (jM e) else a)
 |_,_,a=>a
theorem Td{b:Nat->Type}(c:Oper)(d:St b)(a:Option (cr b)):(qo c d a).E=gr d.E c.dst (wq a):=by cases a <;> rfl
theorem LO{j:List Oper}:∀{b:List Oper} {c:St B.D} {d:List (Option (cr B.D))} {e:St B.D},l6 P B j b c d e->
 d.length=b.length/\gT b d b.length c=e/\∀(i:Nat) (h:Oper),b[i]? =c5 h->∃f,d[i]? =c5 f/\Ij P B j h (gT b d i c) f
 |[],c,[],e,a=>⟨rfl,by have a:e=c:=a;rw[a];rfl,by simp⟩
 |h::b,c,f::d,e,a=>by
  obtain⟨q,m,o⟩:=LO a.2;refine⟨by simp[q],m,λi p g=>?_⟩
  cases i with
  |zero=>
   simp at g;subst g;refine⟨f,rfl,?_⟩
   have:=a.1;simpa[gT] using this
  |succ i=>
   obtain⟨n,k,l⟩:=o i p (by simpa using g);exact⟨n,by simpa using k,l⟩
 |[],_,_::_,_,a=>a.elim
 |_::_,_,[],_,a=>a.elim
theorem RW{f:Nat->Type}:∀{l:List Oper} {ts:List (Option (cr f))} {i:Nat} {S:St f} {d:Oper} {e:Option (cr f)},l[i]? =c5 d->ts[i]? =c5 e->gT l ts (i+1) S=qo d (gT l ts i S) e
 |g::l,b::ts,0,S,d,e,a,c=>by
  simp at a c;subst a;subst c;cases l <;> cases ts <;> rfl
 |g::l,b::ts,i+1,S,d,e,a,c=>by
  have:=RW (l:=l) (ts:=ts) (i:=i) (S:=qo g S b) (by simpa using a) (by simpa using c);exact this
 |[],_,_,_,_,_,a,_=>by simp at a
 |_::_,[],_,_,_,_,_,c=>by simp at c
theorem vg{l:Nat->Type}{o n:Nat->Bool}{c:Nat}:∀(i:List Oper) (d:Nat) (j:List (Option (cr l))) (a k:En l),(∀e h,i[e]? =c5 h->h.dst=c5 c->o (d+e)=n (d+e))->lk a c=lk k c->lk (gN o d i j a) c=lk (gN n d i j k) c
 |[],_,_,_,_,_,f=>by simpa[gN] using f
 |_::_,_,[],_,_,_,f=>by simpa[gN] using f
 |h::i,d,v::j,a,k,p,f=>by
  simp only[gN];refine vg i (d+1) j _ _ (λe q r g=>by
   have:=p (e+1) q (by simpa using r) g
   rwa [show d+(e+1)=d+1+e by omega] at this) ?_
  by_cases g:h.dst=c5 c
  ·have h0:=p 0 h rfl g;simp only[g3] at h0;rw[h0]
   split
   ·rw[td,td,if_pos g,if_pos g]
   ·exact f
  ·have m:∀(b:Bool) (a:En l),lk (if b=true then gr a h.dst (wq v) else a) c=lk a c:=λb a=>by
    split
    ·rw[td,if_neg g]
    ·rfl
   rw[m,m,f]
theorem IR{g:Nat->Type}{h:Nat->Bool}:∀(d:List Oper) (a:Nat) (e:List (Option (cr g))) (c:En g),(∀b,a<=b->h b=false)->gN h a d e c=c
 |[],_,_,_,_=>by simp[gN]
 |_::_,_,[],_,_=>by simp[gN]
 |i::d,a,v::e,c,f=>by
  simp only[gN];rw[f a (dt _)];exact IR d (a+1) e c λb j=>f b (by omega)
theorem Nt{f:Nat->Type}:∀(i a:Nat) (d:List Oper) (b:List (Option (cr f))) (c:St f),gN (λe=>c3 (e<a+i)) a d b c.E=(gT d b i c).E
 |0,a,d,b,c=>by
  rw[IR d a b c.E λe j=>by simp;omega];cases d <;> cases b <;> rfl
 |i+1,a,[],b,c=>by cases b <;> rfl
 |i+1,a,_::_,[],c=>rfl
 |i+1,a,g::d,h::b,c=>by
  simp only[gN,gT];rw[if_pos (by simp), <-Td];have:=Nt i (a+1) d b (qo g c h);rw[show a+1+i=a+(i+1) by omega] at this;exact this
theorem xq{d:Nat->Type}{e:Nat->Bool}:∀(b:List (Option (cr d))) (c:Nat) (a:List (Ob d)),(eA e c b a).length=a.length
 |[],_,_=>rfl
 |f::b,c,a=>by
  simp only[eA];rw[xq b (c+1)]
  split
  ·exact qy _ _
  ·rfl
theorem O2{c:Type}{b:List (Nat×c)}{i:Nat}{f:c}(a:(i,f)∈b):i∈eV b:=by
 induction b with
 |nil=>cases a
 |cons g b e=>
  rcases d0.1 a with d |a
  ·simp[eV, <-d]
  ·simp[eV,e a]
theorem Fu{f:Type}:∀{ch:List (Nat×f)} {a c:List f} {i:Nat},a.length=c.length->nth a i=nth c i->nth (b8 a ch) i=nth (b8 c ch) i
 |[],_,_,_,_,b=>b
 |p::ch,a,c,i,g,b=>by
  refine Fu (ch:=ch) (by rw[iL,iL,eE,eE,g]) ?_
  rw[cJ,cJ] at b;rw[cJ,cJ,iL,iL]
  by_cases d:p.1=i
  ·subst d;rcases f8 p.1 a.length with e |e
   ·rw[e4 e,e4 (by omega)]
   ·rw[ei (by rw[eE];exact e),ei (by rw[eE];omega)]
  ·rw[ec d,ec d,b]
theorem vT{l:Nat->Type}{p o:Nat->Bool}{i:Nat}:∀(g:List (Option (cr l))) (c:Nat) (j k:List (Ob l)),j.length=k.length->(∀d e,g[d]? =c5 e->i∈eV (jM e)->p (c+d)=o (c+d))->nth j i=nth k i->nth (eA p c g j) i=nth (eA o c g k) i
 |[],_,_,_,_,_,f=>f
 |e::g,c,j,k,m,q,f=>by
  simp only[eA];have len:∀(b:Bool) (a:List (Ob l)),(if b=true then b8 a (jM e) else a).length=a.length:=λb a=>by
   split
   ·exact qy _ _
   ·rfl
  refine vT g (c+1) _ _ (by rw[len,len,m]) (λd s t h=>by
   have:=q (d+1) s (by simpa using t) h
   rwa [show c+(d+1)=c+1+d by omega] at this) ?_
  by_cases h:i∈eV (jM e)
  ·have h0:=q 0 e rfl h;simp only[g3] at h0;rw[h0]
   split
   ·exact Fu m f
   ·exact f
  ·have n:∀(b:Bool) (a:List (Ob l)),nth (if b=true then b8 a (jM e) else a) i=nth a i:=λb a=>by
    split
    ·exact Fk λu r=>h (O2 r)
    ·rfl
   rw[n,n,f]
theorem vP{f:Nat->Type}{g:Nat->Bool}:∀(d:List (Option (cr f))) (a:Nat) (b:List (Ob f)),(∀c,a<=c->g c=false)->eA g a d b=b
 |[],_,_,_=>rfl
 |h::d,a,b,e=>by
  simp only[eA];rw[e a (dt _)];exact vP d (a+1) b λc i=>e c (by omega)
theorem PZ{f:Type}:∀{c:List (Nat×f)} {a b:List f},(∀i d,(i,d)∈c->i<a.length)->b8 (aX a b) c=aX (b8 a c) b
 |[],_,_,_=>rfl
 |p::c,a,b,e=>by
  have g:me (aX a b) p.1 p.2=aX (me a p.1 p.2) b:=by
   rw[iL,iL,bK,bK,List.set_append_left _ _ (e p.1 p.2 gb)]
  rw[b8,g,PZ λi d h=>by rw[iL,eE];exact e i d (c7 _ h)]
  rfl
theorem MM{c:Nat->Type}(a b:Nat):(dx (a+b):List (Ob c))=aX (dx a) (dx b):=by
 induction a with
 |zero=>rw[d8];rfl
 |succ a d=>rw[show a+1+b=(a+b)+1 by omega];simp[dx,aX,d]
theorem QS{u:List Oper}:∀(i d:Nat) {f:List Oper} {c:St B.D} {a:List (Option (cr B.D))} {h:St B.D} {m:Nat},l6 P B u f c a h->i<=f.length->
 ∃j,eA (λq=>c3 (q<d+i)) d a (aX c.H (dx (m+jH a)))=aX (gT f a i c).H (dx (m+j))/\(∀g,a[i]? =c5 g->xL g<=j)/\(i=f.length->j=0)
 |0,d,[],c,[],h,m,b,_=>⟨0,by simp[eA,jH,gT],by simp,λ_=>rfl⟩
 |0,d,n::f,c,g::a,h,m,b,_=>⟨jH (g::a),by rw[vP _ _ _ λq w=>by simp;omega];rfl,λp k=>by
  simp at k;subst k;simp[jH],λb=>by simp at b⟩
 |i+1,d,n::f,c,g::a,h,m,b,l=>by
  obtain⟨j,s,t,r⟩:=QS i (d+1) (m:=m) b.2 (by simpa using l);refine⟨j,?_,λp k=>t p (by simpa using k),λo=>r (by simpa using o)⟩
  simp only[eA,gT];rw[if_pos (by simp), <-s,show d+1+i=d+(i+1) by omega]
  congr 1
  cases g with
  |none=>simp[jM,b8,qo,jH,xL]
  |some e=>
   have o:(m+jH (c5 e::a))=e.nw+(m+jH a):=by simp[jH,xL];omega
   rw[o,MM];show b8 (aX c.H (aX (dx e.nw) (dx (m+jH a)))) e.wr=aX (behind c.H e) (dx (m+jH a))
   rw[show aX c.H (aX (dx e.nw) (dx (m+jH a)))=aX (aX c.H (dx e.nw)) (dx (m+jH a)) by simp[bK]];rw[PZ λi n v=>by
    have:=(b.1.2.2.1 i n v).1;rw[bK,d7,qV];exact this]
   rfl
 |i+1,d,[],c,a,h,m,b,l=>by simp at l
 |_,_,[],_,_::_,_,_,b,_=>b.elim
 |_,_,_::_,_,[],_,_,b,_=>b.elim
theorem tD{a c:List Nat}{d:Nat}(b:d∈a)(e:d∈c):meets a c=true:=by
 induction a with
 |nil=>cases b
 |cons g a f=>
  simp only[meets];cases h:has c g with
  |true=>rfl
  |false=>
   rcases d0.1 b with rfl |b
   ·exact absurd e (nA h)
   ·exact f b
theorem Ny{f:List Oper}{j:Lg}{h:Nat}:∀{d:List Lg} {c i:Nat} {b:Lg},vK f j h c d=true->d[i]? =c5 b->mm j b=true->before f (len f) (c+i) h=true
 |[],_,_,_,_,a,_=>by simp at a
 |b::d,c,0,l,a,e,g=>by
  simp at e;subst e;simp only[vK] at a;obtain⟨k,_⟩:=fu a;rw[g] at k;exact k
 |b::d,c,i+1,l,a,e,g=>by
  simp only[vK] at a;obtain⟨_,m⟩:=fu a;have:=Ny m (by simpa using e) g;rw[show c+(i+1)=c+1+i by omega];exact this
theorem Jn{g:List Oper}:∀{f pre:List Lg} {d:Nat},n4 g pre d f=true->pre.length=d->∀i e c b,d<=i->(pre++f)[i]? =c5 e->(pre++f)[c]? =c5 b->c<i->mm e b=true->before g (len g) c i=true
 |[],pre,d,_,k,i,e,c,b,o,a,_,_,_=>by
  have:=c9 a;simp at this;omega
 |r::f,pre,d,j,k,i,e,c,b,o,a,h,n,l=>by
  simp only[n4] at j;obtain⟨q,p⟩:=fu j
  by_cases m:i=d
  ·subst m;rw[d1 (by omega)] at a;rw[show i -pre.length=0 by omega] at a;simp at a;subst a;rw[d2 (by omega)] at h;have:=Ny q h l
   rwa [d8] at this
  ·refine Jn (pre:=aX pre [r]) p (by simp[bK,k]) i e c b (by omega) ?_ ?_ n l
   ·rw[bK,d3];exact a
   ·rw[bK,d3];exact h
theorem IG{b:Edge}:∀{d:List Edge},b∈d->hS .any b=true->b.on∈iw d
 |e::d,a,c=>by
  simp only[iw];rcases d0.1 a with rfl |a
  ·rw[c];simp
  ·cases hS .any e with
   |true=>simp[IG a c]
   |false=>simpa using IG a c
 |[],a,_=>by cases a
theorem G3{g:Nat}:∀{e:List Edge},g∈iw e->∃b,b∈e/\hS .any b=true/\b.on=g
 |h::e,a=>by
  simp only[iw] at a;cases d:hS .any h with
  |true=>
   rw[d] at a;rcases d0.1 a with rfl |a
   ·exact⟨h,by simp,d,rfl⟩
   ·obtain⟨b,f,c⟩:=G3 a;exact⟨b,c7 _ f,c⟩
  |false=>
   rw[d] at a;obtain⟨b,f,c⟩:=G3 a;exact⟨b,c7 _ f,c⟩
 |[],a=>by cases a
theorem JZ{p:Nat->Bool}:∀{c:List Nat},oF p c=true->∃b,b∈c/\p b=true
 |d::c,a=>by
  simp only[oF] at a;cases e:p d with
  |true=>exact⟨d,by simp,e⟩
  |false=>
   rw[e] at a;obtain⟨b,g,f⟩:=JZ a;exact⟨b,c7 _ g,f⟩
 |[],a=>by cases a
theorem RV{p:Nat->Bool}:∀{d:List Nat},oF p d=false->∀b,b∈d->p b=false
 |f::d,a,b,c=>by
  simp only[oF] at a;cases e:p f with
  |true=>rw[e] at a;cases a
  |false=>
   rw[e] at a;rcases d0.1 c with rfl |c
   ·exact e
   ·exact RV a b c
theorem I7{g:List Oper}{d:Nat->Bool}(h:∀i b,g[i]? =c5 b->d i=true->∀c,c∈iw b.after.toList->d c=true):∀{f i e:Nat},before g f i e=true->d e=true->d i=true
 |0,_,_,a,_=>by simp[before] at a
 |f+1,i,e,a,o=>by
  simp only[before] at a
  split at a
  ·rename_i b k;rw[cJ] at k;have j:=h e b k o;cases l:has (iw b.after.toList) i with
   |true=>exact j i ((oO _ _).1 l)
   |false=>
    rw[l] at a;obtain⟨c,n,m⟩:=JZ a;exact I7 h m (j c n)
  ·cases a
theorem U6{e:List Oper}{d:Nat->Bool}(k:∀i b,e[i]? =c5 b->d i=true->∀a,a∈iw b.after.toList->d a=true){f i h:Nat}{b:Oper}(m:e[h]? =c5 b)(g:∀a,a∈iw b.after.toList->d a=true)(c:before e f i h=true):d i=true:=by
 cases f with
 |zero=>simp[before] at c
 |succ f=>
  simp only[before,cJ,m] at c;cases j:has (iw b.after.toList) i with
  |true=>exact g i ((oO _ _).1 j)
  |false=>
   rw[j] at c;obtain⟨a,n,l⟩:=JZ c;exact I7 k l (g a n)
theorem Ns:∀{g:List Oper} {c i:Nat} {f:Oper},m7 c g=true->g[i]? =c5 f->∀b,b∈iw f.after.toList->b<c+i
 |j::g,c,0,f,a,d,b,h=>by
  simp at d;subst d;simp only[m7] at a;cases e:oF (λb=>hY c b) (iw j.after.toList) with
  |true=>rw[e] at a;cases a
  |false=>
   have:=RV e b h;rw[g3];rcases f8 b c with a |a
   ·exact a
   ·rw[fe a] at this;cases this
 |j::g,c,i+1,f,a,d,b,h=>by
  simp only[m7] at a;cases e:oF (λb=>hY c b) (iw j.after.toList) with
  |true=>rw[e] at a;cases a
  |false=>
   rw[e] at a;have:=Ns a (by simpa using d) b h;omega
 |[],_,_,_,_,d,_,_=>by simp at d
theorem vZ{f:Nat->Type}{all:List Oper}:∀{l:List Oper} {ts:List (Option (cr f))} {i:Nat} {d:Oper} {e:Option (cr f)},l[i]? =c5 d->ts[i]? =c5 e->(mF all l ts)[i]? =c5 (fG all d e)
 |g::l,b::ts,0,d,e,a,c=>by simp at a c;subst a;subst c;rfl
 |g::l,b::ts,i+1,d,e,a,c=>by
  have:=vZ (all:=all) (l:=l) (ts:=ts) (i:=i) (by simpa using a) (by simpa using c);simpa[mF] using this
 |[],_,_,_,_,a,_=>by simp at a
 |_::_,[],_,_,_,_,c=>by simp at c
theorem J8{c:Type}:∀(a b:List c),nf a b=a.reverse++b
 |[],_=>rfl
 |d::a,b=>by simp[nf,J8 a]
end
theorem countP_set{b i:Nat}{p q:Nat->Bool}(k:i<b)(j:p i=false)(f:q i=true)(c:∀a,a<b->a≠i->p a=q a):(eo b).countP q=(eo b).countP p+1:=by
 induction b with
 |zero=>omega
 |succ b h=>
  rw[List.range_succ,List.countP_append,List.countP_append]
  by_cases e:i=b
  ·subst e;rw[List.countP_congr (l:=eo i) (p:=q) (q:=p) λa d=>by rw[c a (by have:=fd.1 d;omega) (by have:=fd.1 d;omega)]];simp[j,f]
  ·rw[h (by omega) λa d g=>c a (by omega) g];have:=c b (by omega) (λc=>e c.symm);simp[List.countP_cons,this];omega
section
variable {P : Program} {B : Tb}
theorem LB{W nn:Nat}{d:List Oper}{Q:fE}{u al:St B.D}{e:List (Option (cr B.D))}(a1:l6 P B d d u e al)(bL:m7 0 d=true)(bo:n4 d [] 0 (mF d d e)=true)
 (bM:∀j,j∈d->fL W j.dst=true) (bB:Q .normal (aU B al.E) (av B al.H)):∀au aD ad,Rel au W (aU B u.E) (av B u.H) aD ad->∀Y:Exit->Act->World->Prop,(∀A Z H,eI W nn au (av B u.H) ad Q A Z H->Y A Z H)->wpAny P .any d.toArray Y d.toArray.size (ft d.toArray.size false) aD {ad with drawn:=ad.drawn+1}:=by
 intro au aD ad bE Y b2;obtain⟨cc,ba,a7⟩:=LO a1
 let n:=d.length
 let H0:=aX u.H (dx (jH e))
 have a9:∀i,i<=n->∃K,eA (λa=>c3 (a<i)) 0 e H0=aX (gT d e i u).H (dx K)/\(∀o,e[i]? =c5 o->xL o<=K)/\(i=n->K=0):=λi J=>by
  obtain⟨K,x,y,aF⟩:=QS i 0 (m:=0) a1 J;rw[d8,d8,d8] at x;exact⟨K,x,y,aF⟩
 have aK:∀i,gN (λa=>c3 (a<i)) 0 d e u.E=(gT d e i u).E:=λi=>by
  have:=Nt i 0 d e u
  rwa [d8] at this
 let ay:Array Bool->Act->World->Prop:=λbN h w=>bN.size=n/\(∀i j,d[i]? =c5 j->bN.getD i false=true->∀m,m∈iw j.after.toList->bN.getD m false=true)/\
  ∃g,Rel g W (aU B (gN (λa=>bN.getD a false) 0 d e u.E)) (av B (eA (λa=>bN.getD a false) 0 e H0)) h w/\Bml.GStep nn au (av B u.H) ad g (av B (eA (λa=>bN.getD a false) 0 e H0)) w
 have bx:∀{g:Gh} {N:List aO} {h:Act} {w:World} {bl bm:En B.D},fI g N w W (aU B bl) h->(∀o,lk bm o=lk bl o)->fI g N w W (aU B bm) h:=λk A=>⟨k.defers,k.size,λo=>by rw[ep,A o, <-ep];exact k.at_ o⟩
 have bb:∀{bn bk:List (Ob B.D)},(∀i,nth bn i=nth bk i)->bn=bk:=λk=>List.ext_getElem? λi=>by rw[<-cJ, <-cJ,k i]
 have fin:∀bN h w,ay bN h w->(∀i,i<n->bN.getD i false=true)->Y .normal h w:=by
  rintro bN h w ⟨U,_,g,V,ax⟩ ar;have ag:eA (λa=>bN.getD a false) 0 e H0=al.H:=by
   obtain⟨K,x,_,aF⟩:=a9 n (dt _);rw[aF rfl] at x;have:eA (λa=>bN.getD a false) 0 e H0=eA (λa=>c3 (a<n)) 0 e H0:=bb λi=>vT e 0 _ _ rfl (λa o p _=>by
    rw[d8];have:=c9 p;rw[ar a (by show a<d.length;omega)];simp;show a<d.length
    omega) rfl
   rw[this,x,ba];simp[dx,bK]
  have aC:∀o,lk al.E o=lk (gN (λa=>bN.getD a false) 0 d e u.E) o:=λo=>by
   rw[<-ba, <-aK];refine vg d 0 e _ _ (λa j p _=>?_) rfl
   rw[d8];have:=c9 p;rw[ar a this];simpa using this
  rw[ag] at V ax;exact b2 .normal h w ⟨_,_,g,bB,⟨V.m,bx V.e aC⟩,ax⟩
 have b5:∀bN:Array Bool,bN.size=n->Region.ready .any d.toArray bN=[]->∀i,i<n->bN.getD i false=true:=by
  intro bN U X i
  induction i using Nat.strongRecOn with
  |_ i ac=>
   intro J;cases E:bN.getD i false with
   |true=>rfl
   |false=>
    exfalso
    have G:d[i]? =c5 d[i]:=c4 J;have:i∈Region.ready .any d.toArray bN:=by
     refine List.mem_filter.2 ⟨fd.2 (by simpa using J),?_⟩
     have bD:bN.getD i true=false:=by
      have T:i<bN.size:=by omega
      simp[T] at E⊢;exact E
     simp only[bD,Bool.not_false,Bool.true_and,ey,G,hM,Option.getD_some];rw[Array.all_eq_true];intro q ca;have aT:d[i].after[q]∈d[i].after:=Array.getElem_mem ca;cases bt:hS .any d[i].after[q] with
     |false=>rfl
     |true=>
      have az:=Ns bL G _ (IG (g5.2 aT) bt);rw[d8] at az;simp[ac _ az (by omega)]
    rw[X] at this;cases this
 have step:∀bN h w i j,ay bN h w->d[i]? =c5 j->bN.getD i false=false->(∀m,m∈iw j.after.toList->bN.getD m false=true)->∀ae:Act->World->Prop,(∀Z H,ay (bN.setIfInBounds i true) Z H->ae Z H)->wpOp P d.toArray Y i ae h w:=by
  rintro bN h w i j ⟨U,aY,g,V,ax⟩ G aa a3 ae bZ;have T:=c9 G;obtain⟨o,af,aN⟩:=a7 i j G;have bi:∀a s l,d[a]? =c5 l->e[a]? =c5 s->a<i->mm (fG d j o) (fG d l s)=true->bN.getD a false=true:=λa s l p R aH C=>by
   have E:=Jn bo rfl i _ a _ (hK _) (vZ G af) (vZ p R) aH C;exact U6 aY G a3 E
  have a0:∀a s l,d[a]? =c5 l->e[a]? =c5 s->i<a->mm (fG d l s) (fG d j o)=true->bN.getD a false=false:=λa s l p R aH C=>by
   have E:=Jn bo rfl a _ i _ (hK _) (vZ p R) (vZ G af) aH C;cases bO:bN.getD a false with
   |false=>rfl
   |true=>
    have:=I7 aY E bO;rw[this] at aa;cases aa
  have aA:∀{h b:Lg},(∃c,c∈h.wr/\c∈b.rd)\/(∃c,c∈h.wr/\c∈b.wr)\/(∃c,c∈b.wr/\c∈h.rd)\/(∃c,c∈h.wt/\c∈b.rt)\/(∃c,c∈h.wt/\c∈b.wt)\/(∃c,c∈b.wt/\c∈h.rt)->mm h b=true:=λ{h b} k=>by
   unfold mm;rcases k with⟨c,x,y⟩ |⟨c,x,y⟩ |⟨c,x,y⟩ |⟨c,x,y⟩ |⟨c,x,y⟩ |⟨c,x,y⟩
   ·rw[tD x y];rfl
   ·rw[tD x y];cases meets h.wr b.rd <;> rfl
   ·rw[tD x y];cases meets h.wr b.rd <;> cases meets h.wr b.wr <;> rfl
   ·rw[tD x y];cases meets h.wr b.rd <;> cases meets h.wr b.wr <;> cases meets b.wr h.rd <;> rfl
   ·rw[tD x y];cases meets h.wr b.rd <;> cases meets h.wr b.wr <;> cases meets b.wr h.rd <;> cases meets h.wt b.rt <;> rfl
   ·rw[tD x y];cases meets h.wr b.rd <;> cases meets h.wr b.wr <;> cases meets b.wr h.rd <;> cases meets h.wt b.rt <;> cases meets h.wt b.wt <;> rfl
  have ap:∀(l:Oper) (s:Option (cr B.D)) (c:Nat),l.dst=c5 c->c∈(fG d l s).wt:=λl s c r=>by
   cases s <;> simp[fG,rV,xo,yI,r]
  have am:∀(l:Oper) (s:Option (cr B.D)) (c:Nat),c∈eV (jM s)->c∈(fG d l s).wr:=λl s c r=>by
   cases s with
   |none=>cases r
   |some D=>exact r
  have aZ:∀c,c∈(fG d j o).rt\/c∈(fG d j o).wt->∀a l,d[a]? =c5 l->l.dst=c5 c->bN.getD a false=c3 (a<i):=λc r a l p M=>by
   have bc:=c9 p;obtain⟨s,R,_⟩:=a7 a l p;rcases Nat.lt_trichotomy a i with k |k |k
   ·have C:mm (fG d j o) (fG d l s)=true:=aA (by
     rcases r with r |r
     ·exact .inr (.inr (.inr (.inr (.inr ⟨c,ap l s c M,r⟩))))
     ·exact .inr (.inr (.inr (.inr (.inl ⟨c,r,ap l s c M⟩)))))
    rw[bi a s l p R k C];simp[k]
   ·subst k;rw[aa];simp
   ·have C:mm (fG d l s) (fG d j o)=true:=aA (by
     rcases r with r |r
     ·exact .inr (.inr (.inr (.inl ⟨c,ap l s c M,r⟩)))
     ·exact .inr (.inr (.inr (.inr (.inl ⟨c,ap l s c M,r⟩)))))
    rw[a0 a s l p R k C];simp;omega
  have be:∀c,c∈(fG d j o).rd\/c∈(fG d j o).wr->∀a s,e[a]? =c5 s->c∈eV (jM s)->bN.getD a false=c3 (a<i):=λc r a s R O=>by
   have bc:a<d.length:=by have:=c9 R;omega
   have p:d[a]? =c5 d[a]:=c4 bc;rcases Nat.lt_trichotomy a i with k |k |k
   ·have C:mm (fG d j o) (fG d d[a] s)=true:=aA (by
     rcases r with r |r
     ·exact .inr (.inr (.inl ⟨c,am _ s c O,r⟩))
     ·exact .inr (.inl ⟨c,r,am _ s c O⟩))
    rw[bi a s _ p R k C];simp[k]
   ·subst k;rw[aa];simp
   ·have C:mm (fG d d[a] s) (fG d j o)=true:=aA (by
     rcases r with r |r
     ·exact .inl ⟨c,am _ s c O,r⟩
     ·exact .inr (.inl ⟨c,am _ s c O,r⟩))
    rw[a0 a s _ p R k C];simp;omega
  have aQ:∀c,c∈(fG d j o).rt\/c∈(fG d j o).wt->lk (gN (λa=>bN.getD a false) 0 d e u.E) c=lk (gT d e i u).E c:=λc r=>by
   rw[<-aK];exact vg d 0 e _ _ (λa l p M=>by rw[d8];exact aZ c r a l p M) rfl
  obtain⟨K,aI,b3,_⟩:=a9 i (Nat.le_of_lt T);have bj:∀c,c∈(fG d j o).rd\/c∈(fG d j o).wr->nth (eA (λa=>bN.getD a false) 0 e H0) c=nth (aX (gT d e i u).H (dx K)) c:=λc r=>by
   rw[<-aI];exact vT e 0 _ _ rfl (λa s p O=>by rw[d8];exact be c r a s p O) rfl
  have an:∀a,(bN.setIfInBounds i true).getD a false=if a=i then true else bN.getD a false:=λa=>by
   by_cases A:a=i
   ·subst A;have:a<bN.size:=by omega
    simp[this]
   ·simp[A,hB (Ne.symm A)]
  have b7:∀z ok,d[z]? =c5 ok->(bN.setIfInBounds i true).getD z false=true->∀m,m∈iw ok.after.toList->(bN.setIfInBounds i true).getD m false=true:=λz ok ak x m a2=>by
   rw[an] at x⊢
   split
   ·rfl
   ·by_cases A:z=i
    ·subst A;rw[G] at ak;injection ak with ak
     subst ak;exact a3 m a2
    ·rw[if_neg A] at x;exact aY z ok ak x m a2
  have bX:=RW (S:=u) G af;have bU:∀c,lk (gN (λa=>(bN.setIfInBounds i true).getD a false) 0 d e u.E) c=if j.dst=c5 c then wq o else lk (gN (λa=>bN.getD a false) 0 d e u.E) c:=λc=>by
   by_cases M:j.dst=c5 c
   ·rw[if_pos M];have:lk (gN (λa=>(bN.setIfInBounds i true).getD a false) 0 d e u.E) c=lk (gN (λa=>c3 (a<i+1)) 0 d e u.E) c:=vg d 0 e _ _ (λa l p aG=>by
     rw[d8,an]
     by_cases A:a=i
     ·rw[if_pos A];simp;omega
     ·rw[if_neg A,aZ c (.inr (ap j o c M)) a l p aG]
      by_cases k:a<i
      ·simp[k];omega
      ·have y:¬a<i+1:=by omega
       simp[k,y]) rfl
    rw[this,aK,bX,Td,td,if_pos M]
   ·rw[if_neg M];refine vg d 0 e _ _ (λa l p aG=>?_) rfl
    rw[d8,an,if_neg];rintro rfl;rw[G] at p;injection p with p
    subst p;exact M aG
  have aT:eA (λa=>(bN.setIfInBounds i true).getD a false) 0 e H0=b8 (eA (λa=>bN.getD a false) 0 e H0) (jM o):=bb λc=>by
   by_cases r:c∈eV (jM o)
   ·have a4:c∈(fG d j o).wr:=am j o c r;have ag:nth (eA (λa=>(bN.setIfInBounds i true).getD a false) 0 e H0) c=nth (eA (λa=>c3 (a<i+1)) 0 e H0) c:=vT e 0 _ _ rfl (λa s p O=>by
     rw[d8,an]
     by_cases A:a=i
     ·rw[if_pos A];simp;omega
     ·rw[if_neg A,be c (.inr a4) a s p O]
      by_cases k:a<i
      ·simp[k];omega
      ·have y:¬a<i+1:=by omega
       simp[k,y]) rfl
    have aC:nth (eA (λa=>c3 (a<i+1)) 0 e H0) c=nth (b8 (eA (λa=>c3 (a<i)) 0 e H0) (jM o)) c:=by
     have bz:∀(e:List (Option (cr B.D))) (z i:Nat) (N:List (Ob B.D)) (o:Option (cr B.D)),e[i]? =c5 o->eA (λa=>c3 (a<z+i+1)) z e N=b8 (eA (λa=>c3 (a<z+i)) z e N) (jM o):=λe=>by
      induction e with
      |nil=>intro z i N o k;simp at k
      |cons t e ac=>
       intro z i N o k;cases i with
       |zero=>
        simp at k;subst k;simp only[eA];rw[if_pos (by simp),if_neg (by simp),vP e (z+1) _ λa p=>by simp;omega,vP e (z+1) _ λa p=>by simp;omega]
       |succ i=>
        simp only[eA];rw[if_pos (by simp;omega),if_pos (by simp)];have:=ac (z+1) i (b8 N (jM t)) o (by simpa using k);rw[show z+1+i+1=z+(i+1)+1 by omega,show z+1+i=z+(i+1) by omega] at this;exact this
     have:=bz e 0 i H0 o af;rw[d8] at this;rw[this]
    rw[ag,aC];exact Fu (by rw[xq,xq]) (by rw[bj c (.inr a4),aI])
   ·rw[Fk λj aL=>r (O2 aL)];refine vT e 0 _ _ rfl (λa s p O=>?_) rfl
    rw[d8,an,if_neg];rintro rfl;rw[af] at p;injection p with p
    subst p;exact r O
  have bV:fL W j.dst=true:=bM j (dT G);have done:∀(ab:Gh) (c:Value) (H:World),bF ab (av B (b8 (eA (λa=>bN.getD a false) 0 e H0) (jM o))) H->VR ab (av B (b8 (eA (λa=>bN.getD a false) 0 e H0) (jM o))) H (pv B (wq o)) c->
   Bml.GStep (av B (eA (λa=>bN.getD a false) 0 e H0)).length g (av B (eA (λa=>bN.getD a false) 0 e H0)) w ab (av B (b8 (eA (λa=>bN.getD a false) 0 e H0) (jM o))) H->ae (h.put j.dst c) H:=λab c H aw aM aj=>by
   have X:=(V.e.step aj).tn bV aM;rw[<-aT] at aw aj X;refine bZ _ _ ⟨by simpa using U,b7,ab,⟨aw,⟨X.defers,X.size,λc=>?_⟩⟩,ax.trans aj.every⟩
   rw[ep,bU c];have:=X.at_ c;rw[<-sx,ep,td] at this;exact this
  have bH:∀D,o=c5 D->j.wp P h w ae Y:=λD bv=>by
   subst bv;obtain⟨_,bR,bW,bQ⟩:=aN;have bA:Ag j.op (aX D.rd (eV D.wr)) (gT d e i u).E (gN (λa=>bN.getD a false) 0 d e u.E) (aX (gT d e i u).H (dx D.nw)) (eA (λa=>bN.getD a false) 0 e H0):=by
    have cf:D.nw<=K:=b3 _ af;refine⟨λc r=>?_,λc r=>?_,?_⟩
    ·cases c with
     |tmp t=>
      refine aQ t (.inl ?_)
      show t∈aX (sZ d j) (tmpsOf j.op.operands.toList)
      rw[bK,c6];exact .inr (LD (g5.2 r))
     |const v=>rfl
     |global b=>rfl
     |func f=>rfl
    ·rw[bK,c6] at r;have az:c<(gT d e i u).H.length+D.nw:=by
      rcases r with r |r
      ·have:=bQ c r;omega
      ·obtain⟨b9,bC⟩:=Vc r;exact(bW c b9 bC).1
     rw[bj c r,show K=D.nw+(K -D.nw) by omega,MM,show aX (gT d e i u).H (aX (dx D.nw) (dx (K -D.nw)))=aX (aX (gT d e i u).H (dx D.nw)) (dx (K -D.nw)) by simp[bK]];rw[cJ,cJ,bK,d2];rw[bK,d7,qV];exact az
    ·have ag:=congrArg List.length aI;rw[xq,bK,d7,qV] at ag;rw[xq,bK,d7,qV,ag];omega
   have cb:=bR j.dst j.type j.pos j.after _ _ bA;refine cb g W h w V ae Y ?_
   rintro c H ab cd ce ⟨rfl,rfl⟩ aM aw aj;exact done ab c H aw aM aj
  have bq:∀a F l t,j.guard=c5 (a,F)->nth d a=c5 l->l.dst=c5 t->t∈(fG d j o).rt:=λa F l t I p L=>by
   have:t∈sZ d j:=by simp[sZ,I,p,yI,L]
   cases o with
   |none=>exact this
   |some D=>
    show t∈aX (sZ d j) _
    rw[bK,c6];exact .inl this
  have bI:∀(g:Gh) (N:List aO) (w:World),VR g N w (.bu []) undef:=λg N w=>.aW (.bu [] [] rfl (by simp))
  have bd:∀a F l t b,j.guard=c5 (a,F)->nth d a=c5 l->l.dst=c5 t->lk (gT d e i u).E t= .bool b->yielded d.toArray h.tmps a=c5 b:=λa F l t b I p L E=>by
   have ai:=V.e.at_ t;rw[ep,aQ t (.inl (bq a F l t I p L)),E] at ai;have aJ:=ai.n5;unfold yielded;rw[ey, <-cJ,p];simp only[i7,L];rcases f8 t h.tmps.size with aq |aS
   ·simp[aq] at aJ;simp[aq,aJ]
   ·simp[gc aS,undef] at aJ
  have bJ:∀a F l t,j.guard=c5 (a,F)->nth d a=c5 l->l.dst=c5 t->lk (gT d e i u).E t= .bu []->yielded d.toArray h.tmps a=d9:=λa F l t I p L E=>by
   have ai:=V.e.at_ t;rw[ep,aQ t (.inl (bq a F l t I p L)),E] at ai;obtain⟨ao,a8,b4,_⟩:=VR.Db ai;have bT:ao=[]:=d4 (by rw[<-b4];rfl);subst bT;unfold yielded;rw[ey, <-cJ,p];simp only[i7,L];rcases f8 t h.tmps.size with aq |aS
   ·simp[aq] at a8;simp[aq,a8]
   ·simp[gc aS]
  have b6:Bml.GStep (av B (eA (λa=>bN.getD a false) 0 e H0)).length g (av B (eA (λa=>bN.getD a false) 0 e H0)) w g (av B (eA (λa=>bN.getD a false) 0 e H0)) w:=Bml.GStep.refl _ _ _ _;unfold wpOp;rw[ey,G];simp only;cases o with
  |some D=>
   have aE:h7 j (yielded d.toArray h.tmps)=true:=by
    rcases aN.1 with I |⟨a,F,l,t,I,p,L,E⟩
    ·simp[h7,I]
    ·simp[h7,I,bd a F l t F I p L E]
   rw[aE];exact .inl (bH D rfl)
  |none=>
   obtain⟨a,F,l,t,I,p,L,C⟩:=aN;have aE:h7 j (yielded d.toArray h.tmps)=false:=by
    rcases C with C |⟨b,E,aV⟩
    ·simp[h7,I,bJ a F l t I p L C]
    ·simp[h7,I,bd a F l t b I p L E,aV]
   rw[aE];simp only[Bool.false_eq_true,if_false];exact done g undef w V.m (bI _ _ _) b6
 have b1:∀(ah:Nat) (bN:Array Bool) (h:Act) (w:World),ay bN h w->(eo n).countP (λa=>bN.getD a false)+ah=n->wpAny P .any d.toArray Y ah bN h w:=by
  intro ah
  induction ah with
  |zero=>
   intro bN h w J C;have ar:∀i,i<n->bN.getD i false=true:=λi T=>by
    have br:(eo n).countP (λa=>bN.getD a false)=(eo n).length:=by rw[List.length_range];omega
    exact List.countP_eq_length.1 br i (fd.2 T)
   refine⟨?_,fin bN h w J ar⟩
   unfold Region.ready;refine List.filter_eq_nil_iff.2 λi aR=>?_
   have T:i<n:=by simpa using aR
   have bh:=ar i T;have:bN.getD i true=true:=by
    have U:i<bN.size:=by have:=J.1;omega
    simp[U] at bh⊢;exact bh
   simp[this]
  |succ ah ac=>
   intro bN h w J C;refine⟨λX=>fin bN h w J (b5 bN J.1 X),λi bs=>?_⟩
   have bf:=List.mem_filter.1 bs;have T:i<n:=by simpa using bf.1
   have G:d[i]? =c5 d[i]:=c4 T;have aP:=bf.2;simp only[ey,G,hM,Option.getD_some,ga,Bool.not_eq_true'] at aP;have aa:bN.getD i false=false:=by
    have x:=aP.1;have U:i<bN.size:=by have:=J.1;omega
    simp[U] at x⊢;exact x
   refine step bN h w i d[i] J G aa (λm bw=>?_) _ (λZ H aR=>ac _ Z H aR ?_)
   ·obtain⟨A,bP,E,rfl⟩:=G3 bw;have y:=Array.all_eq_true'.1 aP.2 A (g5.1 bP);simpa[E] using y
   ·have:(eo n).countP (λa=>(bN.setIfInBounds i true).getD a false)=(eo n).countP (λa=>bN.getD a false)+1:=by
     refine countP_set T aa ?_ λa p aV=>?_
     ·have U:i<bN.size:=by have:=J.1;omega
      simp[U]
     ·simp[hB (Ne.symm aV)]
    omega
 obtain⟨b0,x,a6⟩:=G6 (B:=B) (n:=nn) (jH e) bE;rw[<-Mc] at x a6;obtain⟨a5,bY⟩:=Ez (m:=(av B (aX u.H (dx (jH e)))).length) x.m;have aB:∀a,(ft d.toArray.size false).getD a false=false:=λa=>by
  rcases f8 a d.length with k |k
  ·simp[k]
  ·simp[gc,k]
 have bS:gN (λa=>(ft d.toArray.size false).getD a false) 0 d e u.E=u.E:=IR _ _ _ _ λa _=>aB a
 have bp:eA (λa=>(ft d.toArray.size false).getD a false) 0 e H0=H0:=vP _ _ _ λa _=>aB a
 refine b1 _ _ _ _ ⟨by simp[n],λi j J k=>?_,b0,?_,?_⟩ ?_
 ·rw[aB] at k;cases k
 ·rw[bS,bp];exact⟨bY,x.e.step a5⟩
 ·rw[bp];exact a6.trans a5.every
 ·have:(eo n).countP (λa=>(ft d.toArray.size false).getD a false)=0:=by
   rw[List.countP_eq_zero];intro a _;rw[aB];simp
  rw[this];simp[n]
where
 LD {t:Nat}:∀{ao:List Operand},Operand.tmp t∈ao->t∈tmpsOf ao
  |c::ao,k=>by
   rcases d0.1 k with rfl |k
   ·simp[tmpsOf]
   ·have:=LD k;cases c <;> simp[tmpsOf,this]
  |[],k=>by cases k
 Vc {α:Type} {d:List (Nat×α)} {i:Nat} (k:i∈eV d):∃j,(i,j)∈d:=by
  induction d with
  |nil=>cases k
  |cons h d ac=>
   rcases d0.1 k with rfl |k
   ·exact⟨h.2,by simp⟩
   ·obtain⟨j,aL⟩:=ac k;exact⟨j,c7 _ aL⟩
theorem abH{d nn id:Nat}{a:List Oper}{Q:fE}{b c:St B.D}{f:List (Option (cr B.D))}(i:P.follows .mixedOrders=true)(r:l6 P B a a b f c)(p:m7 0 a=true)(l:n4 a [] 0 (mF a a f)=true)
 (k:∀e,e∈a->fL d e.dst=true) (h:Q .normal (aU B c.E) (av B c.H)):eT P d nn (.region id a.toArray true) Q (aU B b.E) (av B b.H):=λn o m j g q=>wp_region_any i (LB r p l k h n o m j g q)
end
end Go.X
namespace Go.Bml
open Go
def LW(P:Program)(c:Code)(Q:Exit->Act->World->Prop)(a:Act)(w:World):Prop:=
 ∀b h g,∃e f d,Q e f d/\Arrives P (lone (b.at a (.code c:: .inLoop c::h)) g w) b h g e f d
section
variable {P : Program} {Q : Exit → Act → World → Prop} {a : Act} {w : World} {c : Code}
theorem UU(d:LW P c Q a w):(Code.loop c).wp P Q a w:=by
 intro b k j;obtain⟨g,h,e,f,i⟩:=d b k j;exact⟨g,h,e,f,.of_steps (.one step_loop) i⟩
theorem NU(j:c.wp P (Exit.then (LW P c Q) Q) a w):LW P c Q a w:=by
 intro b i h;obtain⟨k,g,f,d,e⟩:=j b (.inLoop c::i) h;cases k with
 |normal=>
  obtain⟨q,p,m,o,l⟩:=d b i h;exact⟨q,p,m,o,.of_steps (Steps.trans e (.one step_inLoop)) l⟩
 |exit t=>exact⟨_,g,f,d,.pass (x:=.inLoop c) rfl (λ_ _=>.inl (by simp)) e⟩
 |goto s=>exact⟨_,g,f,d,.pass (x:=.inLoop c) rfl (λ_ _=>.inl (by simp)) e⟩
 |ret=>exact⟨_,g,f,d,.pass (x:=.inLoop c) rfl (λ_ _=>.inl (by simp)) e⟩
 |panic r=>exact⟨_,g,f,d,.pass (x:=.inLoop c) rfl (λ_ _=>.inl (by simp)) e⟩
 |outgrown=>exact⟨_,g,f,d,.pass (x:=.inLoop c) rfl (λ_ _=>.inl (by simp)) e⟩
theorem ad3(g:Nat->Act->World->Prop)(round:∀n a w,g n a w->c.wp P (Exit.then (λf e=>∃d,d<n/\g d f e) Q) a w):∀n a w,g n a w->LW P c Q a w:=by
 intro n
 induction n using Nat.strongRecOn with
 |_ n i=>
  intro a w k;refine NU (Code.wp_mono (λh f e b=>?_) (round n a w k))
  cases h with
  |normal=>
   obtain⟨d,l,j⟩:=b;exact i d l f e j
  |exit o=>exact b
  |goto m=>exact b
  |ret=>exact b
  |panic p=>exact b
  |outgrown=>exact b
end
section
variable {P : Program} {nt n : Nat} {Q : fE} {E : Env} {H : List aO}
def oE(P:Program)(nt n:Nat)(c:Code)(Q:fE)(E:Env)(H:List aO):Prop:=
 ∀g a w,Rel g nt E H a w->∀b:Exit->Act->World->Prop,(∀e f d,eI nt n g H w Q e f d->b e f d)->LW P c b a w
theorem Pz{c:Code}(b:oE P nt n c Q E H):eT P nt n (.loop c) Q E H:=λg a w f e d=>UU (b g a w f e d)
theorem oE.mono{c:Code}{j:fE}(h:oE P nt n c Q E H)(l:∀e E H,Q e E H->j e E H):oE P nt n c j E H:=λg a w o k t=>h g a w o k λe s m d=>t e s m (by cases e <;> first |exact iX.mono (l _) d |exact d)
theorem aiK{c:Code}(i:eT P nt n c (Ce (oE P nt n c Q) Q) E H):oE P nt n c Q E H:=by
 intro g a w k o d;refine NU (i g a w k _ ?_)
 intro e h p b;cases e with
 |normal=>
  obtain⟨u,v,r,m,j,l⟩:=b;exact m r h p j o λe s q f=>d e s q (eI.trans l f)
 |exit x=>exact d _ _ _ b
 |goto t=>exact d _ _ _ b
 |ret=>exact d _ _ _ b
 |panic c=>exact b.elim
 |outgrown=>exact b.elim
theorem QG{α:Type}{c:Code}(j:α->qk)(h:α->Nat)(k:α)(h0:j k E H)
 (round:∀b E H,j b E H->eT P nt n c (Ce (λp o=>∃f,h f<h b/\j f p o) Q) E H):oE P nt n c Q E H:=by
 intro g a w A J q;refine ad3 (λr m l=>∃b,h b=r/\iX nt n g H w (j b) m l) ?_ (h k) a w ⟨k,rfl,E,H,g,h0,A,GStep.refl _ _ _ _⟩
 rintro r m l ⟨b,rfl,p,o,x,v,D,i⟩;refine round b p o v x m l D _ ?_
 intro e I K d;cases e with
 |normal=>
  obtain⟨y,B,F,⟨f,s,u⟩,z,C⟩:=d;exact⟨h f,s,f,rfl,y,B,F,u,z,i.trans C⟩
 |exit G=>exact q _ _ _ (eI.trans (Q:=Q) (e:=.exit G) i d)
 |goto t=>exact q _ _ _ (eI.trans (Q:=Q) (e:=.goto t) i d)
 |ret=>exact q _ _ _ (eI.trans (Q:=Q) (e:=.ret) i d)
 |panic c=>exact d.elim
 |outgrown=>exact d.elim
end
end Go.Bml
namespace Go.X
open Go Go.Aml Go.Bml
theorem Tl{P:Program}{c d:Nat}{r:Code}{o m:fE}{q:Env}{i:List aO}(l:eT P c d r o q i)
 (u:∀a s n g j b,o a s n->Rel g c s n j b->∃k H2 f,m a k H2/\Rel f c k H2 j b/\Bml.GStep d g n b f H2 b):eT P c d r m q i:=by
 intro g j b y E G;refine l g j b y E λa h e p=>G a h e ?_
 have D:∀a,iX c d g i b (o a) h e->iX c d g i b (m a) h e:=λa l=>by
  obtain⟨F,H1,C,x,A,w⟩:=l;obtain⟨k,H2,f,t,v,z⟩:=u a F H1 C h e x A;exact⟨k,H2,f,t,v,w.trans z⟩
 cases a <;> first |exact D _ p |exact p
theorem Tc{f j:Nat->Nat->Prop}(e:∀r v,f r v->j r v){k:PV}(n:Wf f k):Wf j k:=by
 induction n with
 |any=>exact .any
 |bool b=>exact .bool b
 |int u q=>exact .int u q
 |str s=>exact .str s
 |fS=>exact .fS
 |bg=>exact .bg
 |z0=>exact .z0
 |dB=>exact .dB
 |dw a h=>exact .dw a h
 |vs o t=>exact .vs o t
 |ptr r v i h c=>exact .ptr r v i h (e _ _ c)
 |sl r v l len c=>exact .sl r v l len (e _ _ c)
 |fl r v c=>exact .fl r v (e _ _ c)
 |agg a _ d=>exact .agg a d
 |bu a _ d=>exact .bu a d
 |fn g a p _ _ d m=>exact .fn g a p d m
section
variable {P : Program} {B : Tb}
theorem Q8{n:Nat}{g:Gh}{c:St B.D}{o:Act}{t:World}(j:Rel g n (aU B c.E) (av B c.H) o t):Cz B c:=by
 have conv:∀r v,(∃d,(av B c.H)[r]? =c5 d/\v<=d.aF)->F0 c.H r v:=λr v ⟨d,e,f⟩=>by
  obtain⟨p,a,rfl⟩:=oU e;exact⟨p,a,by rwa [e7] at f⟩
 refine⟨λw=>?_,λq d i s u e h=>?_⟩
 ·have:=(j.e.at_ w).wf;rw[ep] at this;exact Tc conv this
 ·have a:=(j.m.obj q _ (df e)).mem;cases k:g.β q with
  |none=>
   rw[k] at a;rw[a] at h;obtain⟨A,m,_⟩:=gw h;simp at m
  |some x=>
   obtain⟨b,y⟩:=x;rw[k] at a;obtain⟨_,cells,_,_,_,_,l⟩:=a;obtain⟨z,_,_,f⟩:=l i s u h;exact Tc conv f.wf
theorem DH(o:cU P B){j:Type}{r:j}{k i:Nat}{a d:St B.D}{c:List Nat}{p:lD}{n:bi B.D p.bX->Option j}(z:Ext c a d)(v:i<=a.H.length)(q:Cz B a)(s:nW B i a c p d n=c5 r){g:Gh}{l:Act}{h:World}(f:Rel g k (aU B d.E) (av B d.H) l h):
 ∃b,n b=c5 r/\Ext c a (ik B a c p b)/\∃e,Rel e k (aU B (ik B a c p b).E) (av B (ik B a c p b).H) l h/\Bml.GStep i g (av B d.H) h e (av B (ik B a c p b).H) h:=by
 obtain⟨b,x,y,e,t,u,w⟩:=UJ o z v q s f.m;exact⟨b,x,y,e,⟨t,f.e.defers,f.e.size,λm=>by
  rw[ep];refine w m _ ?_
  have:=f.e.at_ m
  rwa [ep] at this⟩,u⟩
def Ends{g:Type}(B:Tb)(f:Nat->St B.D->Option g)(r:g)(d:St B.D)(e:List Nat):fE
 | .normal=>λc b=>∃a,Ext e d a/\f 0 a=c5 r/\c=aU B a.E/\b=av B a.H
 | .ret=>λc b=>∃a,Ext e d a/\f 1 a=c5 r/\c=aU B a.E/\b=av B a.H
 | .exit h=>λc b=>∃a,Ext e d a/\f (h+2) a=c5 r/\c=aU B a.E/\b=av B a.H
 |_=>λ_ _=>False
theorem Aa(s:cU P B){z:Type}{r:z}{C y:Nat}{c l:St B.D}{m:List Nat}(x:Ext m c l)(u:y<=c.H.length)(t:Cz B c){g:Gh}{D:Act}{o:World}(w:Rel g C (aU B l.E) (av B l.H) D o):
 ∀{os:List (Nat×lD)} {e:Nat} {k:qM B os->Option z},inj B y c m os e l k=c5 r->
  ∃n b,k n=c5 r/\Ext m c b/\(∀{I:Type} (d:Nat->St B.D->Option I),out B c m os n d=d e b)/\∃A,Rel A C (aU B b.E) (av B b.H) D o/\Bml.GStep y g (av B l.H) o A (av B b.H) o
 |[],e,k,a=>by simp[inj] at a
 |[p],e,k,a=>by
  simp only[inj] at a;obtain⟨f,E⟩:=a8 a;clear a;obtain rfl:=beq_eq f;obtain⟨v,i,j,h⟩:=DH s x u t E w;exact⟨v,_,i,j,λd=>rfl,h⟩
 |p::q::F,e,k,a=>by
  simp only[inj] at a;cases f:ee p.1 e with
  |true=>
   rw[f] at a;obtain rfl:=beq_eq f;obtain⟨v,i,j,h⟩:=DH s x u t a w;exact⟨.inl v,_,i,j,λd=>rfl,h⟩
  |false=>
   rw[f] at a;obtain⟨n,b,i,j,h,H⟩:=Aa s x u t w (os:=q::F) (k:=λG=>k (.inr G)) a;exact⟨.inr n,b,i,j,λd=>h d,H⟩
theorem Bv(I:cU P B){y:Type}{r:y}{v q:Nat}{f:Code}{Q:Hn}{c:St B.D}{s:Nat->St B.D->Option y}{A:{t:Type}->(Nat->St B.D->Option t)->Option t}(S:q<=c.H.length)(u:join B q c f Q s A=c5 r)
 (C:∀{t:Type} (F:Nat->St B.D->Option t) (z:t),A F=c5 z->eT P v q f (Ends B F z c (cQ f [])) (aU B c.E) (av B c.H)):eT P v q f (Ends B s r c (cQ f [])) (aU B c.E) (av B c.H):=by
 unfold join at u
 split at u
 ·exact C s r u
 ·rename_i p K aa;obtain⟨G,T,U⟩:=dv.1 u;intro J L H D;have M:=Q8 D;refine Tl (C _ G T) ?_ J L H D
  intro W X E g R w o V;have fin:∀x b,Ext (cQ f []) c b->inj B q c (cQ f []) (p::K) x b c5=c5 G->X=aU B b.E->E=av B b.H->∃a e,(Ext (cQ f []) c a/\s x a=c5 r)/\Rel e v (aU B a.E) (av B a.H) R w/\Bml.GStep q g E w e (av B a.H) w:=λx b l h n m=>by
   subst n;subst m;obtain⟨Z,a,d,i,k,N,j,O⟩:=Aa I l S M V h;injection d with d
   subst d;exact⟨a,N,⟨i,by rw[<-k s];exact U⟩,j,O⟩
  cases W with
  |normal=>
   obtain⟨b,l,h,n,m⟩:=o;obtain⟨a,e,⟨d,i⟩,k,j⟩:=fin 0 b l h n m;exact⟨_,_,e,⟨a,d,i,rfl,rfl⟩,k,j⟩
  |ret=>
   obtain⟨b,l,h,n,m⟩:=o;obtain⟨a,e,⟨d,i⟩,k,j⟩:=fin 1 b l h n m;exact⟨_,_,e,⟨a,d,i,rfl,rfl⟩,k,j⟩
  |exit Y=>
   obtain⟨b,l,h,n,m⟩:=o;obtain⟨a,e,⟨d,i⟩,k,j⟩:=fin (Y+2) b l h n m;exact⟨_,_,e,⟨a,d,i,rfl,rfl⟩,k,j⟩
  |goto _=>exact o.elim
  |panic _=>exact o.elim
  |outgrown=>exact o.elim
theorem Ends.mono{x C:Type}{w:Nat->St B.D->Option x}{D:Nat->St B.D->Option C}{r:x}{A:C}{s y:St B.D}{u m:List Nat}(n:Ext m y s)(l:∀t,t∈u->t∈m){e:Exit}{E:Env}{H:List aO}(o:∀e a,w e a=c5 r->D e a=c5 A)(h:Ends B w r s u e E H):Ends B D A y m e E H:=by
 cases e with
 |normal=>obtain⟨a,c,j,d,k⟩:=h;exact⟨a,n.trans (c.more l),o _ _ j,d,k⟩
 |ret=>obtain⟨a,c,j,d,k⟩:=h;exact⟨a,n.trans (c.more l),o _ _ j,d,k⟩
 |exit F=>obtain⟨a,c,j,d,k⟩:=h;exact⟨a,n.trans (c.more l),o _ _ j,d,k⟩
 |goto _=>exact h.elim
 |panic _=>exact h.elim
 |outgrown=>exact h.elim
theorem Bh{i:Nat}:∀(g:List Oper) (e:List Nat),i∈tI g e↔(∃f,f∈g/\f.dst=c5 i)\/i∈e
 |[],e=>by simp[tI]
 |f::g,e=>by
  simp only[tI];cases h:f.dst with
  |none=>
   simp only[Bh g e,d0]
   constructor
   ·rintro(⟨c,d,a⟩ |b)
    ·exact .inl ⟨c,.inr d,a⟩
    ·exact .inr b
   ·rintro(⟨c,rfl |d,a⟩ |b)
    ·rw[h] at a;cases a
    ·exact .inl ⟨c,d,a⟩
    ·exact .inr b
  |some j=>
   simp only[d0,Bh g e]
   constructor
   ·rintro(rfl |⟨c,d,a⟩ |b)
    ·exact .inl ⟨f,.inl rfl,h⟩
    ·exact .inl ⟨c,.inr d,a⟩
    ·exact .inr b
   ·rintro(⟨c,rfl |d,a⟩ |b)
    ·rw[h] at a;injection a with a;exact .inl a.symm
    ·exact .inr (.inl ⟨c,d,a⟩)
    ·exact .inr (.inr b)
theorem lV{d:Nat}:∀(e:Code) (a:List Nat),d∈cQ e a↔d∈cQ e []\/d∈a
 | .region _ f _,a=>by simp[cQ,Bh]
 | .seq c b,a=>by
  simp only[cQ];rw[lV c (cQ b a),lV b a,lV c (cQ b [])];simp only[or_assoc]
 | .cond _ c b,a=>by
  simp only[cQ];rw[lV c (cQ b a),lV b a,lV c (cQ b [])];simp only[or_assoc]
 | .block _ c,a=>lV c a
 | .loop c,a=>lV c a
 | .skip,a=>by simp[cQ]
 | .rangeFunc ..,a=>by simp[cQ]
 | .exit _,a=>by simp[cQ]
 | .scope _,a=>by simp[cQ]
 | .label _,a=>by simp[cQ]
 | .goto _,a=>by simp[cQ]
 | .ret,a=>by simp[cQ]
 | .refuse _,a=>by simp[cQ]
theorem PR{d:Nat}:∀{c:List Oper},Ej d c=true->∀b,b∈c->fL d b.dst=true
 |h::c,e,b,a=>by
  obtain⟨g,f⟩:=fu e;rcases d0.1 a with rfl |a
  ·exact g
  ·exact PR f b a
 |[],_,b,a=>by cases a
theorem gO(I:P.follows .mixedOrders=true)(o:cU P B){S:Lp}{V:List (aq B)}(J:∀z,z∈V->Fits P B z){F n:Nat}{C:List (Nat×Hn)}:
 ∀(z:Code) (p:Nat) {R:Type} (l:Nat->St B.D->Option R) (a:St B.D) (r:R),exec S B P V n C z p l a=c5 r->gB F z=true->n<=a.H.length->eT P F n z (Ends B l r a (cQ z [])) (aU B a.E) (av B a.H)
 | .skip,p,R,l,a,r,c,_,_=>amF ⟨a,.refl _ _,c,rfl,rfl⟩
 | .ret,p,R,l,a,r,c,_,_=>apz ⟨a,.refl _ _,c,rfl,rfl⟩
 | .exit id,p,R,l,a,r,c,_,_=>V4 ⟨a,.refl _ _,c,rfl,rfl⟩
 | .label a5,p,R,l,a,r,c,_,_=>agH ⟨a,.refl _ _,c,rfl,rfl⟩
 | .region id X aA,p,R,l,a,r,c,u,k=>by
  refine Bv o k c λ{am} t y E=>?_
  obtain⟨aY,i,aj,j⟩:=qg o J E;have aE:=PR (show Ej F X.toList=true from u);have m:Ext (cQ (.region id X aA) []) a i:=Pe aj λw aM a6 u=>(Bh X.toList []).2 (.inl ⟨w,aM,u⟩)
  rw[ef] at j;cases aA with
  |true=>
   obtain⟨al,j⟩:=a8 j;obtain⟨ac,j⟩:=a8 j;rw[J8,ef,List.reverse_reverse] at ac;have:=abH (nn:=n) (id:=id) (Q:=Ends B t y a (cQ (.region id X true) [])) I aj al ac aE ⟨i,m,j,rfl,rfl⟩
   rwa [g4] at this
  |false=>
   have:=Lc (id:=id) (yW (n:=n) (Q:=Ends B t y a (cQ (.region id X false) [])) aj aE ⟨i,m,j,rfl,rfl⟩)
   rwa [g4] at this
 | .seq d b,p,R,l,a,r,c,u,k=>by
  refine Bv o k c λ{am} t y E=>?_
  obtain⟨ao,ak⟩:=fu (show(bif gB F d then gB F b else false)=true from u);have L:=gO I o J d (2*p) _ a y E ao k;refine rN (L.mono λh D A e=>?_)
  have W:∀s,s∈cQ d []->s∈cQ (.seq d b) []:=λs K=>(lV d (cQ b [])).2 (.inl K)
  have an:∀s,s∈cQ b []->s∈cQ (.seq d b) []:=λs K=>(lV d (cQ b [])).2 (.inr K)
  cases h with
  |normal=>
   obtain⟨i,m,j,rfl,rfl⟩:=e;have af:=gO I o J b (2*p+1) t i y j ak (hP k m.len);exact af.mono λh D A e=>e.mono (m.more W) an λ_ _ c=>c
  |ret=>obtain⟨i,m,j,N,O⟩:=e;exact⟨i,m.more W,j,N,O⟩
  |exit id=>obtain⟨i,m,j,N,O⟩:=e;exact⟨i,m.more W,j,N,O⟩
  |goto _=>exact e.elim
  |panic _=>exact e.elim
  |outgrown=>exact e.elim
 | .cond z d b,p,R,l,a,r,c,u,k=>by
  refine Bv o k c λ{am} t y E=>?_
  obtain⟨ao,ak⟩:=fu (show(bif gB F d then gB F b else false)=true from u);have W:∀s,s∈cQ d []->s∈cQ (.cond z d b) []:=λs K=>(lV d (cQ b [])).2 (.inl K)
  have an:∀s,s∈cQ b []->s∈cQ (.cond z d b) []:=λs K=>(lV d (cQ b [])).2 (.inr K)
  split at E
  ·rename_i a2 aR;refine adk (by rw[Bw,aR];rfl) (λh=>?_) (λh=>?_)
   ·subst h;exact(gO I o J d (2*p) t a y E ao k).mono λh D A e=>e.mono (.refl _ _) W λ_ _ c=>c
   ·subst h;exact(gO I o J b (2*p+1) t a y E ak k).mono λh D A e=>e.mono (.refl _ _) an λ_ _ c=>c
  ·cases E
 | .block id d,p,R,l,a,r,c,u,k=>by
  refine Bv o k c λ{am} t y E=>?_
  have L:=gO I o J d (2*p) _ a y E u k;refine Ta (L.mono λh D A e=>?_)
  cases h with
  |normal=>exact e
  |ret=>exact e
  |exit ai=>
   obtain⟨i,m,j,N,O⟩:=e;show(EY id _) (.exit ai) D A
   simp only[EY];have ah:(bif ee ai id then t 0 i else t (ai+2) i)=c5 y:=j;cases af:ee ai id with
   |true=>rw[af] at ah;exact⟨i,m,ah,N,O⟩
   |false=>rw[af] at ah;exact⟨i,m,ah,N,O⟩
  |goto _=>exact e.elim
  |panic _=>exact e.elim
  |outgrown=>exact e.elim
 | .loop d,p,R,l,a,r,c,u,k=>by
  have aH:∀(ad:Nat) (a:St B.D),D8 B (λt i=>exec S B P V n C d (2*p) t i) (λa=>match (hint C p).lp with
   |some q=>nW B n a (cQ d []) q a λaa=>(S.loop (λH=>exec S B P V n C d (2*p) (R:=bi B.D q.bX⊕qM B (hint C p).outs) (λh i=>bif ee h 0 then nW B n a (cQ d []) q i (λH=>c5 (.inl H)) else inj B n a (cQ d []) (hint C p).outs h i λw=>c5 (.inr w)) (ik B a (cQ d []) q H)) aa).bind λw=>out B a (cQ d []) (hint C p).outs w l
   |none=>d9) l ad a=c5 r->n<=a.H.length->oE P F n d (Ends B l r a (cQ (.loop d) [])) (aU B a.E) (av B a.H):=by
   intro ad
   induction ad with
   |succ ad aX=>
    intro a c k;have L:=gO I o J d (2*p) _ a r c u k;refine aiK (L.mono λh D A e=>?_)
    cases h with
    |normal=>
     obtain⟨i,m,j,rfl,rfl⟩:=e;exact(aX i j (hP k m.len)).mono λh D A e=>e.mono m (λ_ c=>c) λ_ _ c=>c
    |ret=>exact e
    |exit id=>exact e
    |goto _=>exact e.elim
    |panic _=>exact e.elim
    |outgrown=>exact e.elim
   |zero=>
    intro a c k a0 aG aF aC;have ag:=Q8 aC;simp only[D8] at c
    split at c
    ·rename_i q aZ;obtain⟨aa,al,aN,aQ,aK,aJ⟩:=DH o (.refl _ _) k ag c aC;obtain⟨w,ac,az⟩:=dv.1 al;obtain⟨aT,aB⟩:=S.ok _ _ _ ac;generalize aL:(λH=>exec S B P V n C d (2*p) (R:=bi B.D q.bX⊕qM B (hint C p).outs) (λh i=>bif ee h 0 then nW B n a (cQ d []) q i (λH=>c5 (.inl H)) else inj B n a (cQ d []) (hint C p).outs h i λw=>c5 (.inr w)) (ik B a (cQ d []) q H))=f at aB;have aP:oE P F n d (Ends B l r a (cQ (.loop d) [])) (aU B (ik B a (cQ d []) q aa).E) (av B (ik B a (cQ d []) q aa).H):=by
      refine QG (α:=Nat×bi B.D q.bX) (λG D A=>fY f G.1 G.2=c5 w/\Ext (cQ d []) a (ik B a (cQ d []) q G.2)/\D=aU B (ik B a (cQ d []) q G.2).E/\A=av B (ik B a (cQ d []) q G.2).H) (λG=>G.1) (aT,aa) ⟨aB,aN,rfl,rfl⟩ ?_
      rintro⟨ax,H⟩ D A ⟨M,ae,rfl,rfl⟩;cases ax with
      |zero=>simp[fY] at M
      |succ ax=>
       simp only[fY] at M;obtain⟨v,aD,M⟩:=dv.1 M;rw[<-aL] at aD;have L:=gO I o J d (2*p) _ _ v aD u (hP k ae.len);refine Tl L ?_
       intro h a4 a3 g ay a1 T ar;cases h with
       |normal=>
        obtain⟨i,m,j,rfl,rfl⟩:=T;obtain⟨G,x,Y,ab,U,Z⟩:=DH o (ae.trans m) k ag j ar;injection x with x
        subst x;exact⟨_,_,ab,⟨(ax,G),hI _,M,Y,rfl,rfl⟩,U,Z⟩
       |ret=>
        obtain⟨i,m,j,rfl,rfl⟩:=T;obtain⟨aw,ap,x,Y,U,ab,Z,au⟩:=Aa o (ae.trans m) k ag ar j;injection x with x
        subst x;have h:aw=w:=by simpa using M
        subst h;exact⟨_,_,ab,⟨ap,Y,by rw[<-U l];exact az,rfl,rfl⟩,Z,au⟩
       |exit id=>
        obtain⟨i,m,j,rfl,rfl⟩:=T;obtain⟨aw,ap,x,Y,U,ab,Z,au⟩:=Aa o (ae.trans m) k ag ar j;injection x with x
        subst x;have h:aw=w:=by simpa using M
        subst h;exact⟨_,_,ab,⟨ap,Y,by rw[<-U l];exact az,rfl,rfl⟩,Z,au⟩
       |goto _=>exact T.elim
       |panic _=>exact T.elim
       |outgrown=>exact T.elim
     intro aV aS;exact aP aQ aG aF aK aV λh ay aI aO=>aS h ay aI (eI.trans aJ aO)
    ·cases c
  exact Pz (aH _ a c k)
 | .rangeFunc ..,p,R,l,a,r,c,_,_=>by simp[exec] at c
 | .scope _,p,R,l,a,r,c,_,_=>by simp[exec] at c
 | .goto _,p,R,l,a,r,c,_,_=>by simp[exec] at c
 | .refuse _,p,R,l,a,r,c,_,_=>by simp[exec] at c
end
def yR(b:Array Value):ResultVar->Sem Value
 | .tmp a=>pure (b.getD a undef)
 | .cell p a=>do loadVar a (<-asAddr (b.getD p undef))
theorem ND(fn:Func)(a:Array Value):results fn a=(do let vs<-fn.results.mapM (yR a);pure (if b:vs.size=1 then vs[0] else .tuple vs)):=rfl
def wM{a:Nat->Type}:Nat->List (TV a)->En a->En a
 |_,[],b=>b
 |i,v::vs,b=>wM (i+1) vs ((i,v)::b)
theorem Jz{f:Nat->Type}:∀(vs:List (TV f)) (i:Nat) (b:En f) (a:Nat),lk (wM i vs b) a=if i<=a then(vs[a -i]?).getD (lk b a) else lk b a
 |[],i,b,a=>by simp[wM]
 |v::vs,i,b,a=>by
  rw[wM,Jz vs (i+1)]
  by_cases d:i+1<=a
  ·rw[if_pos d,if_pos (by omega),show a -i=(a - (i+1))+1 by omega,List.getElem?_cons_succ];have:ee i a=false:=by
    cases c:ee i a with
    |false=>rfl
    |true=>have:=beq_eq c;omega
   simp only[lk,this,cond_false]
  ·rw[if_neg d]
   by_cases e:i=a
   ·subst e;rw[if_pos (dt _),Nat.sub_self];simp[lk,g0]
   ·rw[if_neg (by omega)];have:ee i a=false:=by
     cases c:ee i a with
     |false=>rfl
     |true=>exact absurd (beq_eq c) e
    simp only[lk,this,cond_false]
def lY:Nat->Nat->List (Nat×CP)->Bool
 |_,0,[]=>true
 |a,b+1,p::c=>bif ee p.1 a then lY (a+1) b c else false
 |_,_,_=>false
section
variable {P : Program} {B : Tb} {R : Type} {r : R}
theorem H4(D:cU P B){c:St B.D}:∀{j:List ResultVar} {i:Nat} {E:En B.D} {o:En B.D->Option R},nh B P c i j E o=c5 r->
 ∃vs:List (TV B.D),vs.length=j.length/\o (wM i vs E)=c5 r/\∀g e b a,Rel g e (aU B c.E) (av B c.H) b a->∃m:List Value,(j.mapM (yR b.tmps)).run P a= .ok m a/\m.length=j.length/\∀(i:Nat) (s:TV B.D) (x:Value),vs[i]? =c5 s->m[i]? =c5 x->VR g (av B c.H) a (pv B s) x
 |[],i,E,o,f=>⟨[],rfl,f,λg e b a _=>⟨[],rfl,rfl,by simp⟩⟩
 |rv::j,i,E,o,f=>by
  have K:∃v,nh B P c (i+1) j ((i,v)::E) o=c5 r/\∀g e b a,Rel g e (aU B c.E) (av B c.H) b a->∃x,(yR b.tmps rv).run P a= .ok x a/\VR g (av B c.H) a (pv B v) x:=by
   cases rv with
   |tmp t=>
    refine⟨lk c.E t,f,λg e b a k=>⟨_,rfl,?_⟩⟩
    have:=k.e.at_ t
    rwa [ep] at this
   |cell p t=>
    simp only[nh] at f;obtain⟨v,N,C,F⟩:=PD D (x:=.tmp p) (E:=c.E) (t:=t) f;refine⟨v,C,λg e b a k=>?_⟩
    obtain⟨x,d,u⟩:=F d9 0 "" #[] c.E c.H (λx _=>Bw B c.E x) (λ_ _ _ f=>f) g e b a k;refine⟨x,?_,u⟩
    have J:b.eval (.tmp p)=b.tmps.getD p undef:=rfl;simp only[execOp,J] at d;show(do loadVar t (<-asAddr (b.tmps.getD p undef)):Sem Value).run P a= .ok x a
    generalize b.tmps.getD p undef=z at d⊢;cases z with
    |pointer y=>
     cases y with
     |none=>simp[Instr.loadAt,Instr.sureAddr] at d
     |some y=>
      simp only[Instr.loadAt,Instr.sureAddr,hu,hQ,eH] at d;simp only[asAddr,hu,hQ,eH];cases q:(loadVar t y).run P a with
      |ok w L=>
       rw[q] at d;simp only[eH] at d;injection d with n A
       injection n with n
       rw[n,A]
      |halt w L=>rw[q] at d;simp at d
    |_=>simp[Instr.loadAt,Instr.sureAddr] at d
  obtain⟨v,C,n⟩:=K;obtain⟨vs,A,H,I⟩:=H4 D C;refine⟨v::vs,by simp[A],H,λg e b a k=>?_⟩
  obtain⟨x,d,u⟩:=n g e b a k;obtain⟨m,G,q,M⟩:=I g e b a k;refine⟨x::m,?_,by simp[q],λi s w l h=>?_⟩
  ·rw[List.mapM_cons];simp only[hu,G,d,eH,hQ]
  ·match i,l,h with
   |0,l,h=>simp at l h;subst l;subst h;exact u
   |i+1,l,h=>exact M i s w (by simpa using l) (by simpa using h)
theorem Tk{d:Nat->Type}{c:Nat->Nat×Nat}:∀{a:List (Nat×List Nat×OP)} {q:Nat} {b:List (TV d)},(lM c q a b).1.length=a.length
 |[],_,_=>rfl
 |e::a,q,b=>by simp[lM,Tk]
theorem A7{p:bY}{a:bi B.D p.bX}:(cz B p a).H.length=p.dF.length:=by
 unfold cz nI;exact Tk
theorem GW{i:Nat->Type}{ρ:Nat->Nat×Nat}:∀{d:List (Nat×CP)} {c e:Nat} {ls:List (TV i)},lY c e d=true->∃b,b.length=e/\gR ρ d ls=fi c b
 |[],c,0,ls,_=>⟨[],rfl,rfl⟩
 |p::d,c,e+1,ls,a=>by
  obtain⟨j,h⟩:=fu a;obtain⟨b,f,g⟩:=GW (ρ:=ρ) (ls:=(hO ρ p.2 ls).2) h;refine⟨(hO ρ p.2 ls).1::b,by simp[f],?_⟩
  simp only[gR,fi,g,beq_eq j]
 |[],_,_+1,_,a=>by simp[lY] at a
 |_::_,_,0,_,a=>by simp[lY] at a
theorem GN{c:Nat->Type}:∀(a:List (TV c)) (b:Nat),(fi b a).map (·.2)=a
 |[],_=>rfl
 |d::a,b=>by simp[fi,GN a]
def kL(P:Program){B:Tb}(a:aq B)(d:List ResultVar)(c:Nat)(b:St B.D):Option (bi B.D a.az.bX):=bif hY c 1 then nh B P b 0 d [] λe=>take B a.low a.az ⟨e,b.H⟩ c5 else d9
def qP{R:Type}(B:Tb)(d:Nat->St B.D->Option R)(r:R):fE
 | .normal=>λc b=>∃a,d 0 a=c5 r/\c=aU B a.E/\b=av B a.H
 | .ret=>λc b=>∃a,d 1 a=c5 r/\c=aU B a.E/\b=av B a.H
 | .exit e=>λc b=>∃a,d (e+2) a=c5 r/\c=aU B a.E/\b=av B a.H
 |_=>λ_ _=>False
theorem nP{R:Type}{f:Nat->St B.D->Option R}{r:R}{j:St B.D}{k:List Nat}:∀g i h,Ends B f r j k g i h->qP B f r g i h
 | .normal,_,_,⟨d,_,e,b,c⟩=>⟨d,e,b,c⟩
 | .ret,_,_,⟨d,_,e,b,c⟩=>⟨d,e,b,c⟩
 | .exit _,_,_,⟨d,_,e,b,c⟩=>⟨d,e,b,c⟩
 | .goto _,_,_,a=>a
 | .panic _,_,_,a=>a
 | .outgrown,_,_,a=>a
theorem ti(N:cU P B){a:aq B}{fn:Func}{code:Code}{rs:List ResultVar}(V:P.funcs[a.cO]? =c5 fn)(Q:fn.body=c5 code)(Y:(fn.name== "runtime.NumGoroutine")=false)
 (aw:fn.results=rs.toArray) (Z:hY a.na fn.ntmps=true) (an:lY 0 rs.length a.az.dE=true) (n:∀d e,a.F d=c5 e->eT P fn.ntmps a.low code (qP B (kL P a rs) e) (aU B (cz B a.par d).E) (av B (cz B a.par d).H)):Fits P B a:=by
 refine⟨λargs m=>?_,λd e ab g m k al ah C=>?_⟩
 ·simp only[callFunc,hu];have ap:(program:Sem Program).run P m= .ok P m:=rfl;rw[ap];simp only[eH,V];rw[Y];simp[Q]
 ·have ad:=n d e ab;have aA:k.length<=fn.ntmps:=by
   rw[al];exact d6 Z
  have ax:Rel g fn.ntmps (aU B (cz B a.par d).E) (av B (cz B a.par d).H) {tmps:=k.toArray++ft (fn.ntmps -k.toArray.size) undef,defers:=[]} m:=by
   refine⟨ah,rfl,?_,λh=>?_⟩
   ·simp;omega
   ·rw[ep];have:=C h;have s:(k.toArray++ft (fn.ntmps -k.toArray.size) undef).getD h undef=k.getD h undef:=by
     rw[f7,f1];rcases f8 h k.length with n |n
     ·simp[Array.getElem?_append,n]
     ·rw[ei n];rw[Array.getElem?_append_right (by simpa using n)];rcases f8 (h -k.length) (fn.ntmps -k.length) with l |l
      ·simp[l]
      ·simp[l]
    rw[s];exact this
  refine calls_of_wp V Q (ad g _ m ax _ ?_)
  intro s o c t;have U:∀J:Nat,J<=1->iX fn.ntmps a.low g (av B (cz B a.par d).H) m (λL aj=>∃p,(bif hY J 1 then nh B P p 0 rs [] λL=>take B a.low a.az ⟨L,p.H⟩ c5 else d9)=c5 e/\L=aU B p.E/\aj=av B p.H) o c->
   o.defers=[]/\∃v,(results fn o.tmps).run P c= .ok v c/\∃S E,Ending.returned v= .returned S/\bF E (av B (cz B a.az e).H) c/\Bml.GStep a.low g (av B (cz B a.par d).H) m E (av B (cz B a.az e).H) c/\VR E (av B (cz B a.az e).H) c (pv B (kR (cz B a.az e).E)) S:=λJ am H=>by
   obtain⟨aB,H1,ar,⟨p,q,rfl,rfl⟩,K,af⟩:=H;rw[fe am] at q;obtain⟨vs,aC,ao,X⟩:=H4 N q;obtain⟨u,ae,az,ay⟩:=X ar fn.ntmps o c K;obtain⟨y,F,A,aa,W,ag⟩:=EK N ao K.m;injection F with F
   subst F;have z:∃f:List (TV B.D),f.length=rs.length/\(cz B a.az y).E=fi 0 f:=by
    unfold cz nI;exact GW an
   obtain⟨f,D,z⟩:=z;have T:∀(i:Nat) (x:TV B.D) (v:Value),f[i]? =c5 x->u[i]? =c5 v->VR A (av B (cz B a.az y).H) c (pv B x) v:=λi x v j I=>by
    have M:i<vs.length:=by have:=c9 j;omega
    have w:=ay i _ v (c4 M) I;have l:=ag i v (by
     rw[Jz,if_pos (hK _),Nat.sub_zero,c4 M];exact w)
    rw[z] at l;have s:=Dz f 0 i;rw[d8] at s;rw[s,j] at l;exact l
   have C:∃v,(results fn o.tmps).run P c= .ok v c/\VR A (av B (cz B a.az y).H) c (pv B (kR (cz B a.az y).E)) v:=by
    have ai:(fn.results.mapM (yR o.tmps)).run P c= .ok u.toArray c:=by
     rw[aw,Array.mapM_eq_mapM_toList];simp only[Sem.run_map,ae,eH]
    rw[ND,hu,ai,eH,z]
    by_cases w:u.length=1
    ·obtain⟨d,rfl⟩:=List.length_eq_one_iff.1 w;obtain⟨h,rfl⟩:=List.length_eq_one_iff.1 (show f.length=1 by omega);exact⟨d,rfl,T 0 h d rfl rfl⟩
    ·refine⟨.tuple u.toArray,?_,?_⟩
     ·rw[hQ]
      congr 1
      exact dif_neg (by simpa using w)
     ·have:kR (fi 0 f)= .bu f:=by
       match f,D with
       |[],_=>rfl
       |[h],D=>simp at D;omega
       |ak::b::O,_=>exact congrArg TV.bu (GN (ak::b::O) 0)
      rw[this];refine .bu _ u (by rw[db,hL];omega) λi x v j I=>?_
      rw[db,dd] at j;cases G:f[i]? with
      |none=>rw[G] at j;cases j
      |some h=>
       rw[G] at j;injection j with j
       subst j;exact T i h v G I
   obtain⟨v,ac,au⟩:=C;exact⟨K.e.defers,v,ac,v,A,rfl,aa,af.trans W,au⟩
  cases s with
  |normal=>exact U 0 (by omega) t
  |ret=>exact U 1 (by omega) t
  |exit aD=>
   obtain⟨_,_,_,⟨p,q,_⟩,_⟩:=t;have q:(d9:Option (bi B.D a.az.bX))=c5 e:=q;cases q
  |goto O=>
   obtain⟨_,_,_,H,_⟩:=t;exact H.elim
  |panic a=>exact t.elim
  |outgrown=>exact t.elim
theorem FA(h:P.follows .mixedOrders=true)(c:cU P B){L:Lp}{d:List (aq B)}(l:∀a,a∈d->Fits P B a){a:aq B}{fn:Func}{code:Code}{rs:List ResultVar}{hs:List (Nat×Hn)}(s:P.funcs[a.cO]? =c5 fn)(n:fn.body=c5 code)(g:(fn.name== "runtime.NumGoroutine")=false)
 (q:fn.results=rs.toArray) (i:hY a.na fn.ntmps=true) (p:gB fn.ntmps code=true) (f:hY a.low (len a.par.dF)=true) (o:lY 0 rs.length a.az.dE=true) (m:∀b,gl L B P d a rs code hs b=a.F b):Fits P B a:=by
 refine ti c s n g q i o λb t k=>?_
 have e:=m b;rw[k] at e;have j:a.low<=(cz B a.par b).H.length:=by
  rw[A7, <-eu];exact d6 f
 exact(gO h c l code 1 _ _ _ e p j).mono nP
end
end Go.X
namespace Go.Bml
open Go Go.ChangeShapes Go.WideShapes Go.RowKit
def jG:Option Bool->List PV->PV
 |some true,p=>.agg p
 |_,[v]=>v
 |_,p=>.agg p
def OY:TypeDesc->Bool
 | .bool | .int _ | .string | .slice _ | .struct _ | .array _ _=>true
 |_=>false
inductive TP (P:Program):TypeId->List PV->Prop
 |bool (t:TypeId) (b:Bool) (h:P.underlying t=c5 .bool):TP P t [.bool b]
 |int (t:TypeId) (k:IntKind) (n:Int) (h:P.underlying t=c5 (.int k)) (hw:(Lit.int k n).wf=true):TP P t [.int k n]
 |str (t:TypeId) (s:ByteArray) (h:P.underlying t=c5 .string) (hs:s.size<=maxLen):TP P t [.str s]
 |slice (t e:TypeId) (ess:List (List PV)) (h:P.underlying t=c5 (.slice e)) (hl:ess.length<=maxLen) (he:∀p,p∈ess->p.length=P.cellsOf e) (hp:∀p,p∈ess->TP P e p):TP P t [.vs (P.cellsOf e) (ess.map (jG (dP P e)))]
 |struct (t:TypeId) (fs:Array Field) (ps:List (List PV)) (h:P.underlying t=c5 (.struct fs)) (hl:ps.length=fs.size) (hp:∀(i:Nat) (f:Field) (p:List PV),fs[i]? =c5 f->ps[i]? =c5 p->TP P f.type p):TP P t ps.flatten
 |array (t e:TypeId) (n:Nat) (ps:List (List PV)) (h:P.underlying t=c5 (.array n e)) (hl:ps.length=n) (hp:∀p,p∈ps->TP P e p):TP P t ps.flatten
 |other (t:TypeId) (d:TypeDesc) (h:P.underlying t=c5 d) (hd:OY d=false):TP P t [.any]
def jE(e:Nat->Prop)(w:World)(d:List PV)(c:List Value):Prop:=
 d.length=c.length/\∀(i:Nat) (b:PV) (a:Value),d[i]? =c5 b->c[i]? =c5 a->VI e w b a/\a.oneCell'=true
theorem jE.one{F:Nat->Prop}{w:World}{c:PV}{x:Value}(h:VI F w c x)(j:x.oneCell'=true):jE F w [c] [x]:=by
 refine⟨rfl,λi a b d e=>?_⟩
 match i,d,e with
 |0,d,e=>simp at d e;subst d;subst e;exact⟨h,j⟩
 |i+1,d,e=>simp at d
theorem jE.append{F:Nat->Prop}{w:World}{p q:List PV}{c d:List Value}(h:jE F w p c)(k:jE F w q d):jE F w (p++q) (c++d):=by
 refine⟨by simp[h.1,k.1],λi a b j e=>?_⟩
 by_cases l:i<p.length
 ·rw[d2 l] at j;rw[d2 (by have:=h.1;omega)] at e;exact h.2 i a b j e
 ·rw[d1 (by omega)] at j;rw[d1 (by have:=h.1;omega)] at e;rw[<-h.1] at e;exact k.2 _ a b j e
theorem jE.flatten{F:Nat->Prop}{w:World}:∀(d:List (List PV)) (e:List (List Value)),d.length=e.length->(∀(i:Nat) (p:List PV) (c:List Value),d[i]? =c5 p->e[i]? =c5 c->jE F w p c)->jE F w d.flatten e.flatten
 |[],[],_,_=>⟨rfl,by simp⟩
 |[],_::_,h,_=>by simp at h
 |_::_,[],h,_=>by simp at h
 |p::d,c::e,h,j=>by
  rw[hz,hz];exact(j 0 p c rfl rfl).append (jE.flatten d e (by simpa using h) λi a b k l=>j (i+1) a b (by simpa using k) (by simpa using l))
def w4:Nat->List (Nat×Nat)->Nat->Bool
 |a,[],b=>ee a b
 |a,(d,c)::r,b=>ee d a&&w4 (a+c) r b
theorem Ry(c:List Value):∀(b:List (Nat×Nat)) (d:Nat),w4 d b c.length=true->c.drop d=(b.map λp=>(c.drop p.1).take p.2).flatten
 |[],d,a=>by
  have:=hD a;simp[this]
 |(f,g)::b,d,a=>by
  simp only[w4,ga] at a;have e:=hD a.1;subst e;rw[f5,hz, <-Ry c b (f+g) a.2];rw[<-List.drop_drop,ev]
def xA(P:Program):Bool:=(eo P.types.size).all λb=>
 match P.underlying b with
 |some (.struct c)=>w4 0 (c.toList.map λf=>(f.offset,P.cellsOf f.type)) (P.cellsOf b)&&c.toList.all λf=>gx f.type P.types.size
 |some (.array d a)=>ee (d*P.cellsOf a) (P.cellsOf b)&&gx a P.types.size
 |some (.slice a)=>gx 0 (P.cellsOf a)&&gx a P.types.size
 |_=>true
theorem Gj{P:Program}(g:xA P=true){b:TypeId}(j:b<P.types.size){d:TypeDesc}(h:P.underlying b=c5 d):(match d with
 | .struct c=>w4 0 (c.toList.map λf=>(f.offset,P.cellsOf f.type)) (P.cellsOf b)=true/\∀f,f∈c->f.type<P.types.size
 | .array e a=>e*P.cellsOf a=P.cellsOf b/\a<P.types.size
 | .slice a=>0<P.cellsOf a/\a<P.types.size
 |_=>True):=by
 have:=List.all_eq_true.1 g b (fd.2 j);rw[h] at this;cases d with
 |struct c=>
  simp only[ga] at this;exact⟨this.1,λf i=>d6 (List.all_eq_true.1 this.2 f (g5.2 i))⟩
 |array e a=>
  simp only[ga] at this;exact⟨hD this.1,d6 this.2⟩
 |slice a=>
  simp only[ga] at this;exact⟨d6 this.1,d6 this.2⟩
 |_=>trivial
theorem Tx{P:Program}{e:TypeId}{p:List PV}(c:¬dP P e=c5 true)(a:TP P e p):∃v,p=[v]/\v.cells=[v]:=by
 cases a with
 |bool _ b a=>exact⟨_,rfl,rfl⟩
 |int _ s i a l=>exact⟨_,rfl,rfl⟩
 |str _ o a r=>exact⟨_,rfl,rfl⟩
 |slice _ g n a d k f=>exact⟨_,rfl,rfl⟩
 |struct _ m h a d f=>exact absurd (by simp[dP,a]) c
 |array _ g i h a d f=>exact absurd (by simp[dP,a]) c
 |other _ q a j=>exact⟨_,rfl,rfl⟩
theorem Vn{P:Program}{c:TypeId}{p:List PV}(e:TP P c p):(jG (dP P c) p).cells=p:=by
 by_cases a:dP P c=c5 true
 ·rw[a];rfl
 ·obtain⟨v,rfl,d⟩:=Tx a e;generalize dP P c=f at a;cases f with
  |none=>exact d
  |some b=>cases b with
   |false=>exact d
   |true=>exact absurd rfl a
section
variable {H : Type} {enc : TypeId × Value → H} {P : Program} {w : World} {base : Nat} {spare : Nat → Bool} {held : Bool}
theorem abB(O:xA P=true):∀(z:Nat) (o:TypeId) (r:List Value) (aa:DataW H×List MemPlace),o<P.types.size->i9 enc P w base spare held z o r=c5 aa->
 ∃D,TP P o D/\jE (λb=>b<w.heap.size) w D r:=by
 intro z
 induction z using Nat.strongRecOn with
 |_ z W=>
  intro o r aa U m;cases k:P.underlying o with
  |none=>
   cases z with
   |zero=>simp[i9] at m
   |succ g=>simp[i9,k] at m
  |some T=>
   have other:OY T=false->(∃v,r=[v]/\v.oneCell'=true)->∃D,TP P o D/\jE (λb=>b<w.heap.size) w D r:=by
    rintro an ⟨v,rfl,N⟩;exact⟨[.any],.other o T k an,.one (.any v) N⟩
   cases T with
   |bool=>
    obtain⟨b,rfl,_⟩:=DataW.trod_bool k m;exact⟨[.bool b],.bool o b k,.one (.bool b) rfl⟩
   |int n=>
    obtain⟨g,rfl,_,ak⟩:=DataW.trod_int k m;exact⟨[.int n g],.int o n g k ak,.one (.int n g) rfl⟩
   |string=>
    obtain⟨S,rfl,_,ah⟩:=DataW.trod_string k m;exact⟨[.str S],.str o S k ah,.one (.str S) rfl⟩
   |slice a=>
    obtain⟨au,V⟩:=Gj O U k;rcases DataW.trod_slice k m with⟨rfl,_⟩ |⟨M,len,cap,rn,ax,g,rfl,rfl,_,_,ar,aw,az,B,_,_⟩
    ·exact⟨[.vs (P.cellsOf a) (([]:List (List PV)).map (jG (dP P a)))],.slice o a [] k (hK _) (by simp) (by simp),.one (.eX _ _ _) rfl⟩
    ·have G:∀i:Nat,∃p:List PV,i<len->TP P a p/\p.length=P.cellsOf a/\∀(d:Nat) (h:PV),p[d]? =c5 h->∃y,w.cell? (M.add (i*P.cellsOf a+d))=c5 y/\VI (λb=>b<w.heap.size) w h y/\y.oneCell'=true:=λi=>by
      by_cases c:i<len
      ·have q:=B i c;rw[c4 (by omega)] at q;cases e:w.cells? base (M.add (i*P.cellsOf a)) (P.cellsOf a) with
       |none=>simp[e] at q
       |some Q=>
        simp[e] at q;obtain⟨p,E,u⟩:=W g (by omega) a Q _ V q;obtain⟨_,C,aq⟩:=World.cells?_some e;refine⟨p,λ_=>⟨E,u.1.trans C,λd h K=>?_⟩⟩
        have ab:d<Q.length:=by
         have:=(d5.1 K).1;have:=u.1;omega
        refine⟨Q[d],?_,u.2 d h _ K (c4 ab)⟩
        rw[<-Go.Deep.add_add,aq d (by omega),c4 ab]
      ·exact⟨[],λm=>absurd m c⟩
     obtain⟨f,j⟩:=hq G;refine⟨[.vs (P.cellsOf a) (((eo len).map f).map (jG (dP P a)))],.slice o a _ k (by simp;omega) ?_ ?_,?_⟩
     ·intro p l;obtain⟨i,c,rfl⟩:=e5.1 l;exact(j i (fd.1 c)).2.1
     ·intro p l;obtain⟨i,c,rfl⟩:=e5.1 l;exact(j i (fd.1 c)).1
     ·by_cases h0:len=0
      ·subst h0;exact .one (.eX _ _ _) rfl
      ·have ac:∀i,i<len->(jG (dP P a) (f i)).cells=f i:=λi c=>Vn (j i c).1
       have aj:∀i d h,cellOf (((eo len).map f).map (jG (dP P a))) i d=c5 h->i<len/\(f i)[d]? =c5 h:=λi d h e=>by
        unfold cellOf at e
        by_cases c:i<len
        ·rw[dd,dd,g7 c] at e;simp only[hM,i7,ac i c] at e;exact⟨c,e⟩
        ·rw[ei (by simp;omega)] at e;simp at e
       have Z:M.spot=d9:=by
        obtain⟨_,al,X⟩:=j 0 (by omega);obtain⟨y,s,_⟩:=X 0 _ (c4 (by omega));simp only[Nat.zero_mul,g3] at s;rw[Addr.add_zero'] at s;exact World.cell?_spot s
       obtain⟨b,A,av⟩:=M;simp only at Z;subst Z;have Y:(((eo len).map f).map (jG (dP P a))).length=len:=by simp
       have ag:b<w.heap.size:=by
        obtain⟨_,al,X⟩:=j 0 (by omega);obtain⟨y,s,_⟩:=X 0 _ (c4 (by omega));rw[Addr.add_lit] at s;exact World.block_lt_of_cell? w _ s
       have R:∀i d h,cellOf (((eo len).map f).map (jG (dP P a))) i d=c5 h->w.cell? ⟨b,A+(i*P.cellsOf a+d),d9⟩=c5 ((w.cell? ⟨b,A+(i*P.cellsOf a+d),d9⟩).getD undef)/\((w.cell? ⟨b,A+(i*P.cellsOf a+d),d9⟩).getD undef).oneCell'=true/\VI (λb=>b<w.heap.size) w h ((w.cell? ⟨b,A+(i*P.cellsOf a+d),d9⟩).getD undef):=λi d h e=>by
        obtain⟨c,K⟩:=aj i d h e;obtain⟨y,s,N,q⟩:=(j i c).2.2 d h K;rw[Addr.add_lit] at s;rw[s];exact⟨rfl,q,N⟩
       have:=VI.vs (F:=λb=>b<w.heap.size) (w:=w) (P.cellsOf a) (((eo len).map f).map (jG (dP P a))) b A cap (λi d=>(w.cell? ⟨b,A+(i*P.cellsOf a+d),d9⟩).getD undef) (by rw[Y];exact ar) ag
        (λi aA L=>by
         have c:i<len:=by
          have:=(d5.1 L).1;simpa using this
         rw[dd,dd,g7 c] at L;simp at L;subst L;rw[ac i c];exact(j i c).2.1)
        (λi d h e=>(R i d h e).1) (λi d h e=>(R i d h e).2.1) (λi d h e=>(R i d h e).2.2)
       rw[Y] at this;exact .one this rfl
   |struct x=>
    obtain⟨ad,g,rfl,_,C,ae,B⟩:=DataW.trod_struct k m;obtain⟨I,am⟩:=Gj O U k;rw[<-C] at I;have J:=Ry r _ 0 I;rw[hU,i8] at J;have G:∀i:Nat,∃p:List PV,∀f,x[i]? =c5 f->TP P f.type p/\jE (λb=>b<w.heap.size) w p ((r.drop f.offset).take (P.cellsOf f.type)):=λi=>by
     by_cases c:i<x.size
     ·have q:=B i x[i] (f2 c);rw[c4 (by omega)] at q;obtain⟨p,E,u⟩:=W g (by omega) _ _ _ (am _ (Array.getElem_mem c)) q;exact⟨p,λf j=>by rw[f2 c] at j;injection j with j;subst j;exact⟨E,u⟩⟩
     ·exact⟨[],λf j=>by rw[gc (by omega)] at j;cases j⟩
    obtain⟨f,j⟩:=hq G;refine⟨((eo x.size).map f).flatten,.struct o x _ k (by simp) λi ao p c l=>?_,?_⟩
    ·have t:i<x.size:=(Array.getElem?_eq_some_iff.1 c).1;rw[dd,g7 t] at l;simp at l;subst l;exact(j i ao c).1
    ·rw[J];refine jE.flatten _ _ (by simp) λi p h l e=>?_
     have t:i<x.size:=by
      have:=(d5.1 l).1;simpa using this
     rw[dd,g7 t] at l;simp at l;subst l;rw[dd,gt,f2 t] at e;simp at e;subst e;exact(j i _ (f2 t)).2
   |array g a=>
    obtain⟨ad,ai,rfl,_,C,ae,B⟩:=DataW.trod_array k m;obtain⟨I,V⟩:=Gj O U k;have J:r=((eo g).map λi=>(r.drop (i*P.cellsOf a)).take (P.cellsOf a)).flatten:=by
     have ap:∀n,n<=g->r.drop ((g -n)*P.cellsOf a)=((List.range' (g -n) n).map λi=>(r.drop (i*P.cellsOf a)).take (P.cellsOf a)).flatten:=by
      intro n
      induction n with
      |zero=>
       intro _;simp[I, <-C]
      |succ n af=>
       intro ay;rw[List.range'_succ,f5,hz];have:=af (by omega);rw[show g - (n+1)+1=g -n by omega, <-this];rw[show(g -n)*P.cellsOf a=(g - (n+1))*P.cellsOf a+P.cellsOf a by rw[<-Nat.succ_mul];congr 1;omega];rw[<-List.drop_drop,ev]
     have:=ap g (dt _);rw[Nat.sub_self,Nat.zero_mul,hU, <-List.range_eq_range'] at this;exact this
    have G:∀i:Nat,∃p:List PV,i<g->TP P a p/\jE (λb=>b<w.heap.size) w p ((r.drop (i*P.cellsOf a)).take (P.cellsOf a)):=λi=>by
     by_cases c:i<g
     ·have q:=B i c;rw[c4 (by omega)] at q;obtain⟨p,E,u⟩:=W ai (by omega) _ _ _ V q;exact⟨p,λ_=>⟨E,u⟩⟩
     ·exact⟨[],λm=>absurd m c⟩
    obtain⟨f,j⟩:=hq G;refine⟨((eo g).map f).flatten,.array o a g _ k (by simp) λp l=>?_,?_⟩
    ·obtain⟨i,c,rfl⟩:=e5.1 l;exact(j i (fd.1 c)).1
    ·rw[J];refine jE.flatten _ _ (by simp) λi p h l e=>?_
     have t:i<g:=by
      have:=(d5.1 l).1;simpa using this
     rw[dd,g7 t] at l e;simp at l e;subst l;subst e;exact(j i t).2
   |_=>
    refine other rfl ?_
    cases z with
    |zero=>simp[i9] at m
    |succ g=>
     simp only[i9,k] at m
     first |(cases m;done) |(split at m <;> first |exact⟨_,rfl,rfl⟩ |(cases m;done) |(exfalso;simp_all;done))
theorem PM{d:World}{r:Reach}{b:Nat}{c:TypeId}{v:Value}(a:Cell.okWide P d r b c v):v.cells.toList=[v]:=by
 unfold Cell.okWide Cell.ok at a;generalize P.underlying c=e at a;cases v <;> first |rfl |skip
 all_goals
  cases e with
  |none=>exact a.elim
  |some f=>cases f <;> exact False.elim a
theorem NL(A:xA P=true){r:Reach}{U:Nat}:∀(k:List TypeId) (vs:List Value) (u:List (DataW H)) (C:List MemPlace),i6 enc P w base spare held k vs u C->(∀a,a∈k->a<P.types.size)->
 (∀(t:Nat) a v,k[t]? =c5 a->vs[t]? =c5 v->Value.okWide P w r U a v)->
 ∃o:List PV,o.length=vs.length/\vs.length=k.length/\(∀(i:Nat) (a:TypeId) (f:PV),k[i]? =c5 a->o[i]? =c5 f->∃p,TP P a p/\f=jG (dP P a) p)/\∀(i:Nat) (f:PV) (l:Value),o[i]? =c5 f->vs[i]? =c5 l->VI (λb=>b<w.heap.size) w f l
 |[],[],[],_,_,_,_=>⟨[],rfl,rfl,by simp,by simp⟩
 |[],[],_::_,_,d,_,_=>d.elim
 |[],_::_,[],_,d,_,_=>d.elim
 |[],_::_,_::_,_,d,_,_=>d.elim
 |_::_,[],[],_,d,_,_=>d.elim
 |_::_,[],_::_,_,d,_,_=>d.elim
 |_::_,_::_,[],_,d,_,_=>d.elim
 |a::k,v::vs,Y::u,C,d,B,D=>by
  obtain⟨p,q,⟨M,Q⟩,T,_⟩:=d;obtain⟨o,G,N,R,O⟩:=NL A k vs u q T (λa g=>B a (by simp[g])) λt a v g K=>D (t+1) a v (by simpa using g) (by simpa using K)
  obtain⟨z,E,s⟩:=abB A M a _ _ (B a (by simp)) Q;have j:=D 0 a v rfl rfl;refine⟨jG (dP P a) z::o,by simp[G],by simp[N],λi J f g c=>?_,λi f l c h=>?_⟩
  ·match i,g,c with
   |0,g,c=>simp at g c;subst g;subst c;exact⟨z,E,rfl⟩
   |i+1,g,c=>exact R i J f (by simpa using g) (by simpa using c)
  ·match i,c,h with
   |0,c,h=>
    simp at c h;subst c;subst h;unfold Value.okWide at j
    by_cases e:dP P a=c5 true
    ·have:∃n,v= .agg n:=by
      unfold dP at e;cases m:P.underlying a with
      |none=>simp[m] at e
      |some y=>
       rw[m] at e j;cases y <;> simp at e <;> (obtain⟨n,L,_⟩:=j;exact⟨n,L⟩)
     obtain⟨n,rfl⟩:=this;rw[e];have:=VI.agg (F:=λb=>b<w.heap.size) (w:=w) z n.toList (by simpa[Value.cells] using s.1) λi f l c h=>(s.2 i f l c (by simpa[Value.cells] using h)).1
     simpa[jG] using this
    ·obtain⟨x,rfl,W⟩:=Tx e E;have X:=s.1;have S:jG (dP P a) [x]=x:=by
      generalize dP P a=V at e;cases V with
      |none=>rfl
      |some b=>cases b with
       |false=>rfl
       |true=>exact absurd rfl e
     rw[S];have I:v.cells.toList=[v]:=by
      unfold dP at e;cases m:P.underlying a with
      |none=>rw[m] at j;exact PM j
      |some y=>
       rw[m] at e j;cases y <;> first |exact PM j |(exfalso;simp at e;done)
     exact(s.2 0 x v rfl (by rw[I];rfl)).1
   |i+1,c,h=>exact O i f l (by simpa using c) (by simpa using h)
end
end Go.Bml
namespace Go.X
open Go Go.Aml Go.Bml Go.ChangeShapes Go.WideShapes Go.RowKit Go.ChangeAt
def Typed(P:Program)(ts:List TypeId)(pcs:List PV):Prop:=
 pcs.length=ts.length/\∀(i:Nat) (t:TypeId) (c:PV),ts[i]? =c5 t->pcs[i]? =c5 c->∃p,TP P t p/\c=jG (dP P t) p
def G8(P:Program){B:Tb}(c:aq B)(ts:List TypeId):Prop:=
 ∀pcs,Typed P ts pcs->∃x y,c.F x=c5 y/\(cz B c.par x).H=[]/\(∀t,pv B (lk (cz B c.par x).E t)=pcs.getD t .any)/\pv B (kR (cz B c.az y).E)= .bool true
section
variable {H : Type} {enc : TypeId × Value → H} {P : Program} {B : Tb} {c : aq B}
theorem aqj{args:Array Value}{W:World}{ts:List TypeId}{ds:List (DataW H)}{ps:List MemPlace}{base:Nat}(hT:xA P=true)(hA:i6 enc P W 0 (λ_=>true) true ts args.toList ds ps)(hlt:∀t,t∈ts->t<P.types.size)
 (hok:∀(j:Nat) t v,ts[j]? =c5 t->args.toList[j]? =c5 v->Value.okWide P W .any base t v) (hna:c.na=ts.length) (hf:Fits P B c) (hc:G8 P c ts):
 Calls P c.cO args W λe w'=>e= .returned (.bool true)/\Below W.heap.size W w':=by
 obtain⟨pcs,k1,k2,k3,k4⟩:=NL hT ts args.toList ds ps hA hlt hok;obtain⟨x,y,hF,hH,hE,hR⟩:=hc pcs ⟨k1.trans k2,k3⟩;have h:=hf.calls x y hF ⟨λb=>b<W.heap.size,λ_=>d9⟩ W args.toList (by rw[hna,k2])
  (by
   rw[hH];exact⟨λb h=>h,λr r' b C C' h=>by simp at h,λr b C h=>by simp at h,λr o h=>by simp[av] at h⟩)
  (λt=>by
   rw[hE,hH]
   by_cases ht:t<pcs.length
   ·have ht2:t<args.toList.length:=by omega
    rw[f1,f1,c4 ht,c4 ht2];exact .aW (k4 t _ _ (c4 ht) (c4 ht2))
   ·rw[f1,ei (by omega)];exact .aW (.any _))
 rw[g4] at h;refine Calls.mono h λe w' hh=>?_
 obtain⟨v,g',he,_,hst,hv⟩:=hh;rw[hR] at hv;have hb:=hv.n5;rw[he,hb];refine⟨rfl,hst.os,hst.tape,hst.output,hst.size,λk hk=>hst.jh k hk⟩
theorem OZ(hl:laidOutB P=true){W W':World}(hb:Below W.heap.size W W'):∀(ts:List TypeId) (vs:List Value) (ds:List (DataW H)) (ps:List MemPlace),(∀t,t∈ts->P.readableRec t=true/\t<P.types.size)->i6 enc P W 0 (λ_=>true) true ts vs ds ps->
 i6 enc P W' 0 (λb=>c3 (b<W.heap.size)) true ts vs ds ps/\ds.length=ts.length
 |[],[],[],_,_,h=>⟨h,rfl⟩
 |[],[],_::_,_,_,h=>h.elim
 |[],_::_,[],_,_,h=>h.elim
 |[],_::_,_::_,_,_,h=>h.elim
 |_::_,[],[],_,_,h=>h.elim
 |_::_,[],_::_,_,_,h=>h.elim
 |_::_,_::_,[],_,_,h=>h.elim
 |t::ts,v::vs,d::ds,ps,hr,h=>by
  obtain⟨p,q,h1,h2,he⟩:=h;have hx:∀x∈p,x.block<W.heap.size:=by obtain⟨m,hm⟩:=h1;exact DataW.trod_lt m _ _ _ hm
  obtain⟨i1,i2⟩:=OZ hl hb ts vs ds q (λt ht=>hr t (by simp[ht])) h2;exact⟨⟨p,q,Below.trod hl (hr t (by simp)).1 (hr t (by simp)).2 h1 hb hx,i1,he⟩,by simp[i2]⟩
theorem ahF{C:Checked}{c:aq B}{os:Os}{fn:Func}{s:ChangeSpec}{conds:List PathCond}{tb:TypeId}(own:ownKnob C.prog.godebug=d9)(started:os.Started)(noInit:C.prog.inits.idxOf? c.cO=d9)(hfn:C.prog.funcs[c.cO]? =c5 fn)
 (witness:∃(w:World) (tape:Tape) (i:Input),w.os=os/\(w.forCall tape i).Shaped C.prog/\i.vars=[]/\Input.okWide C.prog (w.forCall tape i) .any w.heap.size c.cO i/\
  s.pre6 enc C.prog fn conds false (w.forCall tape i).memory i.args/\({}:Assume).holds C.prog (lone (Frame.enter C.prog c.cO i.args .normal) [] (w.forCall tape i)))
 (hT:xA C.prog=true) (hl:laidOutB C.prog=true) (eZ:fn.params.toList.all (λt=>C.prog.readableRec t&&gx t C.prog.types.size)=true) (hvars:s.vars=[]) (hres:fn.resultTypes=#[tb]) (htb:C.prog.underlying tb=c5 .bool)
 (hs:∀ds:List (DataW H),ds.length=fn.params.toList.length->s.fn H ds={results:=[.lit (.bool true)],args:=ds}) (hna:c.na=fn.params.toList.length) (hf:Fits C.prog B c) (hc:G8 C.prog c fn.params.toList):
 ReturnsInHanded {} C os c.cO .any (s.pre6 enc C.prog fn conds false) (s.post enc C.prog fn false true false false):=by
 have hrd':∀t,t∈fn.params.toList->C.prog.readableRec t=true/\t<C.prog.types.size:=λt ht=>by
  have:=(List.all_eq_true.1 eZ) t ht;rw[ga] at this;exact⟨this.1,d6 this.2⟩
 refine returnsInHanded_of_change own started noInit hfn witness ?_
 intro W base args ds gs before hval hW hcnd _;have hW':=hW;obtain⟨p,q,hA,hV,rfl,hfz,hnd⟩:=hW;rw[hvars] at hV;obtain⟨rfl,rfl⟩:=trodVars_none hV;refine(aqj (base:=base) hT hA (λt ht=>(hrd' t ht).2) (λj t v ht hv=>hval j t v (by simpa using ht) (by simpa using hv)) hna hf hc).mono λe W' ⟨he,hZ⟩=>?_
 subst he;obtain⟨b1,b2⟩:=OZ hl hZ fn.params.toList args.toList ds p hrd' hA;have hsd:s.fn H (ds++[])={results:=[.lit (.bool true)],args:=ds}:=by rw[ef];exact hs ds b2
 refine⟨_,rfl,ds,[],_,[],p,[],hW',?_,?_,?_,hZ.frame _,λh=>by cases h⟩
 ·rw[hsd,hres];exact trodAll_mk1 (shut_bool htb _)
 ·rw[hsd];exact b1
 ·rw[hsd,hvars];rfl
end
theorem ahG{i:Program}{h:TypeId}{e:IntKind}{p:List PV}(c:i.underlying h=c5 (.int e))(a:TP i h p):∃d:Int,p=[.int e d]/\(Lit.int e d).wf=true:=by
 cases a with
 |int _ q d a j=>rw[c] at a;cases a;exact⟨d,rfl,j⟩
 |bool _ b a=>rw[c] at a;cases a
 |str _ s a o=>rw[c] at a;cases a
 |slice _ m r a f n g=>rw[c] at a;cases a
 |struct _ u k a f g=>rw[c] at a;cases a
 |array _ m d k a f g=>rw[c] at a;cases a
 |other _ t a l=>rw[c] at a;cases a;cases l
theorem PX{d:Program}{c:TypeId}{g:IntKind}(i:d.underlying c=c5 (.int g))(j:dP d c=c5 false):∀b:List (List PV),(∀p,p∈b->TP d c p)->∃a:List Int,b.map (jG (dP d c))=a.map (.int g)/\a.length=b.length/\∀e,e∈a->(Lit.int g e).wf=true
 |[],_=>⟨[],rfl,rfl,by simp⟩
 |p::b,h=>by
  obtain⟨a,r,m,n⟩:=PX i j b λq k=>h q (c7 _ k)
  obtain⟨o,rfl,l⟩:=ahG i (h p (gb ..));refine⟨o::a,?_,by simp[m],λe f=>?_⟩
  ·rw[f5,f5,r,j];rfl
  ·rcases d0.1 f with rfl |f
   ·exact l
   ·exact n e f
theorem aeB{f:Program}{j e:TypeId}{k:IntKind}{p:List PV}(c:f.underlying j=c5 (.slice e))(q:f.underlying e=c5 (.int k))(s:dP f e=c5 false)(u:f.cellsOf e=1)(a:TP f j p):
 ∃d:List Int,p=[.vs 1 (d.map (.int k))]/\d.length<=maxLen/\∀i,i∈d->(Lit.int k i).wf=true:=by
 cases a with
 |int _ x t a y=>rw[c] at a;cases a
 |bool _ b a=>rw[c] at a;cases a
 |str _ z a w=>rw[c] at a;cases a
 |slice _ D n a h v g=>
  rw[c] at a;cases a;obtain⟨d,o,B,m⟩:=PX q s n g;exact⟨d,by rw[o,u],by omega,m⟩
 |struct _ C l a h g=>rw[c] at a;cases a
 |array _ e t l a h g=>rw[c] at a;cases a
 |other _ A a r=>rw[c] at a;cases a;cases r
theorem ajJ{c:Program}{b:TypeId}{f:List TypeId}{d:List PV}(g:Typed c (b::f) d):∃p q,TP c b p/\d=jG (dP c b) p::q/\Typed c f q:=by
 obtain⟨e,a⟩:=g
 match d,e,a with
 |k::q,e,a=>
  obtain⟨p,h,rfl⟩:=a 0 b k rfl rfl;exact⟨p,q,h,rfl,by simpa using e,λi j l n m=>a (i+1) j l (by simpa using n) (by simpa using m)⟩
theorem adH{c:Program}{a:List PV}(b:Typed c [] a):a=[]:=List.length_eq_zero_iff.1 b.1
end Go.X
namespace Go.X
open Go Go.Aml Go.Bml
def wi:Option Nat->PV
 |none=>.dB
 |some f=>.fn f [] []
def mM(a:Int):List Int->List Int
 |[]=>[a]
 |b::c=>bif c3 (a<=b) then a::b::c else b::mM a c
def dQ:List Int->List Int
 |[]=>[]
 |b::a=>mM b (dQ a)
def rC(a:List Int):Option (List Int):=bif hY a.length 140737488355328 then c5 (dQ a) else d9
def Ct(a:Nat)(n:Int):Option (List Int):=bif c3 (0<=n) then(gP a (0:Int) n).bind λ_=>c5 [] else d9
def B2{c:Type}(d:Nat)(a:List c)(i:Int)(b:List c):Option (List c):=if 0<=i/\i<=(a.length:Int)/\b.length=1 then(bj d a b).bind λ_=>c5 (a.take i.toNat++b++a.drop i.toNat) else d9
universe u
def px{a:Type u}:List (List a)->Nat->List a
 |[],_=>[]
 |c::_,0=>c
 |_::b,n+1=>px b n
def Br:List (Nat×Ty)->Nat->Ty
 |[],_=>⟨Empty,λ_=>.any⟩
 |p::r,n=>bif ee p.1 n then p.2 else Br r n
structure xz where
 sz:Nat
 fl:Bool
 el:Nat
def Eu:List (Nat×xz)->Nat->xz
 |[],_=>⟨1,false,0⟩
 |p::r,n=>bif ee p.1 n then p.2 else Eu r n
structure Ev (D:Nat->Type) (n:Nat) where
 tv:D n->TV D
 up:TV D->Option (D n)
def ev0(D:Nat->Type)(n:Nat):Ev D n:=⟨λ_=>.any,λ_=>d9⟩
def Jq(D:Nat->Type):List (Σ n,Ev D n)->(n:Nat)->Ev D n
 |[],n=>ev0 D n
 |p::r,n=>if a:p.1=n then a▸p.2 else Jq D r n
section
variable (D : Nat → Type)
def dA{a b:Type}(c:a=b)(d:a):b:=cast c d
def fA{n:Nat}(b:IntKind)(a:D n=Int):Ev D n:=⟨λe=>.int b (dA a e),λ| .int d c=>bif fV d b then c5 (dA a.symm c) else d9 |_=>d9⟩
def nE{n:Nat}(a:D n=Bool):Ev D n:=⟨λc=>.bool (dA a c),λ| .bool b=>c5 (dA a.symm b) |_=>d9⟩
def iR{n:Nat}(a:D n=Option Nat):Ev D n:=⟨λc=>.jC (dA a c),λ| .jC b=>c5 (dA a.symm b) | .dB=>c5 (dA a.symm d9) | .fn f [] []=>c5 (dA a.symm (c5 f)) |_=>d9⟩
def bJ{n:Nat}(b:Nat)(a:D n=List (D b)):Ev D n:=⟨λf=>.row b (dA a f),λ| .row e c=>if d:e=b then c5 (dA a.symm (d▸c)) else d9 | .bg=>c5 (dA a.symm []) | .z0=>c5 (dA a.symm []) |_=>d9⟩
def uO(a:Nat):List (TV D)->Option (List (List (D a)))
 |[]=>c5 []
 | .row d b::e=>if c:d=a then(match uO a e with |some r=>c5 ((c▸b)::r) |none=>d9) else d9
 |_=>d9
def pM{n:Nat}(b d:Nat)(a:D n=List (D b))(g:D b=List (D d)):TV D->Option (D n)
 | .row c e=>if f:c=b then c5 (dA a.symm (f▸e)) else d9
 | .bg=>c5 (dA a.symm [])
 | .z0=>c5 (dA a.symm [])
 | .rv c i=>bif ee c b then(match uO D d i with
  |some h=>c5 (dA a.symm (h.map (dA g.symm)))
  |none=>d9) else d9
 |_=>d9
def lx{n:Nat}(a c:Nat)(b:D n=List (D a))(d:D a=List (D c)):Ev D n:=⟨λe=>.row a (dA b e),pM D a c b d⟩
variable (lf : (n : Nat) → Ev D n)
def E6:(ns:List Nat)->bi D ns->List (TV D)
 |[],_=>[]
 |[n],a=>[(lf n).tv a]
 |n::b::ns,a=>(lf n).tv a.1::E6 (b::ns) a.2
def CL{a b:Type}:Option a->Option b->Option (a×b)
 |some c,c5 d=>c5 (c,d)
 |_,_=>d9
theorem aid{d e:Type}{a:Option d}{b:Option e}{p:d×e}(c:CL a b=c5 p):a=c5 p.1/\b=c5 p.2:=by
 cases a <;> cases b <;> simp[CL] at c
 subst c;exact⟨rfl,rfl⟩
def Au:(ns:List Nat)->List (TV D)->Option (bi D ns)
 |[],[]=>c5 ()
 |[n],[a]=>(lf n).up a
 |n::b::ns,a::c=>CL ((lf n).up a) (Au (b::ns) c)
 |_,_=>d9
def cw{n:Nat}{a:Type}(ns:List Nat)(mk:bi D ns->a)(d:a->bi D ns)(b:D n=a):Ev D n:=
 ⟨λf=>.agg (E6 D lf ns (d (dA b f))),λ
  | .agg e=>(match Au D lf ns e with
   |some c=>c5 (dA b.symm (mk c))
   |none=>d9)
  |_=>d9⟩
end
end Go.X
namespace Go.X
open Go Go.Aml
def lK(a:Int):Option Nat:=bif c3 (1<=a) then(bif c3 (a<=13) then c5 (102+a.toNat) else d9) else d9
end Go.X
