/- For TopWhole, part 2. -/
import Derived.Test.YtfljhldgncdifaaGreatWA
import Derived.Laws.CopyRow
import Derived.ProofKit
import Derived.OpenShut
import Derived.ChangeOld
import Derived.Deep.Slices
import Derived.KernelRfl
import Derived.WalkKit
import Derived.ShutString
import Derived.Below
import Derived.Carry
set_option linter.defProp false
set_option linter.unusedVariables false
set_option linter.unusedSimpArgs false
open Decidable renaming decide → c3
open List renaming getElem?_eq_getElem → c4, mem_append → c6, mem_cons_of_mem → c7, mem_cons → dd, getElem?_append_right → dk, getElem?_append_left → dt, append_assoc → dv, eq_nil_of_length_eq_zero → dT, getElem?_eq_some_iff → e0, length_append → e5, getElem?_map → ec, mem_of_getElem? → ej, getElem?_take_of_lt → eo, getElem?_set_self → ev, mem_map → ey, getElem?_set_ne → eH, append_nil → ft, getElem?_eq_none → ga, range → gv, take_append_drop → gx, getElem?_toArray → gy, length_set → h6, getD_eq_getElem?_getD → h8, length_take → hq, map_cons → hz, replicate → hB, getElem?_drop → hK, mem_range → hL, mem_map_of_mem → hY, getElem?_range → ie, length_drop → ih, mem_cons_self → j3, mem_append_right → j5, length_replicate → j7, eq_of_mem_replicate → k0, nodup_cons → k8, getElem?_cons_zero → kc, flatten_cons → kl, length_map → l3, drop_zero → m2, getElem?_eq_none_iff → m4, mem_range'_1 → m6, map_take → mb, all_eq_true → n0, take_of_length_le → n1, map_map → n2, length_eq_one_iff → ng, nil_append → o3, map_append → o4, singleton_append → o8, range' → o9, mem_append_left → oi, getElem_of_mem → oo, map_drop → oq, countP_append → p4, ext_getElem? → p6, reverse_cons → p7, getElem_mem → q6, range'_succ → q7, not_mem_nil → q8, mem_filter → r0, drop_drop → r3
open Option renaming some → c5, none → ea, bind_eq_some_iff → ei, map_some → l4, bind_some → my, getD_some → qa
open Nat renaming le_of_ble_eq_true → e4, zero_add → e6, le_refl → ef, beq → fe, mul_le_mul_right → gb, lt_or_ge → hI, ble_eq_true_of_le → hM, beq_refl → hQ, add_zero → hS, blt → j8, add_mul → j9, eq_of_beq_eq_true → l0, lt_succ_self → l1, zero_le → l2, le_trans → la, pos_of_ne_zero → m3, ble → m5, min_eq_left → o6, strongRecOn → o7, lt_trichotomy → q3, one_pos → qb, one_mul → qq, min_comm → rb, sub_zero → s5, sub_self → s6, zero_mul → s8
open Option.some renaming injEq → ee
open Go.Builtin renaming zeroCells → ez, clear_ → j1, copy_ → k6, firstCells → p0, lenOf → r4
open Prod.mk renaming inj → eE, injEq → h5
open Go.Result renaming andThen_ok → h7
open Array renaming getElem?_eq_getElem → h9, getD_eq_getD_getElem? → hD, replicate → hP, toArray_toList → hU, mem_toList_iff → hX, getElem?_eq_none → j4, getElem?_toList → j6, getElem?_setIfInBounds_ne → km, getElem_mem → q2
open Bool renaming and_eq_true → j2
open Go.Region renaming wanted → k7, binds → m1, ready → pc
open Classical renaming axiomOfChoice → kd
open Go.Sem renaming run_bind → kh, run_pure → m0
open Go.Op renaming operands → ma, call → s3
open Go.DataW renaming TrodAll → mx, trod → o1
open List.cons renaming injEq → o2
open Go.Instr renaming sureAddr → oj, loadAt → q4
open Go.Call renaming operands → oS
open Go.Value renaming okWide → q5, cells → sp
open Go.Oper renaming wp → r5
open Go.Lit renaming int → s7
open Go.Addr renaming add_lit → sa
open Go.Cell renaming okWide → sn
namespace Go.X
open Go Go.Aml Go.Bml
section
variable {P:Program}{B:Tb}{R:Type}{r:R}
def eJ(B:Tb):List Nat->List (TV B.D)->List (TV B.D)->Prop
 |[],[],[]=>True
 |b::ns,f::e,d::c=>(∃a,B.up b f=c5 a/\d=B.tv b a)/\eJ B ns e c
 |_,_,_=>False
def Ae:∀{ns:List Nat} {f:List (TV B.D)} {b:bi B.D ns->Option R},m9 B ns f b=c5 r->∃c,b c=c5 r/\eJ B ns f (rQ B ns c)
 |[],[],b,a=>⟨(),a,trivial⟩
 |[h],[j],b,a=>by
  obtain⟨c,e,d⟩:=fq (by simpa only[m9] using a);exact⟨c,d,⟨c,e,rfl⟩,trivial⟩
 |h::l::ns,j::k,b,a=>by
  simp only[m9] at a;obtain⟨c,e,a⟩:=fq a;obtain⟨g,d,i⟩:=Ae a;exact⟨(c,g),d,⟨c,e,rfl⟩,i⟩
 |[],_::_,b,a=>by simp[m9] at a
 |[_],[],b,a=>by simp[m9] at a
 |_::_::_,[],b,a=>by simp[m9] at a
 |[_],_::_::_,b,a=>by simp[m9] at a
def eJ.split:∀{ns e:List Nat} {ls d c:List (TV B.D)},eJ B (aX ns e) (aX ls d) c->ls.length=ns.length->∃k j,c=k++j/\eJ B ns ls k/\eJ B e d j
 |[],e,[],d,c,h,_=>⟨[],c,rfl,trivial,h⟩
 |n::ns,e,u::ls,d,m::c,h,a=>by
  obtain⟨t,s⟩:=h;obtain⟨k,j,rfl,l,o⟩:=eJ.split (ns:=ns) (ls:=ls) s (by simpa using a);exact⟨m::k,j,rfl,⟨t,l⟩,o⟩
 |n::ns,e,u::ls,d,[],h,a=>h.elim
 |[],_,_::_,_,_,_,a=>by simp at a
 |_::_,_,[],_,_,_,a=>by simp at a
def yx{s:Nat->Type}{H:List (Ob s)}{i:Nat}:∀{l:List Nat},i∈kY H l↔∃r m v k j,r∈l/\nth H r=c5 ⟨m,v,.hole k [] j⟩/\i∈iB j
 |[]=>by simp[kY]
 |r::l=>by
  have o:=yx (H:=H) (i:=i) (l:=l);unfold kY
  split
  .rename_i m v k j n;rw[bK,c6,o]
   constructor
   .rintro(q |⟨f,d,g,e,h,b,a,c⟩)
    .exact⟨r,m,v,k,j,by simp,n,q⟩
    .exact⟨f,d,g,e,h,c7 _ b,a,c⟩
   .rintro⟨f,d,g,e,h,b,a,c⟩;rcases dd.1 b with rfl |b
    .rw[n] at a;injection a with a
     injection a with _ _ a
     injection a with e1 e2 e3
     subst e1;rw[<-e3] at c;exact .inl c
    .exact .inr ⟨f,d,g,e,h,b,a,c⟩
  .rename_i p;rw[o]
   constructor
   .rintro⟨f,d,g,e,h,b,a,c⟩;exact⟨f,d,g,e,h,c7 _ b,a,c⟩
   .rintro⟨f,d,g,e,h,b,a,c⟩;rcases dd.1 b with rfl |b
    .exact absurd a (p _ _ _ _)
    .exact⟨f,d,g,e,h,b,a,c⟩
def jN{b:Nat->Type}(c:List (Ob b))(a:List Nat)(i:Nat):Prop:=i∈aX a (kY c a)
def jN.mono{D:Nat->Type}{H:List (Ob D)}{d a:List Nat}{i:Nat}(h:jN H d i)(c:∀r,r∈d->r∈a):jN H a i:=by
 unfold jN at h⊢;rw[bK,c6] at h⊢;rcases h with h |h
 .exact .inl (c i h)
 .obtain⟨r,s,v,n,es,j,e,k⟩:=yx.1 h;exact .inr (yx.2 ⟨r,s,v,n,es,c r j,e,k⟩)
def jN.one{D:Nat->Type}{H:List (Ob D)}{a:List Nat}{i:Nat}(h:i∈a):jN H a i:=by
 unfold jN;rw[bK,c6];exact .inl h
def aoW{g:Gh}{y:List aO}{m:World}{r:Nat}{o:aO}{w:Value}{n:Nat->Prop}{h:List PV}(E:qT g y m r o)(j:SL g o r 0 o.es.length w)(x:h.length=o.es.length)(H:∀(i:Nat) (z:PV),h[i]?=c5 z->z.cells.length=o.sz)
 (C:∀b v,g.β r=c5 (b,v)->n b) (K:∀i a c,abk h i a=c5 c->∃p,abk o.es i a=c5 p/\∀d,VR g y m p d->VI n m c d):VI n m (.vs o.sz h) w:=by
 obtain⟨_,j⟩:=j;have t:=E.mem;cases s:g.β r with
 |none=>
  rw[s] at j t;obtain⟨_,h0,u,rfl⟩:=j;have:h=[]:=dT (by omega);subst this;exact .eX o.sz u 0
 |some G=>
  obtain⟨b,v⟩:=G;rw[s] at j t;obtain⟨cap,u,rfl,F,M,I⟩:=j;obtain⟨rfl,rfl⟩:=I rfl;obtain⟨N,cells,L,O,S,Q,D⟩:=t;rw[<-x];have q:∀i a c,abk h i a=c5 c->∃d,cells[i*o.sz+a]?=c5 d/\d.oneCell'=true/\VI n m c d:=λi a c f=>by
   obtain⟨p,A,J⟩:=K i a c f;obtain⟨d,e,k,l⟩:=D i a p A;exact⟨d,e,k,J d l⟩
  refine .vs o.sz h b 0 cap (λi a=>(cells[i*o.sz+a]?).getD undef) (by rw[x];exact F) (C b cap s) H (λi a c f=>?_) (λi a c f=>?_) (λi a c f=>?_)
  .obtain⟨d,e,k,l⟩:=q i a c f;rw[e,e6];unfold World.cell?;rw[L];simpa using e
  .obtain⟨d,e,k,l⟩:=q i a c f;rw[e];exact k
  .obtain⟨d,e,k,l⟩:=q i a c f;rw[e];exact l
def S8{c:List (Ob B.D)}{a:List Nat}{b:TV B.D}:(pv B (ml c a b)).cells=[pv B (ml c a b)]:=by
 unfold ml
 split
 .split
  .cases has a _ <;> rfl
  .rfl
 .rfl
def agS{g:Gh}{e:List (Ob B.D)}{h:World}{f:List Nat}{j:Nat->Option Nat}{d:Nat->Prop}(x:cU P B)(s:bF g (av B e) h){q i:Nat}{v:Value}(u:q∉f->d q)(w:VR g (av B e) h (.fl q i) v):VI (dj g j d).F h (pv B (ml e f (.fl q i))) v:=by
 unfold ml;simp only
 split
 .rename_i n A y;cases p:has f q with
  |true=>exact .any v
  |false=>
   obtain⟨C,o⟩:=fx y;have c:=df o;have m:=lh (w.ub c rfl) c rfl;have:=Ed (s.obj q _ c) m (λz t=>by
    obtain⟨l,_,rfl⟩:=ey.1 t;exact x.lt n l) (F:=(dj g j d).F) (λ_ a=>.inl a) λb k a=>.inr ⟨q,k,u (nA p),a⟩
   simp only[aY] at this;rw[m2,n1 (ef _)] at this;exact this
 .exact .any v
def Hi{c:Nat->Type}{b:List (Ob c)}{d:List Nat}:∀a:List (TV c),qf b d a=a.map (ml b d)
 |[]=>rfl
 |e::a=>by simp only[qf,Hi a,hz]
def Hw{e:Nat->Type}:∀{l:List (TV e)},DA l=true->∀(i:Nat) (b:TV e),l[i]?=c5 b->∃q c,b= .fl q c/\q∈iB l
 |[],_,_,_,a=>by simp at a
 |g::l,d,i,b,a=>by
  cases g with
  |fl q c=>
   cases i with
   |zero=>simp at a;exact⟨q,c,a.symm,by simp[iB,refs,bK]⟩
   |succ i=>
    obtain⟨h,k,j,f⟩:=Hw (l:=l) d i b (by simpa using a);exact⟨h,k,j,by simp only[iB,bK,c6];exact .inr f⟩
  |_=>cases d
mutual
def Jt{g:Gh}{k:List (Ob B.D)}{K:World}{kept:List Nat}{src:Nat->Option Nat}{fz:Nat->Prop}(z:cU P B)(t:bF g (av B k) K):
 ∀(x:TV B.D) (v:Value),(∀i,jN k (refs x) i->i∉kept->fz i)->VR g (av B k) K (pv B x) v->VI (dj g src fz).F K (pv B (kJ k kept x)) v
 | .any,v,d,_=>.any v
 | .z0,v,d,a=>(a.dH .z0).mono (λ_ c=>.inl c) λ_ _=>rfl
 | .fS,v,d,a=>(a.dH .fS).mono (λ_ c=>.inl c) λ_ _=>rfl
 | .bg,v,d,a=>(a.dH .bg).mono (λ_ c=>.inl c) λ_ _=>rfl
 | .dB,v,d,a=>(a.dH .dB).mono (λ_ c=>.inl c) λ_ _=>rfl
 | .int ak s,v,d,a=>(a.dH (.int _ _)).mono (λ_ c=>.inl c) λ_ _=>rfl
 | .bool b,v,d,a=>(a.dH (.bool _)).mono (λ_ c=>.inl c) λ_ _=>rfl
 | .str I,v,d,a=>(a.dH (.str _)).mono (λ_ c=>.inl c) λ_ _=>rfl
 | .row s C,v,d,a=>(a.dH (.vs _ _)).mono (λ_ c=>.inl c) λ_ _=>rfl
 | .rv s an,v,d,a=>(a.dH (.vs _ _)).mono (λ_ c=>.inl c) λ_ _=>rfl
 | .vp u Q,v,d,a=>(a.dH (.dw _ _)).mono (λ_ c=>.inl c) λ_ _=>rfl
 | .ptr ..,v,d,_=>.any v
 | .bu _,v,d,_=>.any v
 | .jC ea,v,d,a=>(a.dH .dB).mono (λ_ c=>.inl c) λ_ _=>rfl
 | .jC (c5 f),v,d,a=>(a.dH (.fn _ _ _ (by simp) (by simp))).mono (λ_ c=>.inl c) λ_ _=>rfl
 | .fl q G,v,d,a=>by
  simp only[kJ];cases S:aK k q G with
  |none=>exact .any v
  |some b=>
   cases b with
   |aap s C=>
    simp only;cases A:has kept q with
    |true=>exact .any v
    |false=>
     obtain⟨I,H⟩:=fx S;have p:=df H;have M:=lh (a.ub p rfl) p rfl;have:=Ed (t.obj q _ p) M (λaf n=>by
      obtain⟨j,_,rfl⟩:=ey.1 n;exact z.lt s j) (F:=(dj g src fz).F) (λ_ c=>.inl c) λb L c=>.inr ⟨q,L,d q (.one (by simp[refs])) (nA A),c⟩
     simp only[aY] at this;rw[m2,n1 (ef _)] at this;exact this
   |box _ _=>exact .any v
   |dead=>exact .any v
   |hole s C w=>
    cases C with
    |cons _ _=>exact .any v
    |nil=>
    simp only;cases A:has kept q with
    |true=>exact .any v
    |false=>
    cases ae:DA w with
    |false=>exact .any v
    |true=>
     obtain⟨I,H⟩:=fx S;have p:=df H;have M:=lh (a.ub p rfl) p rfl;have ab:=t.obj q _ p;have W:(aY B ⟨I,G,.hole s [] w⟩).es=aP B w:=rfl;have ac:∀i,(aP B (qf k kept w))[i]?=(w[i]?).map λx=>pv B (ml k kept x):=λi=>by
      rw[Hi,db,n2,ec]
      rfl
     refine aoW (o:=aY B ⟨I,G,.hole s [] w⟩) ab M (by rw[W,Hi,db,db];simp) (λi af n=>?_) (λb L c=>.inr ⟨q,L,d q (.one (by simp[refs])) (nA A),c⟩) (λi Q Y h=>?_)
     .rw[ac] at n;cases e:w[i]? with
      |none=>rw[e] at n;cases n
      |some x=>
       rw[e] at n;injection n with n
       subst n;obtain⟨J,O,rfl,ad⟩:=Hw ae i x e;have:=ab.width i (.fl J O) (by rw[W,db,ec,e];rfl);rw[S8];exact this
     .unfold abk at h;rw[ac] at h;cases e:w[i]? with
      |none=>rw[e] at h;cases h
      |some x=>
       rw[e] at h;obtain⟨J,O,rfl,ad⟩:=Hw ae i x e;have h:(pv B (ml k kept (.fl J O))).cells[Q]?=c5 Y:=h;rw[S8] at h;cases Q with
       |succ Q=>simp at h
       |zero=>
        have h:c5 (pv B (ml k kept (.fl J O)))=c5 Y:=h;injection h with h
        subst h;refine⟨.fl J O,?_,λam aj=>agS z t (λag=>d J ?_ ag) aj⟩
        .unfold abk;rw[W,db,ec,e]
         rfl
        .unfold jN;rw[bK,c6];exact .inr (yx.2 ⟨q,I,G,s,w,by simp[refs],H,ad⟩)
 | .sl q G al len,v,d,a=>by
  simp only[kJ];cases S:aK k q G with
  |none=>exact .any v
  |some b=>
   cases b with
   |aap s C=>
    simp only;cases A:has kept q with
    |true=>exact .any v
    |false=>
     obtain⟨I,H⟩:=fx S;have p:=df H;have M:=lh a p rfl;have:=Ed (t.obj q _ p) M (λaf n=>by
      obtain⟨j,_,rfl⟩:=ey.1 n;exact z.lt s j) (F:=(dj g src fz).F) (λ_ c=>.inl c) λb L c=>.inr ⟨q,L,d q (.one (by simp[refs])) (nA A),c⟩
     simpa[aY,pv,mb,oq] using this
   |box _ _=>exact .any v
   |dead=>exact .any v
   |hole _ _ _=>exact .any v
 | .agg u,v,d,a=>by
  obtain⟨C,rfl,l,A⟩:=a.ky;exact .agg _ C (by rw[<-l];exact(pH (src:=src) z t u C d l A).1) (pH (src:=src) z t u C d l A).2
 | .fn f u N,v,d,a=>by
  have ai:∃m vs:List Value,v= .func (.func f) m.toArray vs.toArray/\(aP B u).length=m.length/\(∀(i:Nat) (y:PV) (j:Value),(aP B u)[i]?=c5 y->m[i]?=c5 j->VR g (av B k) K y j)/\(aP B N).length=vs.length/\
   (∀(i:Nat) (y:PV) (j:Value),(aP B N)[i]?=c5 y->vs[i]?=c5 j->VR g (av B k) K y j):=by
   have ah:VR g (av B k) K (.fn f (aP B u) (aP B N)) v:=a;cases ah with
   |aW a=>cases a with |fn _ _ _ m vs l U D X=>exact⟨m,vs,rfl,l,λi y j V T=>.aW (U i y j V T),D,λi y j V T=>.aW (X i y j V T)⟩
   |fn _ _ _ m vs l U D X=>exact⟨m,vs,rfl,l,U,D,X⟩
  obtain⟨m,vs,rfl,l,Z,D,aa⟩:=ai;exact .fn f _ _ m vs (by rw[<-l];exact(pH (src:=src) z t u m (λi e=>d i (e.mono λr E=>by simp only[refs,bK,c6];exact .inl E)) l Z).1) (pH (src:=src) z t u m (λi e=>d i (e.mono λr E=>by simp only[refs,bK,c6];exact .inl E)) l Z).2 (by rw[<-D];exact(pH (src:=src) z t N vs (λi e=>d i (e.mono λr E=>by simp only[refs,bK,c6];exact .inr E)) D aa).1) (pH (src:=src) z t N vs (λi e=>d i (e.mono λr E=>by simp only[refs,bK,c6];exact .inr E)) D aa).2
def pH{g:Gh}{e:List (Ob B.D)}{m:World}{kept:List Nat}{src:Nat->Option Nat}{fz:Nat->Prop}(q:cU P B)(n:bF g (av B e) m):
 ∀(c:List (TV B.D)) (d:List Value),(∀i,jN e (iB c) i->i∉kept->fz i)->(aP B c).length=d.length->(∀(i:Nat) (a:PV) (b:Value),(aP B c)[i]?=c5 a->d[i]?=c5 b->VR g (av B e) m a b)->
  (aP B (jS e kept c)).length=(aP B c).length/\∀(i:Nat) (a:PV) (b:Value),(aP B (jS e kept c))[i]?=c5 a->d[i]?=c5 b->VI (dj g src fz).F m a b
 |[],d,_,_,_=>⟨rfl,by simp[jS,aP]⟩
 |a::c,[],_,j,_=>by simp[aP] at j
 |a::c,b::d,o,j,p=>by
  obtain⟨s,v⟩:=pH (src:=src) q n c d (λi l=>o i (l.mono λr k=>by simp only[iB,bK,c6];exact .inr k)) (by simpa[aP] using j) λi a b h f=>p (i+1) a b (by simpa[aP] using h) (by simpa using f)
  refine⟨by simp[jS,aP,s],λi t u h f=>?_⟩
  cases i with
  |zero=>
   simp[jS,aP] at h f;subst h;subst f;exact Jt q n a b (λi l=>o i (l.mono λr k=>by simp only[iB,bK,c6];exact .inl k)) (p 0 _ _ (by simp[aP]) (by simp))
  |succ i=>exact v i t u (by simpa[jS,aP] using h) (by simpa using f)
end
structure mR (B:Tb) (g:Gh) (H H':List (Ob B.D)) (w:World) (ids:List Rf) (kept:List Nat) (src:Nat->Option Nat) (ρ:Nat->Nat×Nat):Prop where
 m:bF g (av B H) w
 num:∀q,(ρ q).1=q
 bG:∀q i,nth ids q=c5 (.bG i)->src q=c5 i/\∃o o',nth H i=c5 o/\nth H' q=c5 o'/\o'.aF=(ρ q).2/\(aY B o').sz=(aY B o).sz/\(aY B o').es.length=(aY B o).es.length
 new:∀q,nth ids q=c5 .new->src q=ea/\∃o',nth H' q=c5 o'/\o'.aF=(ρ q).2/\(aY B o').es=[]
def iK{f:Type}{e b:Option (List f)}{g:List f}(a:cat e b=c5 g):∃d c,e=c5 d/\b=c5 c/\g=aX d c:=by
 unfold cat at a
 split at a
 .injection a with a
  exact⟨_,_,rfl,rfl,a.symm⟩
 .cases a
def e7(a:Ob B.D):(aY B a).aF=a.aF:=by
 unfold aY
 split <;> rfl
def WO{g:Gh}{e p:List (Ob B.D)}{j:World}{o:List Rf}{I:List Nat}{h:Nat->Option Nat}{w:Nat->Prop}{d:Nat->Nat×Nat}(l:mR B g e p j o I h d){q i m F:Nat}{b:Bd B.D}{v:Value}
 (x:nth o q=c5 (.bG i)) (n:nth e i=c5 ⟨F,m,b⟩) (f:VR g (av B e) j (.ptr i m 0 0) v):VR (dj g h w) (av B p) j (.ptr (d q).1 (d q).2 0 0) v:=by
 obtain⟨C,K,D,a,E,y,H,A⟩:=l.bG q i x;rw[n] at a;injection a with a
 subst a;have k:=df n;cases f with
 |aW f=>cases f
 |ptr _ _ _ _ L J c M G=>
  unfold ek at k;rw[k] at c;injection c with c
  subst c;obtain⟨z,s,u,t,rfl⟩:=G (by rw[e7]);rw[l.num];refine .ptr q _ 0 0 (aY B D) _ (df E) (by rw[e7,y];exact ef _) λ_=>⟨by rw[A];exact z,s,u,?_,by rw[H]⟩
  show(h q).bind g.β=_
  rw[C];exact t
def LX{g:Gh}{f u:List (Ob B.D)}{j:World}{t:List Rf}{G:List Nat}{d:Nat->Option Nat}{l:Nat->Prop}{e:Nat->Nat×Nat}(n:mR B g f u j t G d e){q i s E:Nat}{b:Bd B.D}{v:Value}
 (w:nth t q=c5 (.bG i)) (p:nth f i=c5 ⟨E,s,b⟩) (h:VR g (av B f) j (.fl i s) v):VR (dj g d l) (av B u) j (.fl (e q).1 (e q).2) v:=by
 obtain⟨z,H,A,a,D,x,F,o⟩:=n.bG q i w;rw[p] at a;injection a with a
 subst a;have k:=df p;cases h with
 |aW h=>cases h
 |fl _ _ I _ c J y C=>
  unfold ek at k;rw[k] at c;injection c with c
  subst c;rw[n.num];refine .fl q _ (aY B A) _ (df D) (by rw[e7,x];exact ef _) y λ_=>?_
  have m:=C (by rw[e7]);rw[o];unfold SL at m⊢;rw[F,o];rw[show(dj g d l).β q=g.β i by show(d q).bind g.β=_;rw[z];rfl];exact m
def MD{g:Gh}{o h:List (Ob B.D)}{i:World}{e:List Rf}{s:List Nat}{a:Nat->Option Nat}{d:Nat->Prop}{b:Nat->Nat×Nat}(f:mR B g o h i e s a b){q:Nat}{v:Value}
 (l:nth e q=c5 .new) (n:∃c,v= .slice c 0 0):VR (dj g a d) (av B h) i (.fl (b q).1 (b q).2) v:=by
 obtain⟨p,t,j,k,m⟩:=f.new q l;obtain⟨c,rfl⟩:=n;rw[f.num];refine .fl q _ (aY B t) _ (df j) (by rw[e7,k];exact ef _) rfl λ_=>?_
 unfold SL;rw[show(dj g a d).β q=ea by show(a q).bind g.β=_;rw[p];rfl,m];exact⟨by simp,rfl,rfl,c,rfl⟩
def Sb(B:Tb)(g:Gh)(e h:List (Ob B.D))(b:World)(i:Nat->Option Nat)(c:Nat->Prop)(f:CP)(d a:TV B.D):Prop:=
 (MG f=true->cE 0 (pv B a))/\∀v,VR g (av B e) b (pv B d) v->VR (dj g i c) (av B h) b (pv B a) v
def fu{a b:Bool}(c:(bif a then b else false)=true):a=true/\b=true:=by
 cases a with
 |true=>exact⟨rfl,c⟩
 |false=>cases c
mutual
def RY{g:Gh}{D ak:List (Ob B.D)}{w:World}{ad:List Rf}{S:List Nat}{X:Nat->Option Nat}{fz:Nat->Prop}{ac:Nat->Nat×Nat}(M:cU P B)(G:mR B g D ak w ad S X ac):
 ∀(c:CP) (s:TV B.D) (o:List (TV B.D)),(∀i,i∈jn D c s->i∉S->fz i)->eR D ad S c s=c5 o->o.length=c.bX.length/\∀h,eJ B c.bX o h->∃ap,(∀O,hO ac c (h++O)=(ap,O))/\Sb B g D ak w X fz c s ap
 | .any,s,o,t,a=>by
  simp only[eR,ee] at a;subst a;refine⟨rfl,λh m=>?_⟩
  cases h with
  |nil=>exact⟨.any,λ_=>rfl,λ_=>.any,λv _=>.any v⟩
  |cons A h=>exact m.elim
 | .v V,s,o,t,a=>by
  simp only[eR,ee] at a;subst a;refine⟨rfl,λh m=>?_⟩
  match h,m with
  |[A],⟨⟨n,J,aO⟩,_⟩=>
   subst aO;obtain⟨u1,u2⟩:=M.up V _ n J;refine⟨_,λ_=>rfl,λ_=>by rw[M.tv];exact M.lt V n,λv j=>.aW ?_⟩
   rw[M.tv];exact u2.vi (Jt M G.m s v t j)
 | .p q,s,o,t,a=>by
  have T:∃i z H b,s= .ptr i z 0 0/\nth ad q=c5 (.bG i)/\nth D i=c5 ⟨H,z,b⟩/\o=[]:=by
   simp only[eR] at a
   split at a
   .rename_i i z
    split at a
    .rename_i Y k ax d I;obtain⟨p,l⟩:=a8 a;injection l with l
     obtain⟨H,x⟩:=fx d;exact⟨i,z,H,_,rfl,by rw[I,beq_eq p],x,l.symm⟩
    .cases a
   .cases a
  obtain⟨i,z,H,b,rfl,I,x,rfl⟩:=T;refine⟨rfl,λh m=>?_⟩
  cases h with
  |nil=>exact⟨_,λ_=>rfl,λa=>(by cases a),λv j=>WO G I x j⟩
  |cons A h=>exact m.elim
 | .r q,s,o,t,a=>by
  have T:o=[]/\∀v,VR g (av B D) w (pv B s) v->VR (dj g X fz) (av B ak) w (.fl (ac q).1 (ac q).2) v:=by
   simp only[eR] at a
   split at a
   .rename_i i z
    split at a
    .rename_i V ag ax d I;obtain⟨p,l⟩:=a8 a;injection l with l
     obtain⟨H,x⟩:=fx d;exact⟨l.symm,λv j=>LX G (by rw[I,beq_eq p]) x j⟩
    .rename_i V ag bd ax d I;obtain⟨p,l⟩:=a8 a;injection l with l
     obtain⟨H,x⟩:=fx d;exact⟨l.symm,λv j=>LX G (by rw[I,beq_eq p]) x j⟩
    .cases a
   .split at a
    .rename_i I;injection a with a
     exact⟨a.symm,λv j=>MD G I ⟨ea,j.pF⟩⟩
    .cases a
   .split at a
    .rename_i I;injection a with a
     exact⟨a.symm,λv j=>MD G I j.rh⟩
    .cases a
   .cases a
  obtain⟨rfl,j⟩:=T;refine⟨rfl,λh m=>?_⟩
  cases h with
  |nil=>exact⟨_,λ_=>rfl,λa=>(by cases a),j⟩
  |cons A h=>exact m.elim
 | .q N,s,o,t,a=>by
  have T:∃k,ow N=true/\fg D ad S N k=c5 o/\(∀i,i∈gJ D N k->i∉S->fz i)/\((∃Y i z H,s= .ptr i z 0 0/\nth D i=c5 ⟨H,z,.box Y k⟩/\i∉S/\fz i)\/s= .vp k 0):=by
   simp only[eR] at a
   split at a
   .rename_i i z
    split at a
    .rename_i Y k d;obtain⟨H,x⟩:=fx d;cases U:has S i with
     |true=>rw[U] at a;cases a
     |false=>
      rw[U] at a;obtain⟨p,l⟩:=a8 a;refine⟨k,p,l,λe L=>t e ?_,.inl ⟨Y,i,z,H,rfl,x,nA U,t i (by simp[jn]) (nA U)⟩⟩
      simp only[jn,x,dd];exact .inr L
    .cases a
   .rename_i k;obtain⟨p,l⟩:=a8 a;exact⟨k,p,l,t,.inr rfl⟩
   .cases a
  obtain⟨k,aa,d,a0,az⟩:=T;obtain⟨aY,aC⟩:=rm (fz:=fz) M G N k o a0 d;refine⟨aY,λh m=>?_⟩
  obtain⟨y,aT,au,aU,aw⟩:=aC h m;refine⟨.vp y 0,λO=>by simp only[hO,aT O],λ_=>.dw _ _,λv j=>.aW ?_⟩
  have ar:∀(i:Nat) (c:PV),(aP B y)[i]?=c5 c->cE 0 c:=λi c d=>aU aa c (ej d)
  rcases az with⟨Y,i,z,H,rfl,x,_,a5⟩ |rfl
  .have aI:=df x;obtain⟨b,aJ,cells,rfl,E,_,aD,_,_,aB⟩:=Dc G.m j aI (e7 _);have af:∀(i:Nat) (c:PV),(aP B y)[i]?=c5 c->∃u,cells[i]?=c5 u/\u.oneCell'=true/\VI (dj g X fz).F w c u:=λe c d=>by
    have L:e<(aP B k).length:=by have:=c9 d;rw[au] at this;exact this
    obtain⟨u,u1,u2,u3⟩:=aB 0 e _ (show abk [PV.agg (aP B k)] 0 e=c5 (aP B k)[e] by simp[abk,PV.cells,L]);have aQ:cells[e]?=c5 u:=by simpa using u1
    exact⟨u,aQ,u2,(aw e _ c u (c4 L) d u3).dH (ar e c d)⟩
   have:=VI.dw (F:=(dj g X fz).F) (w:=w) (aP B y) 0 b 0 (λe=>cells.getD e undef) (.inr ⟨i,aJ,a5,E⟩)
    (λe c d=>by
     obtain⟨u,u1,u2,u3⟩:=af e c d;rw[cell_of_row w b _ cells _ (0,0) aD,e6,u1];simp[hD,u1])
    (λe c d=>by
     obtain⟨u,u1,u2,u3⟩:=af e c d;simpa[hD,u1] using u2)
    (λe c d=>by
     obtain⟨u,u1,u2,u3⟩:=af e c d;simpa[hD,u1] using u3)
   simpa[pv] using this
  .have aH:VI g.F w (.dw (aP B k) 0) v:=j.dH (.dw _ _);cases aH with
   |dw _ _ b aN u aL a1 p ba=>
    have L:∀(e:Nat) (c:PV),(aP B y)[e]?=c5 c->e<(aP B k).length:=λe c d=>by have:=c9 d;rw[au] at this;exact this
    exact .dw (aP B y) 0 b aN u (.inl aL) (λe c d=>a1 e _ (c4 (L e c d))) (λe c d=>p e _ (c4 (L e c d)))
     λe c d=>(aw e _ c (u e) (c4 (L e c d)) d (.aW (ba e _ (c4 (L e c d))))).dH (ar e c d)
 | .f bc N a3,s,o,t,a=>by
  simp only[eR] at a
  split at a
  .rename_i f k W;obtain⟨aM,Q⟩:=a8 a;clear a;obtain rfl:=beq_eq aM;obtain⟨a9,aR,p,l,rfl⟩:=iK Q;obtain⟨ah,aj⟩:=rm (fz:=fz) M G N k a9 (λi C=>t i (by simp only[jn,bK,c6];exact .inl C)) p;obtain⟨bb,a7⟩:=rm (fz:=fz) M G a3 W aR (λi C=>t i (by simp only[jn,bK,c6];exact .inr C)) l;refine⟨by simp only[CP.bX,bK,e5];omega,λh m=>?_⟩
   obtain⟨aX,aZ,rfl,a4,aK⟩:=eJ.split m ah;obtain⟨y,an,aV,ai,ao⟩:=aj aX a4;obtain⟨aq,aA,bf,aE,aG⟩:=a7 aZ aK;refine⟨.fn f y aq,λO=>by simp only[hO];rw[dv,an,aA],λaa=>?_,λv j=>?_⟩
   .obtain⟨a6,ay⟩:=fu aa;exact .fn _ _ _ (ai a6) (aE ay)
   .have a2:VR g (av B D) w (.fn f (aP B k) (aP B W)) v:=j;have T:∃K vs:List Value,v= .func (.func f) K.toArray vs.toArray/\(aP B k).length=K.length/\(∀(i:Nat) (c:PV) (n:Value),(aP B k)[i]?=c5 c->K[i]?=c5 n->VR g (av B D) w c n)/\(aP B W).length=vs.length/\
     (∀(i:Nat) (c:PV) (n:Value),(aP B W)[i]?=c5 c->vs[i]?=c5 n->VR g (av B D) w c n):=by
     cases a2 with
     |aW a=>cases a with |fn _ _ _ K vs Z am ab al=>exact⟨K,vs,rfl,Z,λi c n p l=>.aW (am i c n p l),ab,λi c n p l=>.aW (al i c n p l)⟩
     |fn _ _ _ K vs Z am ab al=>exact⟨K,vs,rfl,Z,am,ab,al⟩
    obtain⟨K,vs,rfl,Z,aF,ab,aS⟩:=T;refine .fn f _ _ K vs (by show(aP B y).length=_;omega) (λi c n d J=>?_) (by show(aP B aq).length=_;omega) (λi c n d J=>?_)
    .have C:i<(aP B k).length:=by have:=c9 J;omega
     exact ao i _ c n (c4 C) d (aF i _ n (c4 C) J)
    .have C:i<(aP B W).length:=by have:=c9 J;omega
     exact aG i _ c n (c4 C) d (aS i _ n (c4 C) J)
  .cases a
 | .g N,s,o,t,a=>by
  simp only[eR] at a
  split at a
  .rename_i k;obtain⟨ah,aj⟩:=rm (fz:=fz) M G N k o t a;refine⟨ah,λh m=>?_⟩
   obtain⟨y,an,aV,ai,ao⟩:=aj h m;refine⟨.agg y,λO=>by simp only[hO,an O],λaa=>.agg _ (ai aa),λv j=>?_⟩
   obtain⟨ag,rfl,Z,U⟩:=VR.ky j;refine .agg _ ag (by show(aP B y).length=_;omega) λi c n d J=>?_
   have C:i<(aP B k).length:=by have:=c9 J;omega
   exact ao i _ c n (c4 C) d (U i _ n (c4 C) J)
  .cases a
 | .b b,s,o,t,a=>by
  simp only[eR] at a
  split at a
  .rename_i c;have E:b=c/\o=[]:=by
    cases b <;> cases c <;> simp at a <;> exact⟨rfl,a⟩
   obtain⟨rfl,rfl⟩:=E;refine⟨rfl,λh m=>?_⟩
   cases h with
   |nil=>exact⟨.bool b,λ_=>rfl,λ_=>.bool b,λv j=>.aW ((j.dH (.bool b)).mono (λ_ E=>.inl E) λ_ _=>rfl)⟩
   |cons A h=>exact m.elim
  .cases a
 | .i ae V,s,o,t,a=>by
  simp only[eR] at a
  split at a
  .rename_i be A;obtain⟨p,Q⟩:=a8 a;obtain⟨l,Q⟩:=a8 Q;injection Q with Q
   subst Q;clear a;obtain rfl:=qh p;obtain rfl:A=V:=of_decide_eq_true l;refine⟨rfl,λh m=>?_⟩
   cases h with
   |nil=>exact⟨.int ae A,λ_=>rfl,λ_=>.int ae A,λv j=>.aW ((j.dH (.int ae A)).mono (λ_ E=>.inl E) λ_ _=>rfl)⟩
   |cons A h=>exact m.elim
  .cases a
 | .ns,s,o,t,a=>by
  simp only[eR] at a
  split at a
  .injection a with a
   subst a;refine⟨rfl,λh m=>?_⟩
   cases h with
   |nil=>exact⟨.bg,λ_=>rfl,λ_=>.bg,λv j=>.aW ((j.dH .bg).mono (λ_ E=>.inl E) λ_ _=>rfl)⟩
   |cons A h=>exact m.elim
  .cases a
 | .z,s,o,t,a=>by
  simp only[eR] at a
  split at a
  .injection a with a
   subst a;refine⟨rfl,λh m=>?_⟩
   cases h with
   |nil=>exact⟨.dB,λ_=>rfl,λ_=>.dB,λv j=>.aW ((j.dH .dB).mono (λ_ E=>.inl E) λ_ _=>rfl)⟩
   |cons A h=>exact m.elim
  .cases a
def rm{g:Gh}{m A:List (Ob B.D)}{u:World}{z:List Rf}{t:List Nat}{C:Nat->Option Nat}{fz:Nat->Prop}{x:Nat->Nat×Nat}(D:cU P B)(v:mR B g m A u z t C x):
 ∀(c:List CP) (k:List (TV B.D)) (d:List (TV B.D)),(∀i,i∈gJ m c k->i∉t->fz i)->fg m z t c k=c5 d->d.length=(CP.gA c).length/\∀f,eJ B (CP.gA c) d f->∃h,(∀s,jD x c (f++s)=(h,s))/\(aP B h).length=(aP B k).length/\
  (ow c=true->∀a,a∈aP B h->cE 0 a)/\∀(i:Nat) (a l:PV) (j:Value),(aP B k)[i]?=c5 a->(aP B h)[i]?=c5 l->VR g (av B m) u a j->VR (dj g C fz) (av B A) u l j
 |[],[],d,_,b=>by
  simp only[fg,ee] at b;subst b;refine⟨rfl,λf n=>?_⟩
  cases f with
  |nil=>exact⟨[],λ_=>rfl,rfl,λ_ a e=>(by cases e),λi a l j e=>(by simp[aP] at e)⟩
  |cons af f=>exact n.elim
 |a::c,aa::k,d,w,b=>by
  simp only[fg] at b;obtain⟨Z,ab,L,G,rfl⟩:=iK b;obtain⟨ac,ad⟩:=RY (fz:=fz) D v a aa Z (λi q=>w i (by simp only[gJ,bK,c6];exact .inl q)) L;obtain⟨ae,W⟩:=rm (fz:=fz) D v c k ab (λi q=>w i (by simp only[gJ,bK,c6];exact .inr q)) G;refine⟨by simp only[CP.gA,bK,e5];omega,λf n=>?_⟩
  obtain⟨X,F,rfl,N,O⟩:=eJ.split n ac;obtain⟨I,M,T,Q⟩:=ad X N;obtain⟨h,K,Y,E,J⟩:=W F O;refine⟨I::h,λs=>by simp only[jD];rw[dv,M,K],by simp[aP,Y],λU a e=>?_,λi S l j o p y=>?_⟩
  .obtain⟨V,H⟩:=fu U;rcases dd.1 e with rfl |e
   .exact T V
   .exact E H a e
  .cases i with
   |zero=>simp[aP] at o p;subst o;subst p;exact Q j y
   |succ i=>exact J i S l j (by simpa[aP] using o) (by simpa[aP] using p) y
 |[],_::_,d,_,b=>by simp[fg] at b
 |_::_,[],d,_,b=>by simp[fg] at b
end
end
section
variable {P:Program}{B:Tb}{R:Type}{r:R}
def eJ.len:∀{ns:List Nat} {ls a:List (TV B.D)},eJ B ns ls a->a.length=ns.length/\ls.length=ns.length
 |[],[],[],_=>⟨rfl,rfl⟩
 |n::ns,e::ls,m::a,h=>by
  obtain⟨d,c⟩:=eJ.len h.2;exact⟨by simp[d],by simp[c]⟩
 |[],[],_::_,h=>h.elim
 |[],_::_,_,h=>h.elim
 |_::_,[],_,h=>h.elim
 |_::_,_::_,[],h=>h.elim
def eJ.one{n:Nat}{ls c:List (TV B.D)}(h:eJ B [n] ls c):∃a x,ls=[a]/\B.up n a=c5 x/\c=[B.tv n x]:=by
 match ls,c,h with
 |[a],[m],⟨⟨x,e,d⟩,_⟩=>exact⟨a,x,rfl,e,by rw[d]⟩
 |[],_,h=>exact h.elim
 |_::_,[],h=>exact h.elim
 |_::_::_,_::_,⟨_,h⟩=>exact h.elim
 |[_],_::_::_,⟨_,h⟩=>exact h.elim
mutual
def Wb{o:Nat->Type}(g:Nat->Nat×Nat):∀(i:CP) (a:List (TV o)),a.length=i.bX.length->∃n,∀e,hO g i (a++e)=(n,e)
 | .any,a,c=>by
  obtain rfl:=dT (l:=a) (by simpa[CP.bX] using c);exact⟨_,λ_=>rfl⟩
 | .v j,a,c=>by
  match a,c with
  |[u],_=>exact⟨_,λ_=>rfl⟩
 | .p q,a,c=>by
  obtain rfl:=dT (l:=a) (by simpa[CP.bX] using c);exact⟨_,λ_=>rfl⟩
 | .r q,a,c=>by
  obtain rfl:=dT (l:=a) (by simpa[CP.bX] using c);exact⟨_,λ_=>rfl⟩
 | .b b,a,c=>by
  obtain rfl:=dT (l:=a) (by simpa[CP.bX] using c);exact⟨_,λ_=>rfl⟩
 | .i f j,a,c=>by
  obtain rfl:=dT (l:=a) (by simpa[CP.bX] using c);exact⟨_,λ_=>rfl⟩
 | .ns,a,c=>by
  obtain rfl:=dT (l:=a) (by simpa[CP.bX] using c);exact⟨_,λ_=>rfl⟩
 | .z,a,c=>by
  obtain rfl:=dT (l:=a) (by simpa[CP.bX] using c);exact⟨_,λ_=>rfl⟩
 | .q d,a,c=>by
  obtain⟨h,f,_⟩:=pd g d a c;exact⟨.vp h 0,λe=>by simp only[hO,f e]⟩
 | .g d,a,c=>by
  obtain⟨h,f,_⟩:=pd g d a c;exact⟨.agg h,λe=>by simp only[hO,f e]⟩
 | .f k d s,a,c=>by
  simp only[CP.bX,bK,e5] at c;obtain⟨m,f,_⟩:=pd g d (a.take (CP.gA d).length) (by rw[hq];omega);obtain⟨p,t,_⟩:=pd g s (a.drop (CP.gA d).length) (by rw[ih];omega);refine⟨.fn k m p,λe=>?_⟩
  rw[<-gx (CP.gA d).length a,dv];simp only[hO,f,t]
def pd{m:Nat->Type}(e:Nat->Nat×Nat):∀(b:List CP) (a:List (TV m)),a.length=(CP.gA b).length->∃g,(∀f,jD e b (a++f)=(g,f))/\g.length=b.length
 |[],a,d=>by
  obtain rfl:=dT (l:=a) (by simpa[CP.gA] using d);exact⟨[],λ_=>rfl,rfl⟩
 |c::b,a,d=>by
  simp only[CP.gA,bK,e5] at d;obtain⟨k,j⟩:=Wb e c (a.take c.bX.length) (by rw[hq];omega);obtain⟨i,n,h⟩:=pd e b (a.drop c.bX.length) (by rw[ih];omega);refine⟨k::i,λf=>?_,by simp[h]⟩
  rw[<-gx c.bX.length a,dv];simp only[jD,j,n]
end
def Kg{e:Nat->Type}{g:List (Ob e)}{h:List Rf}{i:List Nat}:∀{d:List CP} {c b:List (TV e)},fg g h i d c=c5 b->c.length=d.length
 |[],[],_,_=>rfl
 |n::d,k::c,b,a=>by
  simp only[fg] at a;obtain⟨j,l,m,f,rfl⟩:=iK a;simp[Kg f]
 |[],_::_,b,a=>by simp[fg] at a
 |_::_,[],b,a=>by simp[fg] at a
def mS(t:cU P B){x:List (Ob B.D)}{G:List Rf}{H:List Nat}{ρ:Nat->Nat×Nat}{l:OP}{i:Rf}{u j:List (TV B.D)}(e v:Nat)(a:dn x G H l i=c5 u)(m:eJ B l.bX u j):
 ∃b,(∀f,dI ρ e v l (j++f)=(b,f))/\b.st=e/\b.aF=v/\
  ((∃q k,i= .bG q/\nth x q=c5 k/\(aY B b).ty=(aY B k).ty/\(aY B b).sz=(aY B k).sz/\(aY B b).es.length=(aY B k).es.length)\/(i= .new/\(aY B b).es=[]/\0<(aY B b).sz)):=by
 cases l with
 |aap c A=>
  obtain⟨L,w,rfl,z,rfl⟩:=m.one;cases i with
  |bG q=>
   simp only[dn] at a
   split at a
   .rename_i F y h;obtain⟨g,d⟩:=a8 a;obtain rfl:=beq_eq g;simp only[ee,o2,and_true] at d;subst d;rw[t.row A c y w z];exact⟨⟨e,v,.aap c y⟩,λ_=>rfl,rfl,rfl,.inl ⟨q,_,rfl,h,rfl,rfl,rfl⟩⟩
   .cases a
  |new=>
   simp only[dn,ee,o2,and_true] at a;subst a;rw[t.row A c [] w z];exact⟨⟨e,v,.aap c []⟩,λ_=>rfl,rfl,rfl,.inr ⟨rfl,rfl,t.pos c⟩⟩
  |gone=>simp[dn] at a
  |bad=>simp[dn] at a
 |box D C=>
  cases i with
  |bG q=>
   simp only[dn] at a
   split at a
   .rename_i I J h;obtain⟨g,d⟩:=a8 a;obtain rfl:=beq_eq g;obtain⟨s,o,p⟩:=pd ρ C j m.len.1;have n:=Kg d;exact⟨⟨e,v,.box D s⟩,λf=>by simp only[dI,o f],rfl,rfl,.inl ⟨q,_,rfl,h,rfl,by simp[aY,p,n],rfl⟩⟩
   .cases a
  |new=>simp[dn] at a
  |gone=>simp[dn] at a
  |bad=>simp[dn] at a
 |dead=>cases i <;> simp[dn] at a
 |refs c E=>
  cases i with
  |bG q=>
   simp only[dn] at a
   split at a
   .rename_i F K h;obtain⟨g,d⟩:=a8 a;obtain rfl:=beq_eq g;obtain⟨s,o,p⟩:=pd ρ (iQ E) j m.len.1;have n:=Kg d;exact⟨⟨e,v,.hole c [] s⟩,λf=>by simp only[dI,o f],rfl,rfl,.inl ⟨q,_,rfl,h,rfl,rfl,by simp[aY,db,p,n]⟩⟩
   .cases a
  |new=>simp[dn] at a
  |gone=>simp[dn] at a
  |bad=>simp[dn] at a
def Fq{c:List (Ob B.D)}:∀(a:List Nat) (b:List (TV B.D)),gJ c (iQ a) b=[]
 |[],[]=>rfl
 |[],_::_=>rfl
 |q::a,[]=>rfl
 |q::a,d::b=>by
  simp only[iQ,gJ,jn,aX];exact Fq a b
def QY:∀(a:List Nat),CP.gA (iQ a)=[]
 |[]=>rfl
 |q::a=>by simp only[iQ,CP.gA,CP.bX,aX];exact QY a
def uA{d:Nat->Type}{c:Nat->Nat×Nat}:∀(b:List Nat) (a:List (TV d)),jD c (iQ b) a=(b.map λq=>.fl (c q).1 (c q).2,a)
 |[],a=>rfl
 |q::b,a=>by simp only[iQ,jD,hO,uA b a,hz]
def Fw{j:List (Ob B.D)}{k:List Rf}{l:List Nat}:∀{d:List Nat} {e h:List (TV B.D)},fg j k l (iQ d) e=c5 h->∀c,c∈e->(pv B c).cells=[pv B c]
 |[],[],_,_,c,a=>by cases a
 |[],_::_,_,a,_,_=>by simp[iQ,fg] at a
 |q::d,[],_,a,_,_=>by simp[iQ,fg] at a
 |q::d,c::e,h,a,b,f=>by
  simp only[iQ,fg] at a;obtain⟨n,m,g,i,_⟩:=iK a;rcases dd.1 f with rfl |f
  .cases b <;> simp only[eR] at g <;> first |rfl |cases g
  .exact Fw i b f
def apB(F:cU P B){g:Gh}{x ae:List (Ob B.D)}{V:World}{ad:List Rf}{U:List Nat}{af:Nat->Option Nat}{fz:Nat->Prop}{J:Nat->Nat×Nat}(N:mR B g x ae V ad U af J){E:OP}{q:Nat}{H G:List (TV B.D)}{S v:Nat}{K:Ob B.D}
 (ao:∀ah I S v W u,E= .box ah I->nth x q=c5 ⟨S,v,.box W u⟩->∀i,i∈gJ x I u->i∉U->fz i) (h:dn x ad U E (.bG q)=c5 H) (L:eJ B E.bX H G) (m:∀ag,dI J S v E (G++ag)=(K,ag)):
 (∀(i:Nat) (a:PV),(aY B K).es[i]?=c5 a->a.cells.length=(aY B K).sz)/\
 ∃X,nth x q=c5 X/\∀i e l,abk (aY B K).es i e=c5 l->∃n,abk (aY B X).es i e=c5 n/\∀t,VR g (av B x) V n t->VR (dj g af fz) (av B ae) V l t:=by
 have m:=m [];rw[ft] at m;cases E with
 |aap C n=>
  obtain⟨p,al,rfl,ar,rfl⟩:=L.one;simp only[dn] at h
  split at h
  .rename_i au aa s;obtain⟨w,o⟩:=a8 h;obtain rfl:=beq_eq w;simp only[ee,o2,and_true] at o;subst o;rw[F.row n C aa al ar] at m;simp only[dI,h5,and_true] at m;subst m;have am:∀a,a∈aa.map (B.ty C).enc->cE 0 a:=J2 F;refine⟨λi a j=>?_,_,s,λi e l b=>⟨l,b,λt D=>.aW ((D.dH (nR am b)).mono (λ_ ak=>.inl ak) λ_ _=>rfl)⟩⟩
   obtain⟨an,_,rfl⟩:=ey.1 (ej j);exact F.wid C an
  .cases h
 |box ah I=>
  simp only[dn] at h
  split at h
  .rename_i W u s;obtain⟨w,o⟩:=a8 h;obtain⟨_,Q⟩:=rm (fz:=fz) F N I u H (ao _ _ _ _ _ _ rfl s) o;obtain⟨y,M,ax,_,O⟩:=Q G L;have a:=M [];rw[ft] at a;simp only[dI,a,h5,and_true] at m;subst m;refine⟨λi a j=>?_,_,s,λi e l b=>?_⟩
   .match i,j with
    |0,j=>
     simp only[aY,kc,ee] at j;subst j;simp[aY,PV.cells,db]
   .match i,b with
    |0,b=>
     have z:(aP B y)[e]?=c5 l:=b;have ac:e<(aP B u).length:=by have:=c9 z;omega
     exact⟨(aP B u)[e],c4 ac,λt D=>O e _ l t (c4 ac) z D⟩
  .cases h
 |dead=>simp[dn] at h
 |refs C Z=>
  simp only[dn] at h
  split at h
  .rename_i au f s;obtain⟨w,o⟩:=a8 h;obtain rfl:=beq_eq w;obtain⟨_,Q⟩:=rm (fz:=fz) F N (iQ Z) f H (λi c=>by rw[Fq] at c;cases c) o;obtain⟨y,M,ax,_,O⟩:=Q G L;have a:=M [];rw[ft] at a;simp only[dI,a,h5,and_true] at m;subst m;have aw:y=Z.map λq=>.fl (J q).1 (J q).2:=by
    rw[uA] at a;exact(eE a).1.symm
   have aj:∀(p:List (TV B.D)),(∀d,d∈p->(pv B d).cells=[pv B d])->∀i e n,abk (aP B p) i e=c5 n->e=0/\(aP B p)[i]?=c5 n:=λp ap i e n b=>by
    unfold abk at b;cases c:(aP B p)[i]? with
    |none=>rw[c] at b;cases b
    |some a=>
     rw[c] at b;have b:a.cells[e]?=c5 n:=b;rw[db,ec] at c;cases k:p[i]? with
     |none=>rw[k] at c;cases c
     |some d=>
      rw[k] at c;injection c with c
      subst c;rw[ap d (ej k)] at b;cases e with
      |zero=>injection b with b;exact⟨rfl,by rw[b]⟩
      |succ e=>simp at b
   have ab:∀d,d∈y->(pv B d).cells=[pv B d]:=λd k=>by
    rw[aw] at k;obtain⟨q,_,rfl⟩:=ey.1 k
    rfl
   refine⟨λi a j=>?_,_,s,λi e l b=>?_⟩
   .have j:(aP B y)[i]?=c5 a:=j;have c:i<(aP B f).length:=by have:=c9 j;omega
    have ai:=(N.m.obj _ _ (df s)).width i _ (show(aY B ⟨_,_,.hole C [] f⟩).es[i]?=c5 (aP B f)[i] from c4 c);have w:(aP B f)[i].cells.length=1:=by
     have T:(aP B f)[i]∈f.map (pv B):=by rw[<-db];exact q6 c
     obtain⟨d,k,A⟩:=ey.1 T;rw[<-A,Fw o d k]
     rfl
    have aq:a.cells.length=1:=by
     rw[db] at j;obtain⟨d,k,A⟩:=ey.1 (ej j);rw[<-A,ab d k]
     rfl
    rw[aq, <-w,ai]
    rfl
   .obtain⟨rfl,z⟩:=aj y ab i e l b;have c:i<(aP B f).length:=by have:=c9 z;omega
    have Y:(aP B f)[i]?=c5 (aP B f)[i]:=c4 c;refine⟨(aP B f)[i],?_,λt D=>O i _ l t Y z D⟩
    unfold abk;show((aP B f)[i]?.bind λa=>a.cells[0]?)=_
    rw[Y];have T:(aP B f)[i]∈f.map (pv B):=by rw[<-db];exact q6 c
    obtain⟨d,k,A⟩:=ey.1 T;rw[<-A];show(pv B d).cells[0]?=_
    rw[Fw o d k]
    rfl
  .cases h
def xN{g:List (Ob B.D)}{m:List Rf}{j:List Nat}{ρ:Nat->Nat×Nat}(X:cU P B):∀{E:List (Nat×List Nat×OP)} {F:List Rf} {d k:List (TV B.D)} {q0:Nat},iP g m j E F=c5 d->eJ B (rS E) d k->
 ∃D,(∀u,lM ρ q0 E (k++u)=(D,u))/\D.length=F.length/\∀h i,F[h]?=c5 i->∃s I K L,D[h]?=c5 L/\dn g m j s i=c5 I/\eJ B s.bX I K/\(∀u,dI ρ 0 (ρ (q0+h)).2 s (K++u)=(L,u))/\
  ∀w e C M v H y,s= .box w e->i= .bG C->nth g C=c5 ⟨M,v,.box H y⟩->∀z,z∈gJ g e y->z∈eW g E F
 |[],[],d,k,q0,a,p=>by
  simp only[iP,ee] at a;subst a;cases k with
  |nil=>exact⟨[],λ_=>rfl,rfl,by simp⟩
  |cons J k=>exact p.elim
 |A::E,i::F,d,k,q0,a,p=>by
  simp only[iP] at a;obtain⟨t,N,c,x,rfl⟩:=iK a;have ao:t.length=A.2.2.bX.length:=by
   have:=p.len.2;cases l:A.2.2 with
   |aap J n=>
    rw[l] at c;cases i <;> simp only[dn] at c
    .split at c
     .obtain⟨_,c⟩:=a8 c;injection c with c;subst c;rfl
     .cases c
    .injection c with c;subst c;rfl
    .cases c
    .cases c
   |box w e=>
    rw[l] at c;cases i <;> simp only[dn] at c
    .split at c
     .obtain⟨_,c⟩:=a8 c;exact Q7 c
     .cases c
    .cases c
    .cases c
    .cases c
   |dead=>rw[l] at c;cases i <;> simp[dn] at c
   |refs J al=>
    rw[l] at c;cases i <;> simp only[dn] at c
    .split at c
     .obtain⟨_,c⟩:=a8 c;exact Q7 c
     .cases c
    .cases c
    .cases c
    .cases c
  obtain⟨am,ar,rfl,V,ab⟩:=eJ.split p ao;obtain⟨D,Z,an,af⟩:=xN (ρ:=ρ) (q0:=q0+1) X x ab;obtain⟨T,Y,_⟩:=mS X (ρ:=ρ) 0 (ρ q0).2 c V;refine⟨T::D,λu=>by simp only[lM];rw[dv,Y,Z],by simp[an],λh ap G=>?_⟩
  cases h with
  |zero=>
   simp at G;subst G;refine⟨A.2.2,t,am,T,rfl,c,V,Y,λw e C M v H y l G O z S=>?_⟩
   obtain⟨aj,ah,Q⟩:=A;obtain rfl:Q= .box w e:=l;subst G;simp only[eW,O,bK,c6];exact .inl S
  |succ h=>
   obtain⟨s,I,K,L,ac,U,ad,ae,aa⟩:=af h ap (by simpa using G);refine⟨s,I,K,L,by simpa using ac,U,ad,by rw[show q0+(h+1)=q0+1+h by omega];exact ae,λw e C M v H y l ag O z S=>?_⟩
   have:=aa w e C M v H y l ag O z S;obtain⟨aj,ah,Q⟩:=A;cases Q with
   |aap J n=>simpa[eW] using this
   |dead=>simpa[eW] using this
   |refs J al=>simpa[eW] using this
   |box aw aq=>
    cases i with
    |bG U=>simp only[eW,bK,c6];exact .inr this
    |new=>simpa[eW] using this
    |gone=>simpa[eW] using this
    |bad=>simpa[eW] using this
 |[],_::_,d,k,q0,a,p=>by simp[iP] at a
 |_::_,[],d,k,q0,a,p=>by simp[iP] at a
where
 Q7 {g:List (Ob B.D)} {m:List Rf} {j:List Nat}:∀{e:List CP} {o d:List (TV B.D)},fg g m j e o=c5 d->d.length=(CP.gA e).length:=λ{e o d} a=>(pp e o d a)
 pp {g:List (Ob B.D)} {m:List Rf} {j:List Nat}:∀(e:List CP) (o d:List (TV B.D)),fg g m j e o=c5 d->d.length=(CP.gA e).length
  |[],[],d,a=>by simp[fg] at a;subst a;rfl
  |n::e,f::o,d,a=>by
   simp only[fg] at a;obtain⟨t,N,c,x,rfl⟩:=iK a;simp only[CP.gA,bK,e5,pp e o N x,aj0 n f t c]
  |[],_::_,d,a=>by simp[fg] at a
  |_::_,[],d,a=>by simp[fg] at a
 aj0 {g:List (Ob B.D)} {m:List Rf} {j:List Nat}:∀(n:CP) (f:TV B.D) (d:List (TV B.D)),eR g m j n f=c5 d->d.length=n.bX.length
  | .any,f,d,a=>by simp[eR] at a;subst a;rfl
  | .v ak,f,d,a=>by simp[eR] at a;subst a;rfl
  | .p q,f,d,a=>by
   simp only[eR] at a
   split at a
   .split at a
    .obtain⟨_,a⟩:=a8 a;injection a with a;subst a;rfl
    .cases a
   .cases a
  | .r q,f,d,a=>by
   simp only[eR] at a
   split at a
   .split at a
    .obtain⟨_,a⟩:=a8 a;injection a with a;subst a;rfl
    .obtain⟨_,a⟩:=a8 a;injection a with a;subst a;rfl
    .cases a
   .split at a
    .injection a with a;subst a;rfl
    .cases a
   .split at a
    .injection a with a;subst a;rfl
    .cases a
   .cases a
  | .q e,f,d,a=>by
   simp only[eR] at a
   split at a
   .rename_i i av
    split at a
    .cases W:has j i with
     |true=>rw[W] at a;cases a
     |false=>
      rw[W] at a;obtain⟨_,a⟩:=a8 a;exact pp e _ d a
    .cases a
   .obtain⟨_,a⟩:=a8 a;exact pp e _ d a
   .cases a
  | .f au e ai,f,d,a=>by
   simp only[eR] at a
   split at a
   .obtain⟨_,a⟩:=a8 a;obtain⟨t,N,c,x,rfl⟩:=iK a;simp only[CP.bX,bK,e5,pp e _ t c,pp ai _ N x]
   .cases a
  | .g e,f,d,a=>by
   simp only[eR] at a
   split at a
   .exact pp e _ d a
   .cases a
  | .b b,f,d,a=>by
   simp only[eR] at a
   split at a
   .rename_i n;cases b <;> cases n <;> simp at a <;> (subst a;rfl)
   .cases a
  | .i h ak,f,d,a=>by
   simp only[eR] at a
   split at a
   .obtain⟨_,a⟩:=a8 a;obtain⟨_,a⟩:=a8 a;injection a with a;subst a;rfl
   .cases a
  | .ns,f,d,a=>by
   simp only[eR] at a
   split at a
   .injection a with a;subst a;rfl
   .cases a
  | .z,f,d,a=>by
   simp only[eR] at a
   split at a
   .injection a with a;subst a;rfl
   .cases a
def Ip(z:cU P B){g:Gh}{A:List (Ob B.D)}{f:St B.D}{D:World}{y:List Rf}{t:List Nat}{C:Nat->Option Nat}{fz:Nat->Prop}{n:Nat->Nat×Nat}(w:mR B g f.H A D y t C n):∀{b:List (Nat×CP)} {j e:List (TV B.D)},(∀i,i∈gK f b->i∉t->fz i)->oz f y t b=c5 j->eJ B (vu b) j e->
 ∀d a,(∃c h,(a,c)∈b/\lk (aX (gR n b e) d) a=h/\Sb B g f.H A D C fz c (lk f.E a) h)\/((∀c,(a,c)∉b)/\lk (aX (gR n b e) d) a=lk d a)
 |[],j,e,_,s,v,d,a=>by
  exact .inr ⟨by simp,rfl⟩
 |p::b,j,e,x,s,v,d,a=>by
  simp only[oz] at s;obtain⟨Q,U,J,G,rfl⟩:=iK s;obtain⟨O,S⟩:=RY (fz:=fz) z w p.2 _ Q (λi o=>x i (by simp only[gK,bK,c6];exact .inl o)) J;obtain⟨N,T,rfl,M,E⟩:=eJ.split v O;obtain⟨h,K,L⟩:=S N M;simp only[gR,K,aX,lk];cases l:fe p.1 a with
  |true=>
   obtain rfl:=beq_eq l;exact .inl ⟨p.2,h,by simp,rfl,L⟩
  |false=>
   have F:p.1≠a:=λm=>by rw[m,hQ] at l;cases l
   rcases Ip (fz:=fz) z w (λi o=>x i (by simp only[gK,bK,c6];exact .inr o)) G E d a with⟨c,H,k,q,I⟩ |⟨k,q⟩
   .exact .inl ⟨c,H,c7 _ k,q,I⟩
   .exact .inr ⟨λc u=>by
     rcases dd.1 u with m |u
     .exact F (by rw[<-m])
     .exact k c u,q⟩
def oQ{d:List (Ob B.D)}{e:List Rf}{f:List Nat}:∀{c:List (Nat×List Nat×OP)} {g:List Rf} {b:List (TV B.D)},iP d e f c g=c5 b->b.length=(rS c).length
 |[],[],b,a=>by simp[iP] at a;subst a;rfl
 |q::c,i::g,b,a=>by
  simp only[iP] at a;obtain⟨n,o,l,j,rfl⟩:=iK a;simp only[rS,bK,e5,oQ j,rD l]
 |[],_::_,b,a=>by simp[iP] at a
 |_::_,[],b,a=>by simp[iP] at a
where
 rD {d:List (Ob B.D)} {e:List Rf} {f:List Nat} {op:OP} {i:Rf} {b:List (TV B.D)} (a:dn d e f op i=c5 b):b.length=op.bX.length:=by
  cases op with
  |aap m p=>
   cases i <;> simp only[dn] at a
   .split at a
    .obtain⟨_,a⟩:=a8 a;injection a with a;subst a;rfl
    .cases a
   .injection a with a;subst a;rfl
   .cases a
   .cases a
  |box s k=>
   cases i <;> simp only[dn] at a
   .split at a
    .obtain⟨_,a⟩:=a8 a;exact xN.pp k _ b a
    .cases a
   .cases a
   .cases a
   .cases a
  |dead=>cases i <;> simp[dn] at a
  |refs m h=>
   cases i <;> simp only[dn] at a
   .split at a
    .obtain⟨_,a⟩:=a8 a;exact xN.pp (iQ h) _ b a
    .cases a
   .cases a
   .cases a
   .cases a
def gV:∀{b:List Rf} {q i:Nat},nth b q=c5 (.bG i)->i∈bL b
 | .bG c::b,0,i,a=>by simp only[nth,ee,Rf.bG.injEq] at a;subst a;simp[bL]
 | .bG c::b,q+1,i,a=>by simp only[nth] at a;simp[bL,gV a]
 | .new::b,q+1,i,a=>by simp only[nth] at a;simpa[bL] using gV a
 | .gone::b,q+1,i,a=>by simp only[nth] at a;simpa[bL] using gV a
 | .bad::b,q+1,i,a=>by simp only[nth] at a;simpa[bL] using gV a
 | .new::_,0,i,a=>by simp[nth] at a
 | .gone::_,0,i,a=>by simp[nth] at a
 | .bad::_,0,i,a=>by simp[nth] at a
 |[],_,_,a=>by simp[nth] at a
def ES:∀{ids:List Rf} {q d i:Nat},(bL ids).Nodup->nth ids q=c5 (.bG i)->nth ids d=c5 (.bG i)->q=d
 |[],_,_,_,_,a,_=>by simp[nth] at a
 |_::_,0,0,_,_,_,_=>rfl
 |e::ids,0,d+1,i,b,a,c=>by
  simp only[nth,ee] at a c;subst a;simp only[bL,k8] at b;exact absurd (gV c) b.1
 |e::ids,q+1,0,i,b,a,c=>by
  simp only[nth,ee] at a c;subst c;simp only[bL,k8] at b;exact absurd (gV a) b.1
 |e::ids,q+1,d+1,i,b,a,c=>by
  have f:(bL ids).Nodup:=by
   cases e <;> simp only[bL,k8] at b <;> first |exact b.2 |exact b
  rw[ES (ids:=ids) f a c]
def eQ(a:List Rf)(q:Nat):Option Nat:=match nth a q with
 |some (.bG i)=>c5 i
 |_=>ea
def qS{b:List Rf}{q i:Nat}(a:eQ b q=c5 i):nth b q=c5 (.bG i):=by
 unfold eQ at a
 split at a
 .rename_i d c;injection a with a
  rw[c,a]
 .cases a
def pn{a:List Rf}{q i:Nat}(b:nth a q=c5 (.bG i)):eQ a q=c5 i:=by unfold eQ;rw[b]
end
section
variable {P:Program}{B:Tb}{R:Type}{r:R}
def Qq{m:Nat->Type}{g:List (Ob m)}:∀{c b:Nat} {f:List Rf},qH g c b f=true->∀i,i<c->nth f i=c5 (.bG (b+i))/\∃d,nth g (b+i)=c5 d/\d.aF=0
 |0,_,_,_,i,o=>by omega
 |c+1,b,[],a,_,_=>by simp[qH] at a
 |c+1,b,.bG h::f,a,i,o=>by
  simp only[qH] at a;obtain⟨l,e⟩:=fu a;obtain rfl:=beq_eq l
  split at e
  .rename_i d j;obtain⟨n,k⟩:=fu e;cases i with
   |zero=>exact⟨rfl,d,j,beq_eq n⟩
   |succ i=>
    have:=Qq k i (by omega);rw[show h+(i+1)=h+1+i by omega];exact this
  .cases e
 |c+1,b,.new::_,a,_,_=>by simp[qH] at a
 |c+1,b,.gone::_,a,_,_=>by simp[qH] at a
 |c+1,b,.bad::_,a,_,_=>by simp[qH] at a
def oU{d:List (Ob B.D)}{i:Nat}{e:aO}(a:(av B d)[i]?=c5 e):∃b,nth d i=c5 b/\e=aY B b:=by
 unfold av at a;rw[ec] at a;cases c:d[i]? with
 |none=>rw[c] at a;cases a
 |some b=>
  rw[c] at a;injection a with a
  exact⟨b,by rw[cJ];exact c,a.symm⟩
def O1(G:cU P B){g:Gh}{h s:List (Ob B.D)}{z:World}{b:List Rf}{t:Nat->Prop}{O:Nat->Nat×Nat}(w:mR B g h s z b (bL b) (eQ b) O)(ao:(bL b).Nodup)(aA:b.length<=s.length)(ax:∀i,t i->∀q,eQ b q≠c5 i)
 (u:∀q c,nth s q=c5 c->(∃o i C A p v,nth b q=c5 (.bG i)/\(∀Y D p v aa I,o= .box Y D->nth h i=c5 ⟨p,v,.box aa I⟩->∀i,i∈gJ h D I->i∉bL b->t i)/\dn h b (bL b) o (.bG i)=c5 C/\eJ B o.bX C A/\∀W,dI O p v o (A++W)=(c,W))\/
  (∃i l,nth b q=c5 (.bG i)/\nth h i=c5 l/\c=l/\∀y L,VR g (av B h) z y L->(∃E k m,aY B l=E/\abk E.es k m=c5 y\/cE 0 y)->VR (dj g (eQ b) t) (av B s) z y L)\/
  (eQ b q=ea/\(aY B c).es=[]/\0<(aY B c).sz)):bF (dj g (eQ b) t) (av B s) z:=by
 refine bF.re w.m ax (λq ay i j ae=>ES ao (qS j) (qS ae)) (λq i j=>?_) λq E aw=>?_
 .have j:=qS j;rw[cJ] at j;have:=c9 j;rw[qL];omega
 .obtain⟨c,an,rfl⟩:=oU aw;rcases u q c an with⟨o,i,C,A,p,v,n,ai,d,K,Q⟩ |⟨i,l,n,N,rfl,au⟩ |⟨a,f,aj⟩
  .obtain⟨ad,ab,_,_,aq⟩:=mS G p v d K;obtain rfl:ad=c:=by
    have ar:=ab [];have M:=Q [];rw[ar] at M;exact(eE M).1
   obtain⟨Z,l,F,af⟩:=apB G w ai d K Q;rcases aq with⟨V,az,e,x,ah,S,ac⟩ |⟨e,_⟩
   .injection e with e
    subst e;rw[F] at x;injection x with x
    subst x;have ag:=(w.m.obj i _ (df F)).pos;refine⟨by rw[S];exact ag,Z,λa=>?_,λV a=>?_⟩
    .rw[pn n] at a;cases a
    .rw[pn n] at a;injection a with a
     subst a;exact⟨_,df F,ah,S,ac,af⟩
   .cases e
  .have u:=w.m.obj i _ (df N);refine⟨u.pos,u.width,λa=>?_,λV a=>?_⟩
   .rw[pn n] at a;cases a
   .rw[pn n] at a;injection a with a
    subst a;refine⟨_,df N,rfl,rfl,rfl,λk m J d=>⟨J,d,λap am=>au J ap am ?_⟩⟩
    cases X:c.bd with
    |aap T al=>
     refine⟨aY B c,k,m,.inr (nR (es:=(aY B c).es) (λe f=>?_) d)⟩
     simp only[aY,X] at f;obtain⟨ak,_,rfl⟩:=ey.1 f;exact G.lt T ak
    |box Y D=>
     exact⟨aY B c,k,m,.inl ⟨rfl,d⟩⟩
    |hole T al es=>
     exact⟨aY B c,k,m,.inl ⟨rfl,d⟩⟩
    |dead=>
     obtain⟨e,f,_⟩:=gw d;simp[aY,X] at f
  .refine⟨aj,λi e U=>?_,λ_=>f,λi H=>?_⟩
   .rw[f] at U;simp at U
   .rw[a] at H;cases H
def PQ(u:cU P B){p:bY}{c:St B.D}{a:List Rf}{S:List (TV B.D)}{m:bi B.D p.bX}(w:leaves p c a=c5 S)(ac:eJ B p.bX S (rQ B p.bX m)){g:Gh}{f:World}(ao:bF g (av B c.H) f)
 {fz:Nat->Prop} (aq:∀i,fz i->∀q,eQ a q≠c5 i) (V:∀i,i∈aX (eW c.H p.dF a) (gK c p.dE)->i∉bL a->fz i):
 (bL a).Nodup/\mR B g c.H (cz B p m).H f a (bL a) (eQ a) (λq=>(q,0))/\bF (dj g (eQ a) fz) (av B (cz B p m).H) f/\
  ∀t v,VR g (av B c.H) f (pv B (lk c.E t)) v->VR (dj g (eQ a) fz) (av B (cz B p m).H) f (pv B (lk (cz B p m).E t)) v:=by
 unfold leaves at w;obtain⟨aA,w⟩:=a8 w;obtain⟨U,w⟩:=a8 w;obtain⟨ay,az,T,aa,rfl⟩:=iK w;obtain⟨C,H,Z,al,X⟩:=eJ.split ac (oQ T);obtain⟨A,W,ax,I⟩:=xN u (ρ:=λq=>(q,0)) (q0:=0) T al;have ad:cz B p m=⟨gR (λq=>(q,0)) p.dE H,A⟩:=by
  unfold cz nI;rw[Z,W]
 rw[ad];have J:mR B g c.H A f a (bL a) (eQ a) (λq=>(q,0)):=by
  refine⟨ao,λ_=>rfl,λq i n=>⟨pn n,?_⟩,λq n=>⟨by unfold eQ;rw[n],?_⟩⟩
  .obtain⟨O,K,C,E,d,j,k,l,G⟩:=I q _ (by rw[<-cJ];exact n);obtain⟨h,x,_,s,y⟩:=mS u (ρ:=λq=>(q,0)) 0 0 j k;obtain rfl:h=E:=by
    have z:=x [];have e:=l [];rw[z] at e;exact(eE e).1
   rcases y with⟨F,M,b,ai,aw,am,ae⟩ |⟨b,_⟩
   .injection b with b
    subst b;exact⟨M,h,ai,by rw[cJ];exact d,s,am,ae⟩
   .cases b
  .obtain⟨O,K,C,E,d,j,k,l,G⟩:=I q _ (by rw[<-cJ];exact n);obtain⟨h,x,_,s,y⟩:=mS u (ρ:=λq=>(q,0)) 0 0 j k;obtain rfl:h=E:=by
    have z:=x [];have e:=l [];rw[z] at e;exact(eE e).1
   rcases y with⟨F,M,b,_⟩ |⟨_,Q,_⟩
   .cases b
   .exact⟨h,by rw[cJ];exact d,s,Q⟩
 refine⟨(tw _).1 U,J,O1 u J ((tw _).1 U) (show a.length<=A.length by omega) aq λq an N=>?_,λt v s=>?_⟩
 .rw[cJ] at N;have n:q<A.length:=c9 N;have o:a[q]?=c5 a[q]:=c4 (by omega);obtain⟨O,K,C,E,d,j,k,l,G⟩:=I q _ o;rw[N] at d;injection d with d
  subst d;have D:nth a q=c5 a[q]:=by rw[cJ];exact o
  obtain⟨h,x,_,s,y⟩:=mS u (ρ:=λq=>(q,0)) 0 0 j k;obtain rfl:h=an:=by
   have z:=x [];have e:=l [];rw[z] at e;exact(eE e).1
  rcases y with⟨F,M,b,_⟩ |⟨b,Q,aj⟩
  .rw[b] at D j;exact .inl ⟨O,F,K,C,_,_,D,λar ah ap v Y ab af ak i o L=>V i (by rw[bK,c6];exact .inl (G ar ah F ap v Y ab af b ak i o)) L,j,k,l⟩
  .rw[b] at D;exact .inr (.inr ⟨by unfold eQ;rw[D],Q,aj⟩)
 .have:=Ip u J (λi o L=>V i (by rw[bK,c6];exact .inr o) L) aa X [] t;rw[bK,ft] at this;rcases this with⟨aB,au,_,b,ag⟩ |⟨_,b⟩
  .show VR _ _ f (pv B (lk (gR _ p.dE H) t)) v
   rw[b];exact ag.2 v s
  .show VR _ _ f (pv B (lk (gR _ p.dE H) t)) v
   rw[b];exact .any v
def EK(L:cU P B){n:Nat}{p:bY}{c:St B.D}{l:bi B.D p.bX->Option R}(a:take B n p c l=c5 r){g:Gh}{w:World}(I:bF g (av B c.H) w):
 ∃b,l b=c5 r/\∃f,bF f (av B (cz B p b).H) w/\Bml.GStep n g (av B c.H) w f (av B (cz B p b).H) w/\∀o v,VR g (av B c.H) w (pv B (lk c.E o)) v->VR f (av B (cz B p b).H) w (pv B (lk (cz B p b).E o)) v:=by
 unfold take at a;obtain⟨j,a⟩:=a8 a;obtain⟨N,s,a⟩:=fq a;obtain⟨b,A,u⟩:=Ae a;refine⟨b,A,?_⟩
 generalize M:nQ c p.dF=K at j s;obtain⟨_,D,t,J⟩:=PQ L s u I (fz:=λi=>∀q,eQ K q≠c5 i) (λ_ a=>a) (λi _ h q C=>h (gV (qS C)));refine⟨_,t,?_,J⟩
 refine Bml.GStep.re λi x h G=>?_
 obtain⟨O,k,rfl⟩:=oU G;obtain⟨m,x,d,F⟩:=Qq j i h;rw[e6] at m d;rw[k] at d;injection d with d
 subst d;obtain⟨H,Q,T,e,E,S,z,y⟩:=D.bG i i m;rw[k] at e;injection e with e
 subst e;exact⟨_,df E,by rw[e7,e7,F];exact l2 _,λ_=>⟨H,z,y⟩⟩
end
structure Ext {D:Nat->Type} (ws:List Nat) (S0 S:St D):Prop where
 e:∀t,t∉ws->lk S.E t=lk S0.E t
 len:S0.H.length<=S.H.length
 h:∀i o0 o,nth S0.H i=c5 o0->nth S.H i=c5 o->o0.st<=o.st/\(o0.st=o.st->o=o0)
def Ext.refl{D:Nat->Type}(d:List Nat)(c:St D):Ext d c c:=⟨λ_ _=>rfl,ef _,λi e j h a=>by rw[h] at a;injection a with a;subst a;exact⟨ef _,λ_=>rfl⟩⟩
def Ext.trans{D:Nat->Type}{c:List Nat}{m a d:St D}(h:Ext c m a)(k:Ext c a d):Ext c m d:=by
 refine⟨λt ht=>(k.e t ht).trans (h.e t ht),la h.len k.len,λi j n h0 w=>?_⟩
 have hi:i<a.H.length:=by
  rw[cJ] at h0;have:=c9 h0;have:=h.len;omega
 have l:nth a.H i=c5 a.H[i]:=by rw[cJ];exact c4 hi
 obtain⟨a1,u⟩:=h.h i j _ h0 l;obtain⟨o,x⟩:=k.h i _ n l w;refine⟨la a1 o,λe=>?_⟩
 have s:j.st=a.H[i].st:=by omega
 have y:a.H[i].st=n.st:=by omega
 rw[x y,u s]
def Ext.more{D:Nat->Type}{e a:List Nat}{d c:St D}(h:Ext e d c)(j:∀t,t∈e->t∈a):Ext a d c:=
 ⟨λt ht=>h.e t λk=>ht (j t k),h.len,h.h⟩
section
variable {P:Program}{B:Tb}{R:Type}{r:R}
def I5{f:Type}:∀{ch:List (Nat×f)} {H:List f},(ch.map (·.1)).Nodup->(∀i a,(i,a)∈ch->i<H.length->nth (b8 H ch) i=c5 a)/\∀i,i∉ch.map (·.1)->nth (b8 H ch) i=nth H i
 |[],H,_=>⟨λi a g=>by simp at g,λi _=>rfl⟩
 |p::ch,H,d=>by
  simp only[hz,k8] at d;obtain⟨h,e⟩:=I5 (ch:=ch) (H:=me H p.1 p.2) d.2;refine⟨λi a c b=>?_,λi b=>?_⟩
  .rcases dd.1 c with rfl |c
   .show nth (b8 (me H i a) ch) i=c5 a
    rw[e i d.1,cJ,iL,ev b]
   .exact h i a c (by rw[iL,h6];exact b)
  .simp only[hz,dd,not_or] at b;show nth (b8 (me H p.1 p.2) ch) i=_
   rw[e i b.2,cJ,cJ,iL,eH (λj=>b.1 j.symm)]
def aov(a:List (Nat×Bool×OP)):DZ a=a.map (·.1):=by
 induction a with
 |nil=>rfl
 |cons c a b=>simp[DZ,b]
def adx{d:List (Nat×Bool×OP)}{i:Nat}(b:bN d i=false):∀c,c∈d->c.1≠i:=by
 induction d with
 |nil=>intro c a;cases a
 |cons g d f=>
  simp only[bN] at b;cases e:fe g.1 i with
  |true=>rw[e] at b;cases b
  |false=>
   rw[e] at b;intro c a;rcases dd.1 a with rfl |a
   .intro h;rw[h,hQ] at e;cases e
   .exact f b c a
def adS{b:List (Nat×Bool×OP)}{i:Nat}(a:bN b i=true):∃c,c∈b/\c.1=i:=by
 induction b with
 |nil=>cases a
 |cons d b f=>
  simp only[bN] at a;cases e:fe d.1 i with
  |true=>exact⟨d,by simp,beq_eq e⟩
  |false=>
   rw[e] at a;obtain⟨c,g,h⟩:=f a;exact⟨c,c7 _ g,h⟩
def IM{b:List (Nat×Bool×OP)}{i:Nat}(a:bN b i=false):gone b i=false:=by
 induction b with
 |nil=>rfl
 |cons e b d=>
  simp only[bN] at a;cases c:fe e.1 i with
  |true=>rw[c] at a;cases a
  |false=>rw[c] at a;simp only[gone,c,cond_false];exact d a
def rc{b:List (Nat×Bool×OP)}{a:Nat×Bool×OP}(d:(b.map (·.1)).Nodup)(c:a∈b):gone b a.1=a.2.2.qj/\mw.kv b a.1=a.2.1/\bN b a.1=true:=by
 induction b with
 |nil=>cases c
 |cons e b g=>
  simp only[hz,k8] at d;rcases dd.1 c with rfl |c
  .simp[gone,mw.kv,bN,hQ]
  .have h:fe e.1 a.1=false:=by
    cases i:fe e.1 a.1 with
    |false=>rfl
    |true=>exact absurd (by rw[beq_eq i];exact hY (f:=(·.1)) c) d.1
   simp only[gone,mw.kv,bN,h,cond_false];exact g d.2 c
def Jf(d:List (Nat×Bool×OP)):∀(a b:Nat) (c:List Rf) (q:Nat),nth (nL d a b c) q=if q<a then c5 (bif gone d (b+q) then .gone else .bG (b+q)) else nth c (q -a)
 |0,b,c,q=>by simp[nL]
 |a+1,b,c,0=>by simp[nL,nth]
 |a+1,b,c,q+1=>by
  simp only[nL,nth];rw[Jf d a (b+1) c q,show b+1+q=b+(q+1) by omega]
  by_cases e:q<a
  .rw[if_pos e,if_pos (by omega)]
  .rw[if_neg e,if_neg (by omega),show q+1 - (a+1)=q -a by omega]
def Pc(d:List (Nat×Bool×OP)):∀(b c:Nat) (a:List Rf),(nL d b c a).length=b+a.length
 |0,c,a=>by simp[nL]
 |b+1,c,a=>by simp[nL,Pc d b];omega
def Ri{p:Nat->Type}{l:List (Nat×Bool×OP)}:∀{h j:List (Ob p)} {g:Nat},calm l g h j=true->∀i c,nth h i=c5 c->∃f,nth j i=c5 f/\(bN l (g+i)=false->c.st=f.st)
 |[],_,_,_,i,c,a=>by simp[nth] at a
 |q::h,b::j,g,a,i,c,d=>by
  simp only[calm] at a;obtain⟨k,o⟩:=fu a;cases i with
  |zero=>
   simp only[nth,ee] at d;subst d;refine⟨b,rfl,λe=>?_⟩
   rw[hS] at e;rw[e] at k;exact beq_eq k
  |succ i=>
   obtain⟨f,m,n⟩:=Ri o i c d;exact⟨f,m,λe=>n (by rw[<-e];congr 1;omega)⟩
 |_::_,[],_,a,i,c,d=>by simp[calm] at a
def vV{s:Nat->Type}{i n:List (Ob s)}:∀{k:List (Nat×Bool×OP)},wH i n k=true->∀c,c∈k->c.1<i.length/\(c.2.1=true->c.2.2≠ .dead/\∃e b,nth i c.1=c5 e/\nth n c.1=c5 b/\e.aF=b.aF)
 |[],_,c,d=>by cases d
 |e::k,a,c,d=>by
  simp only[wH] at a;cases g:e.2.1 with
  |true=>
   rw[g] at a;simp only[cond_true] at a
   split at a
   .rename_i p o l q;cases f:e.2.2.qj with
    |true=>rw[f] at a;cases a
    |false=>
     rw[f] at a;obtain⟨j,h⟩:=fu a;rcases dd.1 d with rfl |d
     .refine⟨by rw[cJ] at l;exact c9 l,λ_=>⟨λc=>(by rw[c] at f;cases f),p,o,l,q,beq_eq j⟩⟩
     .exact vV h c d
   .cases a
  |false=>
   rw[g] at a;simp only[cond_false] at a;obtain⟨j,h⟩:=fu a;rcases dd.1 d with rfl |d
   .refine⟨by rw[<-eu];exact e4 j,λm=>by rw[g] at m;cases m⟩
   .exact vV h c d
def RZ{c:Nat}:∀{e:List (Nat×Bool×OP)},zE c e=true->∀a,a∈e->a.1<c->a.2.1=true/\a.2.2.qj=false
 |[],_,a,b,_=>by cases b
 |m::e,f,a,b,l=>by
  simp only[zE] at f;obtain⟨d,j⟩:=fu f;rcases dd.1 b with rfl |b
  .cases h:m5 c a.1 with
   |true=>have:=e4 h;omega
   |false=>
    rw[h] at d;simp only[cond_false] at d;obtain⟨k,g⟩:=fu d;refine⟨k,?_⟩
    cases i:a.2.2.qj with
    |false=>rfl
    |true=>rw[i] at g;cases g
  .exact RZ j a b l
def NT(w:cU P B){j H0:List (Ob B.D)}{l:List Rf}{m:List Nat}{ρ:Nat->Nat×Nat}:∀{h:List (Nat×Bool×OP)} {x s:List (TV B.D)},pX j l m h=c5 x->eJ B (ux h) x s->x.length=(ux h).length->
 ∃g,(∀e,pU H0 ρ h (s++e)=(g,e))/\g.map (·.1)=h.map (·.1)/\∀i d,(i,d)∈g->∃a,a∈h/\a.1=i/\d.st=dJ H0 i/\d.aF=(ρ i).2/\
  ((a.2.2= .dead/\d.bd= .dead)\/(a.2.2≠ .dead/\∃n p,dn j l m a.2.2 (.bG i)=c5 n/\eJ B a.2.2.bX n p/\∀e,dI ρ (dJ H0 i) (ρ i).2 a.2.2 (p++e)=(d,e)))
 |[],x,s,z,D,_=>by
  simp only[pX,ee] at z;subst z;cases s with
  |nil=>exact⟨[],λ_=>rfl,rfl,λi d k=>by cases k⟩
  |cons A s=>exact D.elim
 |b::h,x,s,z,D,T=>by
  simp only[pX] at z;obtain⟨q,V,c,I,rfl⟩:=iK z;have O:q.length=b.2.2.bX.length:=by
   cases f:b.2.2 with
   |dead=>rw[f] at c;injection c with c;subst c;rfl
   |aap A Q=>rw[f] at c;exact oQ.rD (show dn j l m _ (.bG b.1)=c5 q from c)
   |box S g=>rw[f] at c;exact oQ.rD (show dn j l m _ (.bG b.1)=c5 q from c)
   |refs A M=>rw[f] at c;exact oQ.rD (show dn j l m _ (.bG b.1)=c5 q from c)
  obtain⟨y,C,rfl,o,G⟩:=eJ.split D O;obtain⟨g,t,v,u⟩:=NT w (H0:=H0) (ρ:=ρ) I G G.len.2;cases f:b.2.2 with
  |dead=>
   rw[f] at c o;injection c with c
   subst c;have L:y=[]:=dT o.len.1;subst L;refine⟨(b.1,⟨dJ H0 b.1,(ρ b.1).2,.dead⟩)::g,λe=>by simp only[pU,f,dI,o3,t],by simp[v],λi d k=>?_⟩
   rcases dd.1 k with a |k
   .injection a with e1 e2
    subst e1;subst e2;exact⟨b,by simp,rfl,rfl,rfl,.inl ⟨f,rfl⟩⟩
   .obtain⟨a,F,E⟩:=u i d k;exact⟨a,c7 _ F,E⟩
  |aap A Q=>exact GC w (ρ:=ρ) (H0:=H0) b (by rw[f];simp) (by rw[f] at c;rw[f];exact c) o t v u
  |box S U=>exact GC w (ρ:=ρ) (H0:=H0) b (by rw[f];simp) (by rw[f] at c;rw[f];exact c) o t v u
  |refs A M=>exact GC w (ρ:=ρ) (H0:=H0) b (by rw[f];simp) (by rw[f] at c;rw[f];exact c) o t v u
where
 GC (w:cU P B) {j H0:List (Ob B.D)} {l:List Rf} {m:List Nat} {ρ:Nat->Nat×Nat} {h:List (Nat×Bool×OP)} {q y C:List (TV B.D)} {g:List (Nat×Ob B.D)} (b:Nat×Bool×OP) (hd:b.2.2≠ .dead)
  (c:dn j l m b.2.2 (.bG b.1)=c5 q) (o:eJ B b.2.2.bX q y) (t:∀e,pU H0 ρ h (C++e)=(g,e)) (v:g.map (·.1)=h.map (·.1))
  (u:∀i d,(i,d)∈g->∃a,a∈h/\a.1=i/\d.st=dJ H0 i/\d.aF=(ρ i).2/\
   ((a.2.2= .dead/\d.bd= .dead)\/(a.2.2≠ .dead/\∃n p,dn j l m a.2.2 (.bG i)=c5 n/\eJ B a.2.2.bX n p/\∀e,dI ρ (dJ H0 i) (ρ i).2 a.2.2 (p++e)=(d,e)))):
  ∃g,(∀e,pU H0 ρ (b::h) (y++C++e)=(g,e))/\g.map (·.1)=(b::h).map (·.1)/\∀i d,(i,d)∈g->∃a,a∈b::h/\a.1=i/\d.st=dJ H0 i/\d.aF=(ρ i).2/\
   ((a.2.2= .dead/\d.bd= .dead)\/(a.2.2≠ .dead/\∃n p,dn j l m a.2.2 (.bG i)=c5 n/\eJ B a.2.2.bX n p/\∀e,dI ρ (dJ H0 i) (ρ i).2 a.2.2 (p++e)=(d,e))):=by
  obtain⟨J,H,K,N,_⟩:=mS w (ρ:=ρ) (dJ H0 b.1) (ρ b.1).2 c o;refine⟨(b.1,J)::g,λe=>?_,by simp[v],λi d k=>?_⟩
  .rw[dv];simp only[pU];rw[H];simp only[t]
  .rcases dd.1 k with a |k
   .injection a with e1 e2
    subst e1;subst e2;exact⟨b,by simp,rfl,K,N,.inr ⟨hd,q,y,c,o,H⟩⟩
   .obtain⟨a,F,E⟩:=u i d k;exact⟨a,c7 _ F,E⟩
def HX{e:List (Ob B.D)}{f:List Rf}{g:List Nat}:∀{j:List (Nat×Bool×OP)} {h:List (TV B.D)},pX e f g j=c5 h->h.length=(ux j).length
 |[],h,b=>by simp[pX] at b;subst b;rfl
 |c::j,h,b=>by
  simp only[pX] at b;obtain⟨d,o,a,l,rfl⟩:=iK b;have k:d.length=c.2.2.bX.length:=by
   cases i:c.2.2 with
   |dead=>rw[i] at a;injection a with a;subst a;rfl
   |aap m q=>rw[i] at a;exact oQ.rD (show dn e f g _ (.bG c.1)=c5 d from a)
   |box s p=>rw[i] at a;exact oQ.rD (show dn e f g _ (.bG c.1)=c5 d from a)
   |refs m n=>rw[i] at a;exact oQ.rD (show dn e f g _ (.bG c.1)=c5 d from a)
  simp only[ux,bK,e5,k,HX l]
def D4{h:Nat->Type}(b:List Nat):∀(f:En h) (a:Nat),lk (mN b f) a=if a∈b then .any else lk f a
 |[],a=>by simp[mN,lk]
 |p::r,a=>by
  simp only[mN];cases g:has b p.1 with
  |true=>
   have e:=(oO _ _).1 g;simp only[cond_true,D4 b r a,lk]
   by_cases c:a∈b
   .rw[if_pos c,if_pos c]
   .rw[if_neg c,if_neg c];cases d:fe p.1 a with
    |true=>rw[beq_eq d] at e;exact absurd e c
    |false=>rfl
  |false=>
   simp only[cond_false,lk];cases d:fe p.1 a with
   |true=>
    have:a∉b:=by rw[<-beq_eq d];exact nA g
    rw[if_neg this]
    rfl
   |false=>exact D4 b r a
def Sg{f:List Nat}:∀{d:List (Nat×CP)},ET f d=true->∀b c,(b,c)∈d->b∈f
 |[],_,b,c,a=>by cases a
 |p::d,e,b,c,a=>by
  simp only[ET] at e;obtain⟨i,h⟩:=fu e;rcases dd.1 a with g |a
  .have:=(oO _ _).1 i;rw[<-g] at this;exact this
  .exact Sg h b c a
def cE.UM{f:Nat->Nat->Prop}{c:PV}(h:cE 0 c):Wf f c:=by
 induction h with
 |any=>exact .any
 |bool b=>exact .bool b
 |int k n=>exact .int k n
 |str s=>exact .str s
 |fS=>exact .fS
 |bg=>exact .bg
 |z0=>exact .z0
 |dB=>exact .dB
 |dw a e=>exact .dw a e
 |vs sz es=>exact .vs sz es
 |ptr r v i e h=>omega
 |sl r v off len h=>omega
 |fl r v h=>omega
 |agg a h d=>exact .agg a d
 |bu a h d=>exact .bu a d
 |fn f a l h m d j=>exact .fn f a l d j
end
def F0{b:Nat->Type}(c:List (Ob b))(i v:Nat):Prop:=∃a,nth c i=c5 a/\v<=a.aF
section
variable {P:Program}{B:Tb}{R:Type}{r:R}
structure Cz (B:Tb) (S:St B.D):Prop where
 e:∀t,Wf (F0 S.H) (pv B (lk S.E t))
 h:∀(q:Nat) (o:Ob B.D) (i j:Nat) (c:PV),nth S.H q=c5 o->abk (aY B o).es i j=c5 c->Wf (F0 S.H) c
def UJ(Z:cU P B){a2:Nat}{a J:St B.D}{s:List Nat}{p:lD}{bf:bi B.D p.bX->Option R}(a7:Ext s a J)(co:a2<=a.H.length)(bj:Cz B a)(h:nW B a2 a s p J bf=c5 r){g:Gh}{O:World}(bI:bF g (av B J.H) O):
 ∃aa,bf aa=c5 r/\Ext s a (ik B a s p aa)/\∃g',bF g' (av B (ik B a s p aa).H) O/\Bml.GStep a2 g (av B J.H) O g' (av B (ik B a s p aa).H) O/\
  ∀w v,VR g (av B J.H) O (pv B (lk J.E w)) v->VR g' (av B (ik B a s p aa).H) O (pv B (lk (ik B a s p aa).E w)) v:=by
 unfold nW at h;obtain⟨bn,h⟩:=a8 h;obtain⟨bH,h⟩:=a8 h;obtain⟨bO,h⟩:=a8 h;obtain⟨a3,h⟩:=a8 h;obtain⟨bw,h⟩:=a8 h;obtain⟨ca,h⟩:=a8 h;obtain⟨aO,h⟩:=a8 h;obtain⟨bc,bV,h⟩:=fq h;obtain⟨aa,bx,ae⟩:=Ae h;refine⟨aa,bx,?_⟩
 obtain⟨cp,cd,az,bX,rfl⟩:=iK bV;obtain⟨ck,cc,an,aM,rfl⟩:=iK bX;obtain⟨I,cn,b2,bU,b9⟩:=eJ.split ae (HX az);obtain⟨bb,ay,rfl,b0,b1⟩:=eJ.split b9 (oQ an);generalize ce:nQ J p.new=ap at bO a3 az an aM;generalize aI:nL p.dO (Go.X.len a.H) 0 ap=k at a3 az an aM;have ac:(p.dO.map (·.1)).Nodup:=by rw[<-aov];exact(tw _).1 bw
 let ρ:Nat->Nat×Nat:=λq=>(q,mw a.H p.dO q)
 obtain⟨o,bz,aL,bC⟩:=NT Z (H0:=a.H) (ρ:=ρ) az bU (HX az);obtain⟨u,bY,cf,aV⟩:=xN Z (ρ:=ρ) (q0:=Go.X.len a.H) an b0;have bv:ik B a s p aa=⟨aX (gR ρ p.dE ay) (mN s a.E),aX (b8 a.H o) u⟩:=by
  unfold ik;rw[b2];show(match pU a.H ρ p.dO (I++(bb++ay)) with |(ch,bc)=>_)=_
  rw[bz];show(match lM ρ (Go.X.len a.H) p.new (bb++ay) with |(cg,bc)=>_)=_
  rw[bY]
 rw[bv];have bd:(b8 a.H o).length=a.H.length:=qy _ _;have bD:(o.map (·.1)).Nodup:=by rw[aL];exact ac
 obtain⟨b4,b7⟩:=I5 (ch:=o) (H:=a.H) bD;have cb:(aX (b8 a.H o) u).length=a.H.length+u.length:=by rw[bK,e5,bd]
 have a9:∀q,q<a.H.length->nth (aX (b8 a.H o) u) q=nth (b8 a.H o) q:=λq j=>by
  rw[cJ,cJ,bK,dt (by omega)]
 have aP:∀q,a.H.length<=q->nth (aX (b8 a.H o) u) q=u[q -a.H.length]? :=λq j=>by
  rw[cJ,bK,dk (by omega),bd]
 have Y:∀q,q<a.H.length->nth k q=c5 (bif gone p.dO q then .gone else .bG q):=λq j=>by
  rw[<-aI,Jf,eu,if_pos j,e6]
 have aS:∀q,a.H.length<=q->nth k q=ap[q -a.H.length]? :=λq j=>by
  rw[<-aI,Jf,eu,if_neg (by omega),cJ]
 have cl:k.length=a.H.length+ap.length:=by rw[<-aI,Pc,eu]
 have aw:∀q C,nth a.H q=c5 C->bN p.dO q=false->nth J.H q=c5 C/\nth (aX (b8 a.H o) u) q=c5 C:=λq C m e=>by
  obtain⟨aE,bm,bW⟩:=Ri ca q C m;have c:=(a7.h q C aE m bm).2 (bW (by rw[e6];exact e));refine⟨by rw[bm,c],?_⟩
  rw[a9 q (by rw[cJ] at m;exact c9 m),b7 q ?_,m];rw[aL];intro bB;obtain⟨c,d,an⟩:=ey.1 bB;exact adx e c d an
 have mo:∀q,bN p.dO q=true->∃c n,c∈p.dO/\c.1=q/\q<a.H.length/\nth (aX (b8 a.H o) u) q=c5 n/\n.st=dJ a.H q/\n.aF=(ρ q).2/\
  ((c.2.2= .dead/\n.bd= .dead)\/(c.2.2≠ .dead/\∃L I,dn J.H k (bL k) c.2.2 (.bG q)=c5 L/\eJ B c.2.2.bX L I/\∀ba,dI ρ (dJ a.H q) (ρ q).2 c.2.2 (I++ba)=(n,ba))):=λq e=>by
  obtain⟨c,d,rfl⟩:=adS e;have bJ:c.1∈o.map (·.1):=by rw[aL];exact hY (f:=(·.1)) d
  obtain⟨⟨q,n⟩,bk,j⟩:=ey.1 bJ;obtain rfl:q=c.1:=j;obtain⟨A,br,bR,ai,Q,af⟩:=bC c.1 n bk;have aZ:=(vV aO c d).1;exact⟨A,n,br,bR,aZ,by rw[a9 _ aZ];exact b4 _ _ bk aZ,ai,Q,af⟩
 let au:Nat->Prop:=λi=>∀q,eQ k q≠c5 i
 have bP:∀i,au i->∀q,eQ k q≠c5 i:=λ_ h=>h
 have a4:∀i,i∉bL k->au i:=λi G q j=>G (gV (qS j))
 have aK:mR B g J.H (aX (b8 a.H o) u) O k (bL k) (eQ k) ρ:=by
  refine⟨bI,λ_=>rfl,λq i j=>⟨pn j,?_⟩,λq j=>⟨by unfold eQ;rw[j],?_⟩⟩
  .by_cases X:q<a.H.length
   .have N:=Y q X;rw[j] at N;cases ar:gone p.dO q with
    |true=>rw[ar] at N;simp at N
    |false=>
     rw[ar] at N;simp only[cond_false,ee,Rf.bG.injEq] at N;subst N;cases e:bN p.dO i with
     |false=>
      have m:nth a.H i=c5 a.H[i]:=by rw[cJ];exact c4 X
      obtain⟨u1,u2⟩:=aw i _ m e;refine⟨_,_,u1,u2,?_,rfl,rfl⟩
      show _=mw a.H p.dO i
      unfold mw;rw[m];simp[e]
     |true=>
      obtain⟨c,n,d,rfl,_,U,ai,Q,af⟩:=mo i e;rcases af with⟨K,_⟩ |⟨_,L,I,x,D,E⟩
      .have:=(rc ac d).1;rw[ar,K] at this;cases this
      .obtain⟨F,S,_,y,ab⟩:=mS Z (ρ:=ρ) (dJ a.H c.1) (ρ c.1).2 x D;obtain rfl:F=n:=by
        have V:=S [];have t:=E [];rw[V] at t;exact(eE t).1
       rcases ab with⟨aA,al,A,z,aF,ak,ah⟩ |⟨A,_⟩
       .injection A with A
        subst A;exact⟨al,F,z,U,Q,ak,ah⟩
       .cases A
   .rw[aS q (by omega)] at j;obtain⟨aR,L,I,aH,ad,x,D,E,a6⟩:=aV _ _ j;obtain⟨F,S,_,y,ab⟩:=mS Z (ρ:=ρ) 0 (ρ (Go.X.len a.H+(q -a.H.length))).2 x D;obtain rfl:F=aH:=by
     have V:=S [];have t:=E [];rw[V] at t;exact(eE t).1
    rcases ab with⟨aA,al,c,z,aF,ak,ah⟩ |⟨c,_⟩
    .injection c with c
     subst c;refine⟨al,F,z,by rw[aP q (by omega)];exact ad,?_,ak,ah⟩
     rw[y,eu,show a.H.length+(q -a.H.length)=q by omega]
    .cases c
  .by_cases X:q<a.H.length
   .have N:=Y q X;rw[j] at N;cases ar:gone p.dO q <;> rw[ar] at N <;> simp at N
   .rw[aS q (by omega)] at j;obtain⟨aR,L,I,aH,ad,x,D,E,a6⟩:=aV _ _ j;obtain⟨F,S,_,y,ab⟩:=mS Z (ρ:=ρ) 0 (ρ (Go.X.len a.H+(q -a.H.length))).2 x D;obtain rfl:F=aH:=by
     have V:=S [];have t:=E [];rw[V] at t;exact(eE t).1
    rcases ab with⟨aA,al,c,_⟩ |⟨_,d,_⟩
    .cases c
    .refine⟨F,by rw[aP q (by omega)];exact ad,?_,d⟩
     rw[y,eu,show a.H.length+(q -a.H.length)=q by omega]
 have bh:∀{W:PV} {v:Value},VR g (av B J.H) O W v->Wf (F0 a.H) W->VR (dj g (eQ k) au) (av B (aX (b8 a.H o) u)) O W v:=λ{W v} y bT=>by
  refine VR.re (g:=g) (g':=dj g (eQ k) au) (λ_ h=>Or.inl h) (λi v aJ bA m bl=>?_) y bT
  obtain⟨C,ax,b6⟩:=bA;have aq:i<a.H.length:=by rw[cJ] at ax;exact c9 ax
  obtain⟨bs,aj,rfl⟩:=oU m;rw[e7] at bl;have bt:∀c,c∈p.dO->c.1=i->(ρ i).2=bif c.2.1 then C.aF else C.aF+1:=λc d bM=>by
   subst bM;obtain⟨_,a1,a5⟩:=rc ac d;show mw a.H p.dO c.1=_
   unfold mw;rw[ax];simp[a1,a5]
  cases e:bN p.dO i with
  |false=>
   obtain⟨u1,u2⟩:=aw i C ax e;rw[aj] at u1;injection u1 with u1
   subst u1;refine⟨_,df u2,by rw[e7];exact bl,λc=>⟨c,rfl,rfl,?_⟩⟩
   show(eQ k i).bind g.β=_
   rw[pn (i:=i) (by rw[Y i aq,IM e];rfl)]
   rfl
  |true=>
   obtain⟨c,n,d,rfl,_,U,ai,Q,af⟩:=mo i e;have M:=bt c d rfl;cases am:c.2.1 with
   |false=>
    rw[am] at M;simp only[cond_false] at M;exact⟨_,df U,by rw[e7,Q,M];omega,λaD=>by rw[e7,Q,M] at aD;omega⟩
   |true=>
    rw[am] at M;simp only[cond_true] at M;obtain⟨aQ,aC,b,ao,T,a0⟩:=(vV aO c d).2 am;rw[ax] at ao;injection ao with ao
    subst ao;rw[aj] at T;injection T with T
    subst T;refine⟨_,df U,by rw[e7,Q,M];exact b6,λaD=>?_⟩
    rw[e7,Q,M] at aD;rcases af with⟨K,aN⟩ |⟨aU,L,I,x,D,E⟩
    .exact absurd K aQ
    .obtain⟨F,S,_,cm,ab⟩:=mS Z (ρ:=ρ) (dJ a.H c.1) (ρ c.1).2 x D;obtain rfl:F=n:=by
      have V:=S [];have t:=E [];rw[V] at t;exact(eE t).1
     rcases ab with⟨aA,al,A,z,aF,ak,ah⟩ |⟨A,_⟩
     .injection A with A
      subst A;rw[aj] at z;injection z with z
      subst z;refine⟨by rw[e7,aD];exact a0,ak,ah,?_⟩
      show(eQ k c.1).bind g.β=_
      rw[pn (i:=c.1) (by
       rw[Y c.1 aq,(rc ac d).1];cases K:c.2.2 with
       |dead=>exact absurd K aU
       |aap _ _=>rfl
       |refs _ _=>rfl
       |box _ _=>rfl)]
      rfl
     .cases A
 have be:=λbq w=>Ip Z aK (λi _ G=>a4 i G) aM b1 bq w
 refine⟨⟨λw ae=>?_,by show a.H.length<=(aX (b8 a.H o) u).length;omega,λi C aJ aB m=>?_⟩,dj g (eQ k) au,O1 Z aK ((tw _).1 a3) (show k.length<=(aX (b8 a.H o) u).length by omega) bP λq aE l=>?_,?_,λw v y=>?_⟩
 .show lk (aX (gR ρ p.dE ay) (mN s a.E)) w=_
  rcases be (mN s a.E) w with⟨W,bp,ag,_⟩ |⟨_,c⟩
  .exact absurd (Sg bH w W ag) ae
  .rw[c,D4,if_neg ae]
 .have l:nth (aX (b8 a.H o) u) i=c5 aJ:=m;cases e:bN p.dO i with
  |false=>
   obtain⟨_,u2⟩:=aw i C aB e;rw[u2] at l;injection l with l
   subst l;exact⟨ef _,λ_=>rfl⟩
  |true=>
   obtain⟨c,n,d,rfl,_,U,ai,_⟩:=mo i e;rw[U] at l;injection l with l
   subst l;have:n.st=C.st+1:=by rw[ai];unfold dJ;rw[aB]
   exact⟨by omega,λc=>by omega⟩
 .by_cases X:q<a.H.length
  .have m:nth a.H q=c5 a.H[q]:=by rw[cJ];exact c4 X
   cases e:bN p.dO q with
   |false=>
    obtain⟨u1,u2⟩:=aw q _ m e;rw[u2] at l;injection l with l
    refine .inr (.inl ⟨q,a.H[q],by rw[Y q X,IM e];rfl,u1,l.symm,λW v y bZ=>bh y ?_⟩)
    obtain⟨ci,aC,bQ,ag⟩:=bZ;rcases ag with⟨rfl,ag⟩ |ag
    .exact bj.h q _ aC bQ W m ag
    .exact cE.UM ag
   |true=>
    obtain⟨c,n,d,rfl,_,U,ai,Q,af⟩:=mo q e;rw[U] at l;injection l with l
    subst l;rcases af with⟨K,aN⟩ |⟨aU,L,I,x,D,E⟩
    .refine .inr (.inr ⟨?_,by simp[aY,aN],by simp[aY,aN]⟩)
     unfold eQ;rw[Y _ X,(rc ac d).1,K]
     rfl
    .refine .inl ⟨c.2.2,c.1,L,I,_,_,?_,λ_ _ _ _ _ _ _ _ i _ G=>a4 i G,x,D,E⟩
     rw[Y c.1 X,(rc ac d).1];cases K:c.2.2 with
     |dead=>exact absurd K aU
     |aap _ _=>rfl
     |refs _ _=>rfl
     |box _ _=>rfl
  .have aT:=l;rw[aP q (by omega)] at aT;have j:q -a.H.length<u.length:=c9 aT;have G:ap[q -a.H.length]?=c5 ap[q -a.H.length]:=c4 (by omega);obtain⟨aR,L,I,aH,ad,x,D,E,a6⟩:=aV _ _ G;rw[aT] at ad;injection ad with ad
   subst ad;have aG:nth k q=c5 ap[q -a.H.length]:=by rw[aS q (by omega)];exact G
   obtain⟨F,S,_,y,ab⟩:=mS Z (ρ:=ρ) 0 (ρ (Go.X.len a.H+(q -a.H.length))).2 x D;obtain rfl:F=aE:=by
    have V:=S [];have t:=E [];rw[V] at t;exact(eE t).1
   rcases ab with⟨aA,al,c,_⟩ |⟨c,d,b5⟩
   .rw[c] at aG x;exact .inl ⟨aR,aA,L,I,_,_,aG,λ_ _ _ _ _ _ _ _ i _ G=>a4 i G,x,D,E⟩
   .rw[c] at aG;exact .inr (.inr ⟨by unfold eQ;rw[aG],d,b5⟩)
 .refine Bml.GStep.re λi aJ G m=>?_
  obtain⟨bs,aj,rfl⟩:=oU m;have aq:i<a.H.length:=by omega
  have aB:nth a.H i=c5 a.H[i]:=by rw[cJ];exact c4 aq
  cases e:bN p.dO i with
  |false=>
   obtain⟨u1,u2⟩:=aw i _ aB e;rw[aj] at u1;injection u1 with u1
   subst u1;exact⟨_,df u2,ef _,λ_=>⟨pn (by rw[Y i aq,IM e];rfl),rfl,rfl⟩⟩
  |true=>
   obtain⟨c,n,d,rfl,_,U,ai,Q,af⟩:=mo i e;have am:=(RZ bn c d G).1;obtain⟨aQ,aC,b,ao,T,a0⟩:=(vV aO c d).2 am;rw[aj] at T;injection T with T
   subst T;obtain⟨_,a1,a5⟩:=rc ac d;have M:(ρ c.1).2=aC.aF:=by
    show mw a.H p.dO c.1=_
    unfold mw;rw[ao];simp[a1,a5,am]
   have bo:nth k c.1=c5 (.bG c.1):=by
    rw[Y c.1 aq,(rc ac d).1];cases K:c.2.2 with
    |dead=>exact absurd K aQ
    |aap _ _=>rfl
    |refs _ _=>rfl
    |box _ _=>rfl
   obtain⟨bE,cj,aE,z,aF,ak,ah,b3⟩:=aK.bG c.1 c.1 bo;rw[aj] at z;injection z with z
   subst z;exact⟨_,df aF,by rw[e7,e7,ak,M,a0];exact ef _,λ_=>⟨bE,ah,b3⟩⟩
 .show VR _ _ O (pv B (lk (aX (gR ρ p.dE ay) (mN s a.E)) w)) v
  rcases be (mN s a.E) w with⟨W,bp,_,c,bS⟩ |⟨_,c⟩
  .rw[c];exact bS.2 v y
  .rw[c,D4]
   by_cases ae:w∈s
   .rw[if_pos ae];exact .any v
   .rw[if_neg ae];rw[a7.e w ae] at y;exact bh y (bj.e w)
end
end Go.X
namespace Go.Bml
open Go
def xB(g:Gh)(e:List aO)(f:World)(args:List PV)(b:List Value):Prop:=
 args.length=b.length/\∀(i:Nat) (c:PV) (a:Value),args[i]?=c5 c->b[i]?=c5 a->VR g e f c a
section
variable {P:Program}{nt:Nat}{E:Env}{d:Option Nat}{ty:TypeId}{pos:String}{aft:Array Edge}{gd:Option (Nat×Bool)}
def UP{f:Nat}{s u:List PV}{r:Operand}{k:List Operand}{ci:Array TypeId}{l:Act}{j:World}{g:Gh}{v:List aO}(x:fI g v j nt E l)(F:PE E r= .fn f s u)(H:∀args j,(callFunc f args).run P j= .ok (.enter f args) j):
 ∃y:List Value,(execOp l.eval ⟨d,.call {callee:=.value r,args:=k.toArray,argTypes:=ci},ty,pos,aft,gd⟩).run P j= .ok (.enter f y.toArray) j/\xB g v j (s++k.map (PE E)++u) y:=by
 have n:=F▸x.eval r;have D:∃a vs:List Value,l.eval r= .func (.func f) a.toArray vs.toArray/\s.length=a.length/\(∀(i:Nat) (c:PV) (b:Value),s[i]?=c5 c->a[i]?=c5 b->VR g v j c b)/\u.length=vs.length/\
  (∀(i:Nat) (c:PV) (b:Value),u[i]?=c5 c->vs[i]?=c5 b->VR g v j c b):=by
  generalize l.eval r=z at n;cases n with
  |aW G=>cases G with |fn _ _ _ a vs m n q p=>exact⟨a,vs,rfl,m,λi c b t o=>.aW (n i c b t o),q,λi c b t o=>.aW (p i c b t o)⟩
  |fn _ _ _ a vs m n q p=>exact⟨a,vs,rfl,m,n,q,p⟩
 obtain⟨a,vs,C,m,A,q,p⟩:=D;refine⟨a++k.map l.eval++vs,?_,by simp[m,q],λi c b e h=>?_⟩
 .simp only[execOp,resolve,C,Deferred.ofValue,invoke,kh,m0,h7];rw[show(a.toArray++Array.map l.eval k.toArray++vs.toArray)=(a++k.map l.eval++vs).toArray by simp];exact H _ j
 .by_cases t:i<a.length
  .rw[dv,dt (by omega)] at e h;exact A i c b e h
  .rw[dv,dk (by omega)] at e h;rw[m] at e
   by_cases o:i -a.length<k.length
   .rw[dt (by simpa using o)] at e h;rw[ec] at e h;cases w:k[i -a.length]? with
    |none=>simp[w] at e
    |some B=>
     simp[w] at e h;subst e;subst h;exact x.eval B
   .rw[dk (by simp;omega)] at e h;simp only[l3] at e h;exact p _ c b e h
def WB{H:List aO}{f:Nat}{cs ds:List PV}{fo:Operand}{as:List Operand}{ci:Array TypeId}{K:PV->List aO->Prop}(r:PE E fo= .fn f cs ds)(t:∀args a,(callFunc f args).run P a= .ok (.enter f args) a)
 (u:∀g i a,bF g H a->xB g H a (cs++as.map (PE E)++ds) i->Calls P f i.toArray a λk c=>∃h e v b,k= .returned h/\K v b/\bF e b c/\VR e b c v h/\GStep H.length g H a e b c):
 fJ P ⟨d,.call {callee:=.value fo,args:=as.toArray,argTypes:=ci},ty,pos,aft,ea⟩ E H K:=by
 intro g nt w a j y x n;obtain⟨i,s,q⟩:=UP (d:=d) (ty:=ty) (pos:=pos) (aft:=aft) (gd:=ea) (ci:=ci) j.e r t;unfold r5;rw[s,Oper.upon_enter];refine(u g i a j.m q).mono ?_
 rintro k c ⟨h,e,v,b,rfl,p,l,o,m⟩;exact n h c e v b p o l m
end
end Go.Bml
namespace Go.X
open Go Go.Aml Go.Bml
section
variable {P:Program}{B:Tb}
def en(B:Tb):List Nat->List (TV B.D)->Prop
 |[],[]=>True
 |d::ns,b::a=>(∃c,b=B.tv d c)/\en B ns a
 |_,_=>False
def NA:∀(ns:List Nat) (a:bi B.D ns),en B ns (rQ B ns a)
 |[],_=>trivial
 |[b],a=>⟨⟨a,rfl⟩,trivial⟩
 |b::c::ns,a=>⟨⟨a.1,rfl⟩,NA (c::ns) a.2⟩
def en.split:∀{ns d:List Nat} {a:List (TV B.D)},en B (aX ns d) a->∃e c,a=e++c/\en B ns e/\en B d c
 |[],d,a,h=>⟨[],a,rfl,trivial,h⟩
 |n::ns,d,m::a,h=>by
  obtain⟨e,c,rfl,j,k⟩:=en.split (ns:=ns) h.2;exact⟨m::e,c,rfl,⟨h.1,j⟩,k⟩
 |_::_,_,[],h=>h.elim
def en.nil{a:List (TV B.D)}(h:en B [] a):a=[]:=by
 cases a with
 |nil=>rfl
 |cons m a=>exact h.elim
structure Two (B:Tb) (g g':Gh) (H H':List aO) (w:World) (t t':TV B.D):Prop where
 vr:∀v,VR g H w (pv B t) v->VR g' H' w (pv B t') v
 vi:∀v,VI g.F w (pv B t) v->VI g'.F w (pv B t') v
structure E8 (B:Tb) (g g':Gh) (H H':List aO) (w:World) (ts ts':List (TV B.D)):Prop where
 len:(aP B ts').length=(aP B ts).length
 vr:∀(i:Nat) (c c':PV) (v:Value),(aP B ts)[i]?=c5 c->(aP B ts')[i]?=c5 c'->VR g H w c v->VR g' H' w c' v
 vi:∀(i:Nat) (c c':PV) (v:Value),(aP B ts)[i]?=c5 c->(aP B ts')[i]?=c5 c'->VI g.F w c v->VI g'.F w c' v
variable {g g':Gh}{H H':List aO}{w:World}{ρ ρ':Nat->Nat×Nat}
mutual
def Qy(y:cU P B)(K:∀q v,VR g H w (.ptr (ρ q).1 (ρ q).2 0 0) v->VR g' H' w (.ptr (ρ' q).1 (ρ' q).2 0 0) v)(L:∀q v,VR g H w (.fl (ρ q).1 (ρ q).2) v->VR g' H' w (.fl (ρ' q).1 (ρ' q).2) v):
 ∀(c:CP) (j:List (TV B.D)),en B c.bX j->((∀b,g.F b->g'.F b)\/Kk B.flat c=true)->∃Y W,(∀p,hO ρ c (j++p)=(Y,p))/\(∀p,hO ρ' c (j++p)=(W,p))/\Two B g g' H H' w Y W
 | .any,j,e,_=>by
  obtain rfl:=en.nil e;exact⟨_,_,λ_=>rfl,λ_=>rfl,λv _=>.any v,λv _=>.any v⟩
 | .v s,j,e,o=>by
  match j,e with
  |[ak],⟨⟨d,h⟩,_⟩=>
   subst h;have k:∀v,VI g.F w (pv B (B.tv s d)) v->VI g'.F w (pv B (B.tv s d)) v:=λv a=>by
    rcases o with o |o
    .exact a.mono o λ_ _=>rfl
    .rw[y.tv] at a⊢;exact y.aqv s d o _ _ _ _ v a
   exact⟨_,_,λ_=>rfl,λ_=>rfl,λv a=>.aW (k v (a.dH (by rw[y.tv];exact y.lt s d))),k⟩
 | .p q,j,e,_=>by
  obtain rfl:=en.nil e;exact⟨_,_,λ_=>rfl,λ_=>rfl,K q,λv a=>by cases a⟩
 | .r q,j,e,_=>by
  obtain rfl:=en.nil e;exact⟨_,_,λ_=>rfl,λ_=>rfl,L q,λv a=>by cases a⟩
 | .b b,j,e,_=>by
  obtain rfl:=en.nil e;have k:∀v,VI g.F w (pv B (.bool b)) v->VI g'.F w (pv B (.bool b)) v:=λv a=>by cases a;exact .bool b
  exact⟨.bool b,.bool b,λ_=>rfl,λ_=>rfl,λv a=>.aW (k v (a.dH (.bool b))),k⟩
 | .i F s,j,e,_=>by
  obtain rfl:=en.nil e;have k:∀v,VI g.F w (pv B (.int F s)) v->VI g'.F w (pv B (.int F s)) v:=λv a=>by cases a;exact .int F s
  exact⟨.int F s,.int F s,λ_=>rfl,λ_=>rfl,λv a=>.aW (k v (a.dH (.int F s))),k⟩
 | .ns,j,e,_=>by
  obtain rfl:=en.nil e;have k:∀v,VI g.F w (pv B (.bg)) v->VI g'.F w (pv B .bg) v:=λv a=>by cases a;exact .bg
  exact⟨.bg,.bg,λ_=>rfl,λ_=>rfl,λv a=>.aW (k v (a.dH .bg)),k⟩
 | .z,j,e,_=>by
  obtain rfl:=en.nil e;have k:∀v,VI g.F w (pv B (.dB)) v->VI g'.F w (pv B .dB) v:=λv a=>by cases a;exact .dB
  exact⟨.dB,.dB,λ_=>rfl,λ_=>rfl,λv a=>.aW (k v (a.dH .dB)),k⟩
 | .q J,j,e,o=>by
  have o:∀b,g.F b->g'.F b:=o.elim id λe=>by cases e
  obtain⟨l,x,G,M,r⟩:=sR y K L J j e (.inl o);have k:∀v,VI g.F w (pv B (.vp l 0)) v->VI g'.F w (pv B (.vp x 0)) v:=λv a=>by
   have A:VI g.F w (.dw (aP B l) 0) v:=a;cases A with
   |dw _ _ b af X ad ab E ai=>
    have O:∀(n:Nat) (c:PV),(aP B x)[n]?=c5 c->n<(aP B l).length:=λn c f=>by have:=c9 f;rw[r.len] at this;exact this
    exact .dw (aP B x) 0 b af X (o b ad) (λn c f=>ab n _ (c4 (O n c f))) (λn c f=>E n _ (c4 (O n c f)))
     λn c f=>r.vi n _ c (X n) (c4 (O n c f)) f (ai n _ (c4 (O n c f)))
  exact⟨.vp l 0,.vp x 0,λp=>by simp only[hO,G p],λp=>by simp only[hO,M p],λv a=>.aW (k v (a.dH (.dw _ _))),k⟩
 | .g J,j,e,o=>by
  obtain⟨l,x,G,M,r⟩:=sR y K L J j e o;refine⟨.agg l,.agg x,λp=>by simp only[hO,G p],λp=>by simp only[hO,M p],λv a=>?_,λv a=>?_⟩
  .obtain⟨U,rfl,t,T⟩:=VR.ky a;refine .agg _ U (by rw[<-t];exact r.len) λi c d f h=>?_
   have m:i<(aP B l).length:=by have:=c9 h;omega
   exact r.vr i _ c d (c4 m) f (T i _ d (c4 m) h)
  .have A:VI g.F w (.agg (aP B l)) v:=a;cases A with
   |agg _ U t T=>
    refine .agg _ U (by rw[<-t];exact r.len) λi c d f h=>?_
    have m:i<(aP B l).length:=by have:=c9 h;omega
    exact r.vi i _ c d (c4 m) f (T i _ d (c4 m) h)
 | .f D J ac,j,e,o=>by
  obtain⟨ag,Z,rfl,E,I⟩:=en.split e;obtain⟨l,x,G,M,r⟩:=sR y K L J ag E (o.imp id λe=>(fu e).1);obtain⟨z,ah,aa,aj,N⟩:=sR y K L ac Z I (o.imp id λe=>(fu e).2);refine⟨.fn D l z,.fn D x ah,λp=>by simp only[hO];rw[dv,G,aa],λp=>by simp only[hO];rw[dv,M,aj],λv a=>?_,λv a=>?_⟩
  .have A:VR g H w (.fn D (aP B l) (aP B z)) v:=a;have ae:∃u vs:List Value,v= .func (.func D) u.toArray vs.toArray/\(aP B l).length=u.length/\(∀(i:Nat) (c:PV) (d:Value),(aP B l)[i]?=c5 c->u[i]?=c5 d->VR g H w c d)/\(aP B z).length=vs.length/\
    (∀(i:Nat) (c:PV) (d:Value),(aP B z)[i]?=c5 c->vs[i]?=c5 d->VR g H w c d):=by
    cases A with
    |aW e=>cases e with |fn _ _ _ u vs t S C V=>exact⟨u,vs,rfl,t,λi c d E I=>.aW (S i c d E I),C,λi c d E I=>.aW (V i c d E I)⟩
    |fn _ _ _ u vs t S C V=>exact⟨u,vs,rfl,t,S,C,V⟩
   obtain⟨u,vs,rfl,t,Q,C,R⟩:=ae;refine .fn D _ _ u vs (by rw[<-t];exact r.len) (λi c d f h=>?_) (by rw[<-C];exact N.len) (λi c d f h=>?_)
   .have m:i<(aP B l).length:=by have:=c9 h;omega
    exact r.vr i _ c d (c4 m) f (Q i _ d (c4 m) h)
   .have m:i<(aP B z).length:=by have:=c9 h;omega
    exact N.vr i _ c d (c4 m) f (R i _ d (c4 m) h)
  .have A:VI g.F w (.fn D (aP B l) (aP B z)) v:=a;cases A with
   |fn _ _ _ u vs t Q C R=>
    refine .fn D _ _ u vs (by rw[<-t];exact r.len) (λi c d f h=>?_) (by rw[<-C];exact N.len) (λi c d f h=>?_)
    .have m:i<(aP B l).length:=by have:=c9 h;omega
     exact r.vi i _ c d (c4 m) f (Q i _ d (c4 m) h)
    .have m:i<(aP B z).length:=by have:=c9 h;omega
     exact N.vi i _ c d (c4 m) f (R i _ d (c4 m) h)
def sR(u:cU P B)(r:∀q v,VR g H w (.ptr (ρ q).1 (ρ q).2 0 0) v->VR g' H' w (.ptr (ρ' q).1 (ρ' q).2 0 0) v)(t:∀q v,VR g H w (.fl (ρ q).1 (ρ q).2) v->VR g' H' w (.fl (ρ' q).1 (ρ' q).2) v):
 ∀(f:List CP) (h:List (TV B.D)),en B (CP.gA f) h->((∀b,g.F b->g'.F b)\/rr B.flat f=true)->∃l k,(∀d,jD ρ f (h++d)=(l,d))/\(∀d,jD ρ' f (h++d)=(k,d))/\E8 B g g' H H' w l k
 |[],h,c,_=>by
  obtain rfl:=en.nil c;exact⟨[],[],λ_=>rfl,λ_=>rfl,rfl,by simp[aP],by simp[aP]⟩
 |I::f,h,c,s=>by
  obtain⟨E,y,rfl,D,z⟩:=en.split c;obtain⟨G,C,x,F,p⟩:=Qy u r t I E D (s.imp id λc=>(fu c).1);obtain⟨l,k,A,J,n⟩:=sR u r t f y z (s.imp id λc=>(fu c).2);refine⟨G::l,C::k,λd=>by simp only[jD];rw[dv,x,A],λd=>by simp only[jD];rw[dv,F,J],by simp[aP,n.len],λi o m v e a j=>?_,λi o m v e a j=>?_⟩
  .cases i with
   |zero=>simp[aP] at e a;subst e;subst a;exact p.vr v j
   |succ i=>exact n.vr i o m v (by simpa[aP] using e) (by simpa[aP] using a) j
  .cases i with
   |zero=>simp[aP] at e a;subst e;subst a;exact p.vi v j
   |succ i=>exact n.vi i o m v (by simpa[aP] using e) (by simpa[aP] using a) j
end
end
structure Fits (P:Program) (B:Tb) (c:aq B):Prop where
 Q6:∀args w,(callFunc c.cO args).run P w= .ok (.enter c.cO args) w
 calls:∀x y,c.F x=c5 y->∀(g:Gh) (w:World) (as:List Value),as.length=c.na->bF g (av B (cz B c.par x).H) w->
  (∀t,VR g (av B (cz B c.par x).H) w (pv B (lk (cz B c.par x).E t)) (as.getD t undef))->
  Calls P c.cO as.toArray w λe w'=>∃v g',e= .returned v/\bF g' (av B (cz B c.az y).H) w'/\Bml.GStep c.low g (av B (cz B c.par x).H) w g' (av B (cz B c.az y).H) w'/\
   VR g' (av B (cz B c.az y).H) w' (pv B (kR (cz B c.az y).E)) v
section
variable {P:Program}{B:Tb}
def Iz{ρ ρ':Nat->Nat×Nat}{i:OP}{a:List (TV B.D)}(j v g d:Nat)(b:en B i.bX a):
 ∃e f,(∀c,dI ρ j v i (a++c)=(e,c))/\(∀c,dI ρ' g d i (a++c)=(f,c))/\e.aF=v/\f.aF=d/\(aY B f).ty=(aY B e).ty/\(aY B f).sz=(aY B e).sz/\(aY B f).es.length=(aY B e).es.length:=by
 cases i with
 |aap h u=>
  match a,b with
  |[y],_=>
   cases y <;> exact⟨_,_,λ_=>rfl,λ_=>rfl,rfl,rfl,rfl,rfl,rfl⟩
  |_::_::_,⟨_,b⟩=>exact b.elim
 |box n k=>
  have m:a.length=(CP.gA k).length:=by
   have:∀(ns:List Nat) (a:List (TV B.D)),en B ns a->a.length=ns.length:=λns=>by
    induction ns with
    |nil=>intro a b;rw[en.nil b];rfl
    |cons u ns w=>
     intro a b;cases a with
     |nil=>exact b.elim
     |cons h a=>simp[w a b.2]
   exact this _ _ b
  obtain⟨x,s,p⟩:=pd ρ k a m;obtain⟨o,t,r⟩:=pd ρ' k a m;exact⟨⟨j,v,.box n x⟩,⟨g,d,.box n o⟩,λc=>by simp only[dI,s c],λc=>by simp only[dI,t c],rfl,rfl,rfl,by simp[aY,p,r],rfl⟩
 |dead=>
  obtain rfl:=en.nil b;exact⟨⟨j,v,.dead⟩,⟨g,d,.dead⟩,λ_=>rfl,λ_=>rfl,rfl,rfl,rfl,rfl,rfl⟩
 |refs h l=>
  have h0:en B [] a:=by rw[<-QY l];exact b
  obtain rfl:=en.nil h0;refine⟨⟨j,v,.hole h [] (l.map λq=>.fl (ρ q).1 (ρ q).2)⟩,⟨g,d,.hole h [] (l.map λq=>.fl (ρ' q).1 (ρ' q).2)⟩,λ_=>by simp only[dI,uA,o3],λ_=>by simp only[dI,uA,o3],rfl,rfl,rfl,rfl,by simp[aY,db]⟩
def af9(z:cU P B){g g':Gh}{H H':List aO}{w:World}{k h:Nat->Nat×Nat}(ab:∀q v,VR g H w (.ptr (k q).1 (k q).2 0 0) v->VR g' H' w (.ptr (h q).1 (h q).2 0 0) v)(M:∀q v,VR g H w (.fl (k q).1 (k q).2) v->VR g' H' w (.fl (h q).1 (h q).2) v)
 {u:OP} {p:List (TV B.D)} {af v U V:Nat} {E N:Ob B.D} (x:en B u.bX p) (n:(∀b,g.F b->g'.F b)\/uT B.flat B.el u=true) (j:∀y,dI k af v u (p++y)=(E,y)) (e:∀y,dI h U V u (p++y)=(N,y)):
 ∀i a d,abk (aY B N).es i a=c5 d->∃S,abk (aY B E).es i a=c5 S/\∀m,VR g H w S m->VR g' H' w d m:=by
 have j:=j [];have e:=e [];rw[ft] at j e;cases u with
 |aap ac L=>
  match p,x with
  |[ag],⟨⟨X,ad⟩,_⟩=>
   intro i a d f;cases ag with
   |row J C=>
    simp only[dI,h5,and_true] at j e;subst j;subst e;refine⟨d,f,λm s=>.aW ?_⟩
    have Y:∀l,l∈C.map (B.ty J).enc->cE 0 l:=J2 z;have D:=s.dH (nR Y f);rcases n with n |n
    .exact D.mono n λ_ _=>rfl
    .obtain rfl:=z.el L X J C ad.symm;have c:abk (C.map (B.ty (B.el L)).enc) i a=c5 d:=f;obtain⟨l,o,_⟩:=gw c;unfold abk at c;rw[o] at c;obtain⟨aa,_,rfl⟩:=ey.1 (ej o);exact z.flat _ aa n a d c _ _ _ _ m D
   |_=>
    simp only[dI,h5,and_true] at e;subst e;obtain⟨l,o,_⟩:=gw f;simp[aY] at o
  |_::_::_,⟨_,x⟩=>exact x.elim
 |box ah Z=>
  obtain⟨Q,W,T,ae,G⟩:=sR z ab M Z p x n;have O:=T [];have K:=ae [];rw[ft] at O K;simp only[dI,O,h5,and_true] at j;simp only[dI,K,h5,and_true] at e;subst j;subst e;intro i a d f
  match i,f with
  |0,f=>
   have I:(aP B W)[a]?=c5 d:=f;have R:a<(aP B Q).length:=by have:=c9 I;rw[G.len] at this;exact this
   exact⟨(aP B Q)[a],c4 R,λm s=>G.vr a _ d m (c4 R) I s⟩
 |dead=>
  obtain rfl:=en.nil x;simp only[dI,h5,and_true] at e;subst e;intro i a d f;obtain⟨l,o,_⟩:=gw f;simp[aY] at o
 |refs ac r=>
  simp only[dI,uA,h5] at j e;obtain⟨rfl,_⟩:=j;obtain⟨rfl,_⟩:=e;intro i a d f;have F:∀(t:Nat->Nat×Nat) i,(aP B (r.map λq=>.fl (t q).1 (t q).2))[i]?=(r[i]?).map λq=>PV.fl (t q).1 (t q).2:=λt i=>by
   rw[db,n2,ec]
   rfl
  have c:((aP B (r.map λq=>.fl (h q).1 (h q).2))[i]?.bind λl=>l.cells[a]?)=c5 d:=f;rw[F] at c;cases A:r[i]? with
  |none=>rw[A] at c;cases c
  |some q=>
   rw[A] at c;cases a with
   |succ a=>simp[PV.cells] at c
   |zero=>
    have c:c5 (PV.fl (h q).1 (h q).2)=c5 d:=c;injection c with c
    subst c;refine⟨.fl (k q).1 (k q).2,?_,λm s=>M q m s⟩
    show((aP B (r.map λq=>.fl (k q).1 (k q).2))[i]?.bind λl=>l.cells[0]?)=_
    rw[F,A]
    rfl
def Pj{ρ ρ':Nat->Nat×Nat}:∀{os:List (Nat×List Nat×OP)} {e:List (TV B.D)} {q0:Nat},en B (rS os) e->
 ∃j i,(∀b,lM ρ q0 os (e++b)=(j,b))/\(∀b,lM ρ' q0 os (e++b)=(i,b))/\j.length=os.length/\i.length=os.length/\
  ∀a:Nat,a<os.length->∃d h f g,j[a]?=c5 f/\i[a]?=c5 g/\en B d.bX h/\(oN B.flat B.el os=true->uT B.flat B.el d=true)/\
   (∀b,dI ρ 0 (ρ (q0+a)).2 d (h++b)=(f,b))/\(∀b,dI ρ' 0 (ρ' (q0+a)).2 d (h++b)=(g,b))
 |[],e,q0,c=>by
  obtain rfl:=en.nil c;exact⟨[],[],λ_=>rfl,λ_=>rfl,rfl,rfl,λa k=>by simp at k⟩
 |s::os,e,q0,c=>by
  obtain⟨A,F,rfl,m,p⟩:=en.split c;obtain⟨f,g,l,n,_⟩:=Iz (ρ:=ρ) (ρ':=ρ') 0 (ρ q0).2 0 (ρ' q0).2 m;obtain⟨j,i,q,E,t,u,o⟩:=Pj (os:=os) (q0:=q0+1) p;refine⟨f::j,g::i,λb=>by simp only[lM];rw[dv,l,q],λb=>by simp only[lM];rw[dv,n,E],by simp[t],by simp[u],λa k=>?_⟩
  cases a with
  |zero=>exact⟨s.2.2,A,f,g,rfl,rfl,m,λc=>(fu c).1,l,n⟩
  |succ a=>
   obtain⟨d,h,v,x,D,r,y,z,w,C⟩:=o a (by simpa using k);refine⟨d,h,v,x,by simpa using D,by simpa using r,y,λc=>z (fu c).2,?_,?_⟩
   .rw[show q0+(a+1)=q0+1+a by omega];exact w
   .rw[show q0+(a+1)=q0+1+a by omega];exact C
def OR(z:cU P B){g m:Gh}{r s:List aO}{l:World}{j f:Nat->Nat×Nat}(w:∀q v,VR g r l (.ptr (j q).1 (j q).2 0 0) v->VR m s l (.ptr (f q).1 (f q).2 0 0) v)(y:∀q v,VR g r l (.fl (j q).1 (j q).2) v->VR m s l (.fl (f q).1 (f q).2) v):
 ∀{h:List (Nat×CP)} {e:List (TV B.D)},en B (vu h) e->((∀b,g.F b->m.F b)\/tJ B.flat h=true)->E8 B g m r s l ((gR j h e).map (·.2)) ((gR f h e).map (·.2))
 |[],e,d,_=>⟨rfl,by simp[gR,aP],by simp[gR,aP]⟩
 |p::h,e,d,x=>by
  obtain⟨E,G,rfl,D,C⟩:=en.split d;obtain⟨I,H,A,F,u⟩:=Qy z w y p.2 E D (x.imp id λd=>(fu d).1);have o:=OR z w y C (x.imp id λd=>(fu d).2);simp only[gR,A,F,hz];refine⟨by simp[aP,o.len],λi t n v c a k=>?_,λi t n v c a k=>?_⟩
  .cases i with
   |zero=>simp[aP] at c a;subst c;subst a;exact u.vr v k
   |succ i=>exact o.vr i t n v (by simpa[aP] using c) (by simpa[aP] using a) k
  .cases i with
   |zero=>simp[aP] at c a;subst c;subst a;exact u.vi v k
   |succ i=>exact o.vi i t n v (by simpa[aP] using c) (by simpa[aP] using a) k
def al8{g h:Gh}{j k:List aO}{e:World}{a c:List (Nat×TV B.D)}(d:E8 B g h j k e (a.map (·.2)) (c.map (·.2))){v:Value}(f:VR g j e (pv B (kR a)) v):VR h k e (pv B (kR c)) v:=by
 have q:c.length=a.length:=by
  have:=d.len;simpa[db] using this
 have bu:∀(a c:List (Nat×TV B.D)),E8 B g h j k e (a.map (·.2)) (c.map (·.2))->VR g j e (pv B (.bu (a.map (·.2)))) v->VR h k e (pv B (.bu (c.map (·.2)))) v:=λa c d f=>by
  obtain⟨s,rfl,o,r⟩:=VR.Db f;refine .bu _ s (by rw[<-o];exact d.len) λi t l u n=>?_
  have m:i<(aP B (a.map (·.2))).length:=by have:=c9 n;omega
  exact d.vr i _ t l (c4 m) u (r i _ l (c4 m) n)
 match a,c,q with
 |[],[],_=>exact bu [] [] d f
 |[p],[z],_=>exact d.vr 0 _ _ v rfl rfl f
 |w::b::a,y::x::c,_=>exact bu _ _ d f
end
def rH:∀(b a:List Rf),bL (b++a)=bL b++bL a
 |[],a=>rfl
 | .bG i::b,a=>by simp[bL,rH b a]
 | .new::b,a=>by simp[bL,rH b a]
 | .gone::b,a=>by simp[bL,rH b a]
 | .bad::b,a=>by simp[bL,rH b a]
def uM:∀{ids:List Rf} {i:Nat},i∈bL ids->∃q,nth ids q=c5 (.bG i)
 | .bG c::ids,i,a=>by
  rcases dd.1 a with rfl |a
  .exact⟨0,rfl⟩
  .obtain⟨q,b⟩:=uM a;exact⟨q+1,b⟩
 | .new::ids,i,a=>by obtain⟨q,b⟩:=uM (ids:=ids) a;exact⟨q+1,b⟩
 | .gone::ids,i,a=>by obtain⟨q,b⟩:=uM (ids:=ids) a;exact⟨q+1,b⟩
 | .bad::ids,i,a=>by obtain⟨q,b⟩:=uM (ids:=ids) a;exact⟨q+1,b⟩
def Ql:∀{n:Nat} {ids:List Rf},kA n ids=true->∀q,q<n->∃i,nth ids q=c5 (.bG i)
 |0,_,_,q,a=>by omega
 |n+1,.bG i::b,a,0,_=>⟨i,rfl⟩
 |n+1,.bG i::b,a,q+1,c=>Ql (n:=n) (ids:=b) a q (by omega)
 |n+1,[],a,_,_=>by simp[kA] at a
 |n+1,.new::_,a,_,_=>by simp[kA] at a
 |n+1,.gone::_,a,_,_=>by simp[kA] at a
 |n+1,.bad::_,a,_,_=>by simp[kA] at a
section
variable {D:Nat->Type}{H:List (Ob D)}
def JU:∀{n:Nat} {ids:List Rf} {os:List (Ob D)},kA n ids=true->n<=os.length->(iF H (ids.take n) (os.take n)).map (·.1)=bL (ids.take n)/\∀q i b,q<n->nth ids q=c5 (.bG i)->os[q]?=c5 b->(i,(⟨dJ H i,b.aF,b.bd⟩:Ob D))∈iF H (ids.take n) (os.take n)
 |0,_,_,_,_=>⟨by simp[iF,bL],λq i b a=>by omega⟩
 |n+1,.bG i::f,b::os,a,d=>by
  obtain⟨g,h⟩:=JU (n:=n) (ids:=f) (os:=os) a (by simpa using d);refine⟨by simp[iF,bL,g],λq j k l e c=>?_⟩
  cases q with
  |zero=>
   simp only[nth,ee,Rf.bG.injEq,kc] at e c;subst e;subst c;simp[iF]
  |succ q=>
   simp only[List.take_succ_cons,iF,dd];exact .inr (h q j k (by omega) e (by simpa using c))
 |n+1,.bG i::f,[],a,d=>by simp at d
 |n+1,[],_,a,_=>by simp[kA] at a
 |n+1,.new::_,_,a,_=>by simp[kA] at a
 |n+1,.gone::_,_,a,_=>by simp[kA] at a
 |n+1,.bad::_,_,a,_=>by simp[kA] at a
def tm:∀{ids:List Rf},(∀i,i∈bL ids->∃a,nth H i=c5 a)->(jL H ids).map (·.1)=bL ids/\∀q i a,nth ids q=c5 (.bG i)->nth H i=c5 a->(i,(⟨a.st+1,a.aF+1,.dead⟩:Ob D))∈jL H ids
 |[],_=>⟨rfl,λq i a d=>by simp[nth] at d⟩
 | .bG j::g,d=>by
  obtain⟨l,h⟩:=d j (by simp[bL]);obtain⟨e,f⟩:=tm (ids:=g) λi k=>d i (by simp[bL,k])
  refine⟨by simp[jL,h,bL,e],λq i a b c=>?_⟩
  simp only[jL,h];cases q with
  |zero=>
   simp only[nth,ee,Rf.bG.injEq] at b;subst b;rw[h] at c;injection c with c
   subst c;simp
  |succ q=>exact c7 _ (f q i a b c)
 | .new::g,d=>by
  obtain⟨e,f⟩:=tm (ids:=g) d;exact⟨e,λq i a b c=>by cases q with |zero=>simp[nth] at b |succ q=>exact f q i a b c⟩
 | .gone::g,d=>by
  obtain⟨e,f⟩:=tm (ids:=g) d;exact⟨e,λq i a b c=>by cases q with |zero=>simp[nth] at b |succ q=>exact f q i a b c⟩
 | .bad::g,d=>by
  obtain⟨e,f⟩:=tm (ids:=g) d;exact⟨e,λq i a b c=>by cases q with |zero=>simp[nth] at b |succ q=>exact f q i a b c⟩
def Jy:∀{bs:Nat} {os:List (Ob D)},(news bs os).map (·.1)=o9 bs os.length/\∀(a:Nat) (c:Ob D),os[a]?=c5 c->(bs+a,c)∈news bs os
 |bs,[]=>⟨rfl,λa c b=>by simp at b⟩
 |bs,f::os=>by
  obtain⟨d,e⟩:=Jy (bs:=bs+1) (os:=os);refine⟨by simp[news,d,q7],λa c b=>?_⟩
  cases a with
  |zero=>simp at b;subst b;simp[news]
  |succ a=>
   have:=e a c (by simpa using b);rw[show bs+(a+1)=bs+1+a by omega];exact c7 _ this
end
def gE{D:Nat->Type}(H:List (Ob D))(a d:Nat)(c:List Rf)(b:List (Ob D)):List (Nat×Ob D):=
 aX (iF H (tk a c) (tk a b)) (aX (jL H (drop a c)) (news d (drop a b)))
section
variable {D:Nat->Type}{H:List (Ob D)}
def afH{c:Type}(a:List c)(b q:Nat):nth (a.drop b) q=nth a (b+q):=by
 rw[cJ,cJ,hK]
def agp{a bs:Nat}{ids:List Rf}{os:List (Ob D)}(z:kA a ids=true)(s:a<=os.length)(G:(bL ids).Nodup)(o:∀i,i∈bL ids->∃c,nth H i=c5 c)(u:∀i,i∈bL ids->i<bs)
 (x:∀d,a+d<os.length->∃c,nth H (bs+d)=c5 c):
 (∀q i c,q<a->nth ids q=c5 (.bG i)->os[q]?=c5 c->nth (b8 H (gE H a bs ids os)) i=c5 ⟨dJ H i,c.aF,c.bd⟩)/\
 (∀q i c,a<=q->nth ids q=c5 (.bG i)->nth H i=c5 c->nth (b8 H (gE H a bs ids os)) i=c5 ⟨c.st+1,c.aF+1,.dead⟩)/\
 (∀d c,os[a+d]?=c5 c->nth (b8 H (gE H a bs ids os)) (bs+d)=c5 c)/\
 (∀i,i∉bL ids->(i<bs\/bs+(os.length -a)<=i)->nth (b8 H (gE H a bs ids os)) i=nth H i):=by
 have r:bL ids=bL (ids.take a)++bL (ids.drop a):=by rw[<-rH,gx]
 obtain⟨t,C⟩:=JU (H:=H) (os:=os) z s;obtain⟨E,v⟩:=tm (H:=H) (ids:=ids.drop a) λi e=>o i (by rw[r];exact j5 _ e)
 obtain⟨J,K⟩:=Jy (bs:=bs) (os:=os.drop a);have n:(gE H a bs ids os).map (·.1)=bL ids++o9 bs (os.length -a):=by
  unfold gE;rw[bK,bK,kK,kK,drop_eq,drop_eq,o4,o4,t,E,J,r,dv,ih]
 have F:((gE H a bs ids os).map (·.1)).Nodup:=by
  rw[n,List.nodup_append];refine⟨G,List.nodup_range',λw I b l L=>?_⟩
  subst L;have:=u w I;have:=(m6.1 l).1;omega
 obtain⟨h,y⟩:=I5 (ch:=gE H a bs ids os) (H:=H) F;have j:∀p,p∈iF H (ids.take a) (os.take a)\/p∈jL H (ids.drop a)\/p∈news bs (os.drop a)->p∈gE H a bs ids os:=λp B=>by
  unfold gE;rw[bK,bK,kK,kK,drop_eq,drop_eq,c6,c6];exact B
 have lt:∀{i c},nth H i=c5 c->i<H.length:=λ{i c} g=>by rw[cJ] at g;exact c9 g
 refine⟨λq i c m e f=>?_,λq i c m e f=>?_,λd c f=>?_,λi e l=>?_⟩
 .obtain⟨A,k⟩:=o i (gV e);exact h _ _ (j _ (.inl (C q i c m e f))) (lt k)
 .exact h _ _ (j _ (.inr (.inl (v (q -a) i c (by rw[afH,show a+(q -a)=q by omega];exact e) f)))) (lt f)
 .obtain⟨A,k⟩:=x d (c9 f);exact h _ _ (j _ (.inr (.inr (K d c (by rw[hK];exact f))))) (lt k)
 .refine y i ?_
  rw[n,c6,m6];rintro(g |g)
  .exact e g
  .omega
end
section
variable {P:Program}{B:Tb}
open Classical in
def aeK(aa:cU P B){c:aq B}(aF:Fits P B c){Ea:En B.D}{H:List (Ob B.D)}{ids:List Rf}{bf:List (TV B.D)}{a3:bi B.D c.par.bX}{ar:bi B.D c.az.bX}{bs:Nat}{rs:En B.D}{os:List (Ob B.D)}
 (cs:leaves c.par ⟨Ea,H⟩ ids=c5 bf) (b2:eJ B c.par.bX bf (rQ B c.par.bX a3)) (aV:c.F a3=c5 ar) (bw:nI B (gu H ids c.low bs) c.az ar=⟨rs,os⟩)
 (ci:zc (aX (eW H c.par.dF ids) (gK ⟨Ea,H⟩ c.par.dE))=true\/(oN B.flat B.el c.az.dF=true/\tJ B.flat c.az.dE=true))
 (bW:kA c.low ids=true) (b1:c.low<=os.length) (bJ:∀i,i∈bL ids->i<bs) (bh:∀e,c.low+e<os.length->nth H (bs+e)=c5 xt)
 {g:Gh} {w:World} {as:List Value} (ah:bF g (av B H) w) (cb:as.length=c.na) (bp:∀az,VR g (av B H) w (pv B (lk Ea az)) (as.getD az undef)):
 Calls P c.cO as.toArray w λt R=>∃v g',t= .returned v/\bF g' (av B (b8 H (gE H c.low bs ids os))) R/\Bml.GStep (av B H).length g (av B H) w g' (av B (b8 H (gE H c.low bs ids os))) R/\
  VR g' (av B (b8 H (gE H c.low bs ids os))) R (pv B (kR rs)) v:=by
 let aL:=aX (eW H c.par.dF ids) (gK ⟨Ea,H⟩ c.par.dE)
 let fz:Nat->Prop:=λi=>i∈aL/\∀q,eQ ids q≠c5 i
 obtain⟨bH,bK,cw,cd⟩:=PQ aa cs b2 ah (fz:=fz) (λi a=>a.2) (λi d cy=>⟨d,λq j=>cy (gV (qS j))⟩);refine(aF.calls a3 ar aV _ w as cb cw λaz=>cd az _ (bp az)).mono ?_
 rintro t R ⟨v,y,rfl,ab,O,aT⟩;have a4:∀i,i∈bL ids->∃K,nth H i=c5 K:=λi d=>by
  obtain⟨q,j⟩:=uM d;obtain⟨_,K,_,W,_⟩:=bK.bG q i j;exact⟨K,W⟩
 obtain⟨bS,bv,bT,bb⟩:=agp (os:=os) (bs:=bs) bW b1 bH a4 bJ λe D=>⟨_,bh e D⟩
 generalize cl:b8 H (gE H c.low bs ids os)=H2 at bS bv bT bb⊢;have cm:H2.length=H.length:=by rw[<-cl,qy]
 have b5:=NA (B:=B) c.az.bX ar;obtain⟨cO,bd,bV,u1,u2⟩:=en.split b5;obtain⟨J,ca,cu,b7,cH,cL,bR⟩:=Pj (ρ:=λq=>(q,0)) (ρ':=gu H ids c.low bs) (q0:=0) u1;have cf:cz B c.az ar=⟨gR (λq=>(q,0)) c.az.dE bd,J⟩:=by
  unfold cz nI;rw[bV,cu]
 have cx:rs=gR (gu H ids c.low bs) c.az.dE bd/\os=ca:=by
  unfold nI at bw;rw[bV,b7] at bw;injection bw with u o
  exact⟨u.symm,o.symm⟩
 obtain⟨rfl,rfl⟩:=cx;rw[cf] at ab O aT
 replace ab:bF y (av B J) R:=ab
 replace O:Bml.GStep c.low (dj g (eQ ids) fz) (av B (cz B c.par a3).H) w y (av B J) R:=O
 replace aT:VR y (av B J) R (pv B (kR (gR (λq=>(q,0)) c.az.dE bd))) v:=aT
 have cN:J.length=os.length:=by omega
 have aO:∀q b h,(dj g (eQ ids) fz).β q=c5 (b,h)->∃i,nth ids q=c5 (.bG i)/\g.β i=c5 (b,h):=λq b h a=>by
  have l:(eQ ids q).bind g.β=c5 (b,h):=a;cases aH:eQ ids q with
  |none=>rw[aH] at l;cases l
  |some i=>rw[aH] at l;exact⟨i,qS aH,l⟩
 let ae:Nat->Prop:=λi=>∃q,q<c.low/\nth ids q=c5 (.bG i)
 let aN:Nat->Prop:=λi=>bs<=i/\c.low+(i -bs)<os.length
 let b0:Nat->Prop:=λb=>∃i h,fz i/\g.β i=c5 (b,h)
 let V:Gh:={F:=λb=>y.F b/\¬b0 b,β:=λi=>if a:ae i then y.β a.choose else if i∈bL ids then ea else if aN i then y.β (c.low+(i -bs)) else g.β i}
 have aj:∀q i,q<c.low->nth ids q=c5 (.bG i)->V.β i=y.β q:=λq i j d=>by
  have a:ae i:=⟨q,j,d⟩;show(if a:ae i then y.β a.choose else _)=_
  rw[dif_pos a,ES bH a.choose_spec.2 d]
 have ax:∀q i,c.low<=q->nth ids q=c5 (.bG i)->V.β i=ea:=λq i j d=>by
  have a:¬ae i:=λ⟨E,u,o⟩=>by have:=ES bH o d;omega
  show(if a:ae i then y.β a.choose else if i∈bL ids then ea else _)=_
  rw[dif_neg a,if_pos (gV d)]
 have bU:∀e,bs+e∉bL ids:=λe a=>by have:=bJ _ a;omega
 have am:∀e,c.low+e<os.length->V.β (bs+e)=y.β (c.low+e):=λe D=>by
  have a:¬ae (bs+e):=λ⟨E,u,o⟩=>bU e (gV o)
  have o:aN (bs+e):=⟨by omega,by rw[show bs+e -bs=e by omega];exact D⟩;show(if a:ae (bs+e) then y.β a.choose else if bs+e∈bL ids then ea else if aN (bs+e) then y.β (c.low+(bs+e -bs)) else _)=_
  rw[dif_neg a,if_neg (bU e),if_pos o,show bs+e -bs=e by omega]
 have ak:∀i,i∉bL ids->(i<bs\/bs+(os.length -c.low)<=i)->V.β i=g.β i:=λi d k=>by
  have a:¬ae i:=λ⟨E,u,o⟩=>d (gV o)
  have o:¬aN i:=λ⟨u,o⟩=>by omega
  show(if a:ae i then y.β a.choose else if i∈bL ids then ea else if aN i then y.β (c.low+(i -bs)) else g.β i)=_
  rw[dif_neg a,if_neg d,if_neg o]
 have ai:∀i,(∃q,q<c.low/\nth ids q=c5 (.bG i))\/(∃q,c.low<=q/\nth ids q=c5 (.bG i))\/(∃e,c.low+e<os.length/\i=bs+e)\/(i∉bL ids/\(i<bs\/bs+(os.length -c.low)<=i)):=λi=>by
  by_cases d:i∈bL ids
  .obtain⟨q,j⟩:=uM d;rcases hI q c.low with a |a
   .exact .inl ⟨q,a,j⟩
   .exact .inr (.inl ⟨q,a,j⟩)
  .by_cases a:bs<=i/\i<bs+(os.length -c.low)
   .exact .inr (.inr (.inl ⟨i -bs,by omega,by omega⟩))
   .exact .inr (.inr (.inr ⟨d,by omega⟩))
 have bt:∀q b h,y.β q=c5 (b,h)->w.heap.size<=b\/∃i p,i∈bL ids/\g.β i=c5 (b,p):=λq b h a=>by
  rcases O.oZ q b h a with a |⟨E,p,a⟩
  .exact .inl a
  .obtain⟨i,d,k⟩:=aO E b p a;exact .inr ⟨i,p,gV d,k⟩
 have bx:∀q i,q<c.low->nth ids q=c5 (.bG i)->∃op r m f U,J[q]?=c5 m/\os[q]?=c5 f/\en B op.bX r/\(oN B.flat B.el c.az.dF=true->uT B.flat B.el op=true)/\(∀x,dI (λq=>(q,0)) 0 0 op (r++x)=(m,x))/\(∀x,dI (gu H ids c.low bs) 0 U.aF op (r++x)=(f,x))/\
  nth H i=c5 U/\nth H2 i=c5 ⟨dJ H i,f.aF,f.bd⟩/\m.aF=0/\f.aF=U.aF/\(aY B f).ty=(aY B m).ty/\(aY B f).sz=(aY B m).sz/\(aY B f).es.length=(aY B m).es.length:=λq i j d=>by
  obtain⟨op,r,m,f,z,Y,N,S,G,C⟩:=bR q (by omega);obtain⟨U,aZ⟩:=a4 i (gV d);rw[e6] at G C;have bc:(gu H ids c.low bs q).2=U.aF:=by
   unfold gu;rw[show j8 q c.low=true from hM j,d];simp only[cond_true,aZ]
  rw[bc] at C;obtain⟨au,al,bn,bB,bk,a6,aG,ay,aA⟩:=Iz (B:=B) (ρ:=λq=>(q,0)) (ρ':=gu H ids c.low bs) 0 0 0 U.aF N;obtain rfl:au=m:=by have M:=bn [];have b:=G [];rw[M] at b;exact(eE b).1
  obtain rfl:al=f:=by have M:=bB [];have b:=C [];rw[M] at b;exact(eE b).1
  exact⟨op,r,au,al,U,z,Y,N,S,G,C,aZ,bS q i al j d Y,bk,a6,aG,ay,aA⟩
 have ba:∀e,c.low+e<os.length->∃op r m f,J[c.low+e]?=c5 m/\os[c.low+e]?=c5 f/\en B op.bX r/\(oN B.flat B.el c.az.dF=true->uT B.flat B.el op=true)/\(∀x,dI (λq=>(q,0)) 0 0 op (r++x)=(m,x))/\(∀x,dI (gu H ids c.low bs) 0 1 op (r++x)=(f,x))/\
  nth H2 (bs+e)=c5 f/\m.aF=0/\f.aF=1/\(aY B f).ty=(aY B m).ty/\(aY B f).sz=(aY B m).sz/\(aY B f).es.length=(aY B m).es.length:=λe D=>by
  obtain⟨op,r,m,f,z,Y,N,S,G,C⟩:=bR (c.low+e) (by omega);rw[e6] at G C;have bc:(gu H ids c.low bs (c.low+e)).2=1:=by
   unfold gu;have:j8 (c.low+e) c.low=false:=by
    cases k:j8 (c.low+e) c.low with
    |false=>rfl
    |true=>have:=e4 k;omega
   rw[this];rfl
  rw[bc] at C;obtain⟨au,al,bn,bB,bk,a6,aG,ay,aA⟩:=Iz (B:=B) (ρ:=λq=>(q,0)) (ρ':=gu H ids c.low bs) 0 0 0 1 N;obtain rfl:au=m:=by have M:=bn [];have b:=G [];rw[M] at b;exact(eE b).1
  obtain rfl:al=f:=by have M:=bB [];have b:=C [];rw[M] at b;exact(eE b).1
  exact⟨op,r,au,al,z,Y,N,S,G,C,bT e al Y,bk,a6,aG,ay,aA⟩
 have be:∀i b h,g.β i=c5 (b,h)->i<H.length/\b<w.heap.size/\¬g.F b:=λi b h a=>by
  have d:=ah.m8 i b h a;have n:i<H.length:=by rwa [qL] at d
  refine⟨n,ah.qD a,?_⟩
  have:=(ah.obj i _ (c4 d)).mem;rw[a] at this;exact this.1
 have cA:∀b,g.F b->¬b0 b:=λb k ⟨i,h,_,a⟩=>(be i b h a).2.2 k
 have bP:Bml.GStep (av B H).length g (av B H) w V (av B H2) R:=by
  refine⟨O.os,O.tape,O.output,O.size,λb k=>⟨O.F b (.inl k),cA b k⟩,λb k=>O.jh b (.inl k),λb k a5=>O.rest b k λq h a=>?_,λb k=>?_,λi b h k=>?_,λi K d W=>?_⟩
  .obtain⟨i,_,o⟩:=aO q b h a;exact a5 i h o
  .rcases O.oY b k.1 with a |a |⟨q,h,a⟩
   .rcases a with a |⟨i,h,u,o⟩
    .exact .inl a
    .exact absurd ⟨i,h,u,o⟩ k.2
   .exact .inr (.inl a)
   .obtain⟨i,_,o⟩:=aO q b h a;exact .inr (.inr ⟨i,h,o⟩)
  .rcases ai i with⟨q,j,d⟩ |⟨q,j,d⟩ |⟨e,D,rfl⟩ |⟨d,T⟩
   .rw[aj q i j d] at k;exact(bt q b h k).imp id λ⟨i,p,_,a⟩=>⟨i,p,a⟩
   .rw[ax q i j d] at k;cases k
   .rw[am e D] at k;exact(bt _ b h k).imp id λ⟨i,p,_,a⟩=>⟨i,p,a⟩
   .rw[ak i d T] at k;exact .inr ⟨i,h,k⟩
  .obtain⟨a7,Q,rfl⟩:=oU W;rcases ai i with⟨q,j,n⟩ |⟨q,j,n⟩ |⟨e,D,rfl⟩ |⟨n,T⟩
   .obtain⟨op,r,m,f,U,z,Y,N,S,G,C,L,X,ac,aR,aC,ad,ag⟩:=bx q i j n;rw[Q] at L;injection L with L
    subst L;refine⟨_,df X,by rw[e7,e7,aR];exact ef _,λ_=>?_⟩
    obtain⟨aH,K,ao,aU,b3,cj,ct,cB⟩:=bK.bG q i n;rw[Q] at aU;injection aU with aU
    subst aU;obtain⟨cF,aS,cE,cc⟩:=O.dF q _ j (df b3);have cn:(av B J)[q]?=c5 (aY B m):=df (by rw[cJ];exact z);rw[cn] at aS;injection aS with aS
    subst aS;obtain⟨b9,cq,cD⟩:=cc (by rw[e7,e7,ac,cj]);refine⟨?_,?_,?_⟩
    .show(aY B ⟨dJ H i,f.aF,f.bd⟩).sz=_
     rw[show aY B ⟨dJ H i,f.aF,f.bd⟩=aY B f from rfl,ad,b9,ct]
    .show(aY B ⟨dJ H i,f.aF,f.bd⟩).es.length=_
     rw[show aY B ⟨dJ H i,f.aF,f.bd⟩=aY B f from rfl,ag,cq,cB]
    .rw[aj q i j n,cD];show(eQ ids q).bind g.β=_
     rw[aH];rfl
   .have:=bv q i a7 j n Q;exact⟨_,df this,by rw[e7,e7];exact Nat.le_succ _,λt=>by rw[e7,e7] at t;exact absurd t (Nat.succ_ne_self _)⟩
   .obtain⟨op,r,m,f,z,Y,N,S,G,C,L,X,ac,_⟩:=ba e D;rw[bh e D] at Q;injection Q with Q
    subst Q;exact⟨_,df L,by rw[e7];exact l2 _,λt=>by rw[e7,e7,ac] at t;cases t⟩
   .exact⟨_,df (by rw[bb i n T];exact Q),ef _,λ_=>⟨rfl,rfl,ak i n T⟩⟩
 have bQ:(∀b,y.F b->V.F b)\/(oN B.flat B.el c.az.dF=true/\tJ B.flat c.az.dE=true):=ci.imp (λa5 b k=>⟨k,λ⟨i,h,u,_⟩=>by
  have o:i∈aL:=u.1;have aE:aL=[]:=by
   cases ce:aL with
   |nil=>rfl
   |cons M J=>rw[show aX (eW H c.par.dF ids) (gK ⟨Ea,H⟩ c.par.dE)=aL from rfl,ce] at a5;cases a5
  rw[aE] at o;cases o⟩) id
 have b4:∀q,(∃i,q<c.low/\nth ids q=c5 (.bG i))\/c.low<=q:=λq=>by
  rcases hI q c.low with a |a
  .obtain⟨i,d⟩:=Ql bW q a;exact .inl ⟨i,a,d⟩
  .exact .inr a
 have conv:∀q:Nat,∀m,(av B J)[q]?=c5 m->m.aF=0/\∃i f,gu H ids c.low bs q=(i,f.aF)/\(av B H2)[i]?=c5 f/\f.sz=m.sz/\f.es.length=m.es.length/\V.β i=y.β q:=λq m u=>by
  obtain⟨cG,aQ,rfl⟩:=oU u;rw[cJ] at aQ;rcases b4 q with⟨i,j,d⟩ |j
  .obtain⟨op,r,au,f,U,z,Y,N,S,G,C,L,X,ac,aR,aC,ad,ag⟩:=bx q i j d;rw[aQ] at z;injection z with z
   subst z;refine⟨by rw[e7,ac],i,_,?_,df X,ad,ag,aj q i j d⟩
   unfold gu;rw[show j8 q c.low=true from hM j,d];simp only[cond_true,L,e7,aR]
  .have cM:q<J.length:=c9 aQ;have D:c.low+(q -c.low)<os.length:=by omega
   obtain⟨op,r,au,f,z,Y,N,S,G,C,L,X,ac,aC,ad,ag⟩:=ba (q -c.low) D;rw[show c.low+(q -c.low)=q by omega,aQ] at z;injection z with z
   subst z;refine⟨by rw[e7,X],bs+(q -c.low),_,?_,df L,ad,ag,by rw[am _ D,show c.low+(q -c.low)=q by omega]⟩
   unfold gu;have:j8 q c.low=false:=by
    cases k:j8 q c.low with
    |false=>rfl
    |true=>have:=e4 k;omega
   rw[this];simp only[cond_false,e7,ac]
 have bX:∀q v,VR y (av B J) R (.ptr q 0 0 0) v->VR V (av B H2) R (.ptr (gu H ids c.low bs q).1 (gu H ids c.low bs q).2 0 0) v:=λq v a=>by
  cases a with
  |aW a=>cases a
  |ptr _ _ _ _ m M W bp cr=>
   obtain⟨h0,i,f,bz,bI,bm,bA,bD⟩:=conv q m W;obtain⟨u,b,h,k,rfl⟩:=cr h0.symm;rw[bz];exact .ptr i _ 0 0 f _ bI (ef _) λ_=>⟨by rw[bA];exact u,b,h,by rw[bD];exact k,by rw[bm]⟩
 have bY:∀q v,VR y (av B J) R (.fl q 0) v->VR V (av B H2) R (.fl (gu H ids c.low bs q).1 (gu H ids c.low bs q).2) v:=λq v a=>by
  cases a with
  |aW a=>cases a
  |fl _ _ m _ W bp u b6=>
   obtain⟨h0,i,f,bz,bI,bm,bA,bD⟩:=conv q m W;rw[bz];refine .fl i _ f _ bI (ef _) u λ_=>?_
   have bO:=b6 h0.symm;unfold SL at bO⊢;rw[bm,bA,bD];exact bO
 have bZ:∀q op r m (f:Ob B.D) a1 a2,J[q]?=c5 m->en B op.bX r->(oN B.flat B.el c.az.dF=true->uT B.flat B.el op=true)->(∀x,dI (λq=>(q,0)) 0 0 op (r++x)=(m,x))->(∀x,dI (gu H ids c.low bs) a1 a2 op (r++x)=(f,x))->
  (aY B f).ty=(aY B m).ty->(aY B f).sz=(aY B m).sz->(aY B f).es.length=(aY B m).es.length->∀i,V.β i=y.β q->qT V (av B H2) R i (aY B f):=λq op r m f a1 a2 z N S G C aG ay aA i cC=>by
  obtain⟨bl,bq,af⟩:=ab.obj q _ (df (by rw[cJ];exact z));have cg:=af9 aa (H:=av B J) (H':=av B H2) (g:=y) (g':=V) (w:=R) bX bY N (bQ.imp id λa=>S a.1) G C;refine⟨by rw[ay];exact bl,aeL aa (op:=op) (ms:=r) G C bq,?_⟩
  rw[cC];cases k:y.β q with
  |none=>
   rw[k] at af;exact dT (by rw[aA,af];rfl)
  |some a9=>
   obtain⟨b,h⟩:=a9;rw[k] at af;obtain⟨bC,cells,aK,a8,bE,bo,bj⟩:=af;refine⟨λa=>bC a.1,cells,by rw[aG];exact aK,by rw[ay];exact a8,bE,by rw[aA];exact bo,λM e cv aF=>?_⟩
   obtain⟨br,co,ck⟩:=cg M e cv aF;obtain⟨a0,u,o,aE⟩:=bj M e br co;exact⟨a0,by rw[ay];exact u,o,ck a0 aE⟩
 refine⟨v,V,rfl,⟨λb k=>ab.fb b k.1,λi A b h p a l=>?_,λi b h a=>?_,λi K W=>?_⟩,bP,?_⟩
 .
  have bG:∀i,i∉bL ids->(i<bs\/bs+(os.length -c.low)<=i)->∀b h,g.β i=c5 (b,h)->∀q p,y.β q≠c5 (b,p):=λi d _ b h k q p j=>by
   rcases bt q b p j with a |⟨A,C2,u,o⟩
   .have:=(be i b h k).2.1;omega
   .obtain rfl:=ah.inj i A b h C2 k o;exact d u
  rcases ai i with⟨q,j,d⟩ |⟨q,j,d⟩ |⟨e,D,rfl⟩ |⟨d,T⟩
  .rw[aj q i j d] at a;rcases ai A with⟨E,Z,n⟩ |⟨E,Z,n⟩ |⟨aI,aM,rfl⟩ |⟨n,ap⟩
   .rw[aj E A Z n] at l;obtain rfl:=ab.inj q E b h p a l;rw[d] at n;injection n with n
    injection n
   .rw[ax E A Z n] at l;cases l
   .rw[am aI aM] at l;have:=ab.inj q _ b h p a l;omega
   .rw[ak A n ap] at l;exact absurd a (bG A n ap b p l q h)
  .rw[ax q i j d] at a;cases a
  .rw[am e D] at a;rcases ai A with⟨E,Z,n⟩ |⟨E,Z,n⟩ |⟨aI,aM,rfl⟩ |⟨n,ap⟩
   .rw[aj E A Z n] at l;have:=ab.inj _ E b h p a l;omega
   .rw[ax E A Z n] at l;cases l
   .rw[am aI aM] at l;have:=ab.inj _ _ b h p a l;omega
   .rw[ak A n ap] at l;exact absurd a (bG A n ap b p l _ h)
  .rw[ak i d T] at a;rcases ai A with⟨E,Z,n⟩ |⟨E,Z,n⟩ |⟨aI,aM,rfl⟩ |⟨n,ap⟩
   .rw[aj E A Z n] at l;exact absurd l (bG i d T b h a E p)
   .rw[ax E A Z n] at l;cases l
   .rw[am aI aM] at l;exact absurd l (bG i d T b h a _ p)
   .rw[ak A n ap] at l;exact ah.inj i A b h p a l
 .rw[qL,cm];rcases ai i with⟨q,j,d⟩ |⟨q,j,d⟩ |⟨e,D,rfl⟩ |⟨d,T⟩
  .obtain⟨K,W⟩:=a4 i (gV d);rw[cJ] at W;exact c9 W
  .rw[ax q i j d] at a;cases a
  .have:=bh e D;rw[cJ] at this;exact c9 this
  .rw[ak i d T] at a;exact(be i b h a).1
 .obtain⟨a7,Q,rfl⟩:=oU W;rcases ai i with⟨q,j,d⟩ |⟨q,j,d⟩ |⟨e,D,rfl⟩ |⟨d,T⟩
  .obtain⟨op,r,m,f,U,z,Y,N,S,G,C,L,X,ac,aR,aC,ad,ag⟩:=bx q i j d;rw[Q] at X;injection X with X
   subst X;exact bZ q op r m f 0 U.aF z N S G C aC ad ag i (aj q i j d)
  .obtain⟨U,aZ⟩:=a4 i (gV d);have:=bv q i U j d aZ;rw[Q] at this;injection this with this
   subst this;refine⟨qb,λM t I=>by simp[aY] at I,?_⟩
   rw[ax q i j d]
   rfl
  .obtain⟨op,r,m,f,z,Y,N,S,G,C,L,X,ac,aC,ad,ag⟩:=ba e D;rw[Q] at L;injection L with L
   subst L;exact bZ (c.low+e) op r m a7 0 1 z N S G C aC ad ag _ (am e D)
  .rw[bb i d T] at Q;obtain⟨bl,bq,af⟩:=ah.obj i _ (df Q);refine⟨bl,bq,?_⟩
   rw[ak i d T];cases k:g.β i with
   |none=>rw[k] at af;exact af
   |some a9=>
    obtain⟨b,h⟩:=a9;rw[k] at af;obtain⟨bC,cells,aK,a8,bE,bo,bj⟩:=af;have bM:∀q p,(dj g (eQ ids) fz).β q≠c5 (b,p):=λq p a=>by
     obtain⟨A,u,o⟩:=aO q b p a;obtain rfl:=ah.inj i A b h p k o;exact d (gV u)
    refine⟨λaV=>?_,cells,(O.rest b (nN aK) bM).trans aK,a8,bE,bo,λM e br aF=>?_⟩
    .rcases O.oY b aV.1 with a |a |⟨q,p,a⟩
     .rcases a with a |⟨A,p,u,o⟩
      .exact bC a
      .exact aV.2 ⟨A,p,u,o⟩
     .have:=nN aK;omega
     .exact bM q p a
    .obtain⟨a0,u,o,aE⟩:=bj M e br aF;exact⟨a0,u,o,aE.nZ bP⟩
 .exact al8 (OR aa bX bY u2 (bQ.imp id λa=>a.2)) aT
where
 aeL (aa:cU P B) {ρ ρ':Nat->Nat×Nat} {s v a1 a2:Nat} {op:OP} {ms:List (TV B.D)} {K ao:Ob B.D} (a:∀x,dI ρ s v op (ms++x)=(K,x)) (l:∀x,dI ρ' a1 a2 op (ms++x)=(ao,x))
  (hw:∀(i:Nat) (t:PV),(aY B K).es[i]?=c5 t->t.cells.length=(aY B K).sz):∀(i:Nat) (t:PV),(aY B ao).es[i]?=c5 t->t.cells.length=(aY B ao).sz:=by
  have a:=a [];have l:=l [];rw[ft] at a l;cases op with
  |refs r aD=>
   simp only[dI,uA,h5] at a l;obtain⟨rfl,_⟩:=a;obtain⟨rfl,_⟩:=l;have bN:∀(aJ:Nat->Nat×Nat) i,(aP B (aD.map λq=>.fl (aJ q).1 (aJ q).2))[i]?=(aD[i]?).map λq=>PV.fl (aJ q).1 (aJ q).2:=λaJ i=>by
    rw[db,n2,ec]
    rfl
   intro i t I;have I:(aP B (aD.map λq=>.fl (ρ' q).1 (ρ' q).2))[i]?=c5 t:=I;rw[bN] at I;cases j:aD[i]? with
   |none=>rw[j] at I;cases I
   |some q=>
    rw[j] at I;injection I with I
    subst I;exact hw i (.fl (ρ q).1 (ρ q).2) (by show(aP B (aD.map λq=>.fl (ρ q).1 (ρ q).2))[i]?=_;rw[bN,j];rfl)
  |aap r aw=>
   refine HK aa ao λaw an aB t=>?_
   cases ms with
   |nil=>
    simp only[dI] at l;obtain⟨rfl,_⟩:=eE l;cases t
   |cons J bf=>cases J <;> (simp only[dI] at l;obtain⟨rfl,_⟩:=eE l;cases t)
  |box az cp=>
   refine HK aa ao λaw an aB t=>?_
   simp only[dI] at l;obtain⟨rfl,_⟩:=eE l;cases t
  |dead=>
   refine HK aa ao λaw an aB t=>?_
   simp only[dI] at l;obtain⟨rfl,_⟩:=eE l;cases t
 HK (aa:cU P B) (K:Ob B.D) (hnh:∀aw an aB,K.bd≠ .hole aw an aB):∀(i:Nat) (t:PV),(aY B K).es[i]?=c5 t->t.cells.length=(aY B K).sz:=λi t I=>by
  obtain⟨cK,cI,ch⟩:=K;cases ch with
  |aap r an=>
   obtain⟨ar,_,rfl⟩:=ey.1 (ej I);exact aa.wid r ar
  |box az cp=>
   match i,I with
   |0,I=>
    simp only[aY,kc,ee] at I;subst I;simp[aY,PV.cells,db]
  |dead=>simp[aY] at I
  |hole aw an aB=>exact absurd rfl (hnh aw an aB)
end
section
variable {P:Program}{B:Tb}{H H':List (Ob B.D)}
def rT{i v:Nat}(a:nth H' i=nth H i):aK H' i v=aK H i v:=by unfold aK;rw[a]
def R5{c:List Nat}:∀(a:List (TV B.D)),(∀i,i∈iB a->nth H' i=nth H i)->qf H' c a=qf H c a
 |[],_=>rfl
 |d::a,b=>by
  simp only[qf];rw[R5 a λi e=>b i (by simp only[iB,bK,c6];exact .inr e)]
  congr 1
  cases d with
  |fl q v=>simp only[ml];rw[rT (b q (by simp[iB,refs,bK]))]
  |_=>rfl
def Ki:∀(a:List Nat),(∀i,i∈a->nth H' i=nth H i)->kY H' a=kY H a
 |[],_=>rfl
 |r::a,b=>by
  unfold kY;rw[b r (by simp),Ki a λi c=>b i (c7 _ c)]
mutual
def H6{h:List Nat}:∀(c:TV B.D),(∀i,jN H (refs c) i->nth H' i=nth H i)->kJ H' h c=kJ H h c
 | .any,_=>rfl
 | .z0,_=>rfl
 | .fS,_=>rfl
 | .bg,_=>rfl
 | .dB,_=>rfl
 | .int ..,_=>rfl
 | .bool _,_=>rfl
 | .str _,_=>rfl
 | .row ..,_=>rfl
 | .rv ..,_=>rfl
 | .vp ..,_=>rfl
 | .ptr ..,_=>rfl
 | .bu _,_=>rfl
 | .jC _,_=>rfl
 | .fl q v,a=>by
  simp only[kJ];rw[rT (a q (.one (by simp[refs])))]
  split
  .rfl
  .rename_i j g n;obtain⟨k,l⟩:=fx n;rw[R5 g λi b=>a i ?_];unfold jN;rw[bK,c6];exact .inr (yx.2 ⟨q,k,v,j,g,by simp[refs],l,b⟩)
  .rfl
 | .sl q v o len,a=>by simp only[kJ];rw[rT (a q (.one (by simp[refs])))]
 | .agg d,a=>by simp only[kJ];rw[v8 d a]
 | .fn f d m,a=>by
  simp only[kJ];rw[v8 d λi b=>a i (b.mono λr e=>by simp only[refs,bK,c6];exact .inl e),v8 m λi b=>a i (b.mono λr e=>by simp only[refs,bK,c6];exact .inr e)]
def v8{e:List Nat}:∀(a:List (TV B.D)),(∀i,jN H (iB a) i->nth H' i=nth H i)->jS H' e a=jS H e a
 |[],_=>rfl
 |f::a,d=>by
  simp only[jS];rw[H6 f λi c=>d i (c.mono λr b=>by simp only[iB,bK,c6];exact .inl b),v8 a λi c=>d i (c.mono λr b=>by simp only[iB,bK,c6];exact .inr b)]
end
mutual
def Mh{u:List Rf}{v:List Nat}(l:∀i,i∈bL u->nth H' i=nth H i):∀(p:CP) (c:TV B.D) (d:List (TV B.D)),eR H u v p c=c5 d->(∀i,i∈jn H p c->nth H' i=nth H i)->eR H' u v p c=c5 d/\jn H' p c=jn H p c
 | .any,c,d,a,_=>⟨a,rfl⟩
 | .v s,c,d,a,h=>by
  simp only[eR] at a⊢;have w:∀i,jN H (refs c) i->nth H' i=nth H i:=h;rw[H6 c w];refine⟨a,?_⟩
  simp only[jn];rw[Ki (refs c) λi m=>w i (.one m)]
 | .p q,c,d,a,J=>by
  refine⟨?_,rfl⟩
  simp only[eR] at a⊢
  split at a
  .rename_i i y
   split at a
   .rename_i S j A n k;obtain⟨g,e⟩:=a8 a;obtain rfl:=beq_eq g;rw[rT (l i (gV k)),n,k];simp only[hQ,cond_true];exact e
   .cases a
  .cases a
 | .r q,c,d,a,J=>by
  refine⟨?_,rfl⟩
  simp only[eR] at a⊢
  split at a
  .rename_i i y
   split at a
   .rename_i s K A n k;obtain⟨g,e⟩:=a8 a;obtain rfl:=beq_eq g;rw[rT (l i (gV k)),n,k];simp only[hQ,cond_true];exact e
   .rename_i s K V A n k;obtain⟨g,e⟩:=a8 a;obtain rfl:=beq_eq g;rw[rT (l i (gV k)),n,k];simp only[hQ,cond_true];exact e
   .cases a
  .exact a
  .exact a
  .cases a
 | .q o,c,d,a,h=>by
  simp only[eR] at a⊢
  split at a
  .rename_i i y;have m:nth H' i=nth H i:=h i (by simp[jn])
   split at a
   .rename_i S j n;obtain⟨W,x⟩:=fx n;rw[rT m,n];cases z:has v i with
    |true=>rw[z] at a;cases a
    |false=>
     rw[z] at a;obtain⟨g,e⟩:=a8 a;obtain⟨r,t⟩:=pY l o j d e λE M=>h E (by simp only[jn,x,dd];exact .inr M)
     simp only[g,cond_true,cond_false];refine⟨r,?_⟩
     simp only[jn,m,x,t]
   .cases a
  .rename_i j;obtain⟨g,e⟩:=a8 a;obtain⟨r,t⟩:=pY l o j d e h;simp only[g,cond_true];exact⟨r,t⟩
  .cases a
 | .f T o G,c,d,a,h=>by
  simp only[eR] at a⊢
  split at a
  .rename_i f j D;obtain⟨I,F⟩:=a8 a;obtain⟨N,O,g,e,rfl⟩:=iK F;obtain⟨Q,R⟩:=pY l o j N g λi m=>h i (by simp only[jn,bK,c6];exact .inl m)
   obtain⟨C,L⟩:=pY l G D O e λi m=>h i (by simp only[jn,bK,c6];exact .inr m)
   refine⟨by rw[I];simp[Q,C,cat],by simp only[jn,R,L]⟩
  .cases a
 | .g o,c,d,a,h=>by
  simp only[eR] at a⊢
  split at a
  .rename_i j;exact pY l o j d a h
  .cases a
 | .b b,c,d,a,_=>⟨a,rfl⟩
 | .i U s,c,d,a,_=>⟨a,rfl⟩
 | .z,c,d,a,_=>⟨a,rfl⟩
 | .ns,c,d,a,_=>⟨a,rfl⟩
def pY{f:List Rf}{j:List Nat}(g:∀i,i∈bL f->nth H' i=nth H i):∀(b:List CP) (c:List (TV B.D)) (d:List (TV B.D)),fg H f j b c=c5 d->(∀i,i∈gJ H b c->nth H' i=nth H i)->fg H' f j b c=c5 d/\gJ H' b c=gJ H b c
 |[],[],d,a,_=>⟨a,rfl⟩
 |t::b,o::c,d,a,h=>by
  simp only[fg] at a⊢;obtain⟨p,q,m,l,rfl⟩:=iK a;obtain⟨r,s⟩:=Mh g t o p m λi e=>h i (by simp only[gJ,bK,c6];exact .inl e)
  obtain⟨k,n⟩:=pY g b c q l λi e=>h i (by simp only[gJ,bK,c6];exact .inr e)
  exact⟨by simp[r,k,cat],by simp only[gJ,s,n]⟩
 |[],_::_,d,a,_=>by simp[fg] at a
 |_::_,[],d,a,_=>by simp[fg] at a
end
def Bu{w:List Rf}{y:List Nat}(n:∀i,i∈bL w->nth H' i=nth H i):∀{k:List (Nat×List Nat×OP)} {d:List Rf} {h:List (TV B.D)},(∀i,i∈bL d->nth H' i=nth H i)->iP H w y k d=c5 h->(∀i,i∈eW H k d->nth H' i=nth H i)->
 iP H' w y k d=c5 h/\eW H' k d=eW H k d/\∀i,i∈bL d->∃A,nth H i=c5 A
 |[],[],h,_,e,_=>⟨e,rfl,by simp[bL]⟩
 |(L,K,G)::k,i::d,h,o,e,p=>by
  simp only[iP] at e⊢;obtain⟨x,O,b,r,rfl⟩:=iK e;have t:∀c,c∈bL d->nth H' c=nth H c:=λc a=>o c (by cases i <;> simp[bL,a])
  cases G with
  |aap F M=>
   obtain⟨f,m,g⟩:=Bu n t r λc a=>p c (by simpa[eW] using a)
   cases i with
   |bG q=>
    have j:=o q (by simp[bL]);simp only[dn,j] at b⊢;refine⟨by rw[b,f];rfl,by simpa[eW] using m,λc a=>?_⟩
    rcases dd.1 a with rfl |a
    .split at b
     .exact⟨_,by assumption⟩
     .cases b
    .exact g c a
   |new=>
    refine⟨?_,by simpa[eW] using m,λc a=>g c (by simpa[bL] using a)⟩
    simp only[dn] at b⊢;rw[b,f];rfl
   |gone=>simp[dn] at b
   |bad=>simp[dn] at b
  |box Q C=>
   cases i with
   |bG q=>
    have j:=o q (by simp[bL]);simp only[dn,j] at b⊢
    split at b
    .rename_i J z l;obtain⟨u,s⟩:=a8 b;obtain⟨v,I⟩:=pY n C z x s λc a=>p c (by simp only[eW,l,bK,c6];exact .inl a)
     obtain⟨f,m,g⟩:=Bu n t r λc a=>p c (by simp only[eW,l,bK,c6];exact .inr a)
     refine⟨by rw[u,f];simp[v,cat],by simp only[eW,j,l,I,m],λc a=>?_⟩
     rcases dd.1 a with rfl |a
     .exact⟨_,l⟩
     .exact g c a
    .cases b
   |new=>simp[dn] at b
   |gone=>simp[dn] at b
   |bad=>simp[dn] at b
  |dead=>cases i <;> simp[dn] at b
  |refs F D=>
   cases i with
   |bG q=>
    have j:=o q (by simp[bL]);simp only[dn,j] at b⊢
    split at b
    .rename_i N E l;obtain⟨u,s⟩:=a8 b;obtain⟨v,_⟩:=pY n (iQ D) E x s λc a=>by rw[Fq] at a;cases a
     obtain⟨f,m,g⟩:=Bu n t r λc a=>p c (by simpa[eW] using a)
     refine⟨by rw[u,f];simp[v,cat],by simpa[eW] using m,λc a=>?_⟩
     rcases dd.1 a with rfl |a
     .exact⟨_,l⟩
     .exact g c a
    .cases b
   |new=>simp[dn] at b
   |gone=>simp[dn] at b
   |bad=>simp[dn] at b
 |[],_::_,h,_,e,_=>by simp[iP] at e
 |_::_,[],h,_,e,_=>by simp[iP] at e
def N0{e:List Rf}{j:List Nat}{b:En B.D}(g:∀i,i∈bL e->nth H' i=nth H i):∀{a:List (Nat×CP)} {d:List (TV B.D)},oz ⟨b,H⟩ e j a=c5 d->(∀i,i∈gK ⟨b,H⟩ a->nth H' i=nth H i)->
 oz ⟨b,H'⟩ e j a=c5 d/\gK ⟨b,H'⟩ a=gK ⟨b,H⟩ a
 |[],d,c,_=>⟨c,rfl⟩
 |p::a,d,c,h=>by
  simp only[oz] at c⊢;obtain⟨m,s,q,l,rfl⟩:=iK c;obtain⟨n,o⟩:=Mh g p.2 _ m q λi f=>h i (by simp only[gK,bK,c6];exact .inl f)
  obtain⟨k,r⟩:=N0 g l λi f=>h i (by simp only[gK,bK,c6];exact .inr f)
  exact⟨by simp[n,k,cat],by simp only[gK,o,r]⟩
def NS{p:bY}{b:En B.D}{a:List Rf}{g:List (TV B.D)}(c:leaves p ⟨b,H⟩ a=c5 g)(f:∀i,i∈aX (bL a) (aX (eW H p.dF a) (gK ⟨b,H⟩ p.dE))->nth H' i=nth H i):
 leaves p ⟨b,H'⟩ a=c5 g/\aX (eW H' p.dF a) (gK ⟨b,H'⟩ p.dE)=aX (eW H p.dF a) (gK ⟨b,H⟩ p.dE)/\∀i,i∈bL a->∃k,nth H i=c5 k:=by
 unfold leaves at c⊢;obtain⟨m,c⟩:=a8 c;obtain⟨j,c⟩:=a8 c;obtain⟨t,u,q,l,rfl⟩:=iK c;have e:∀i,i∈bL a->nth H' i=nth H i:=λi d=>f i (by simp only[bK,c6];exact .inl d)
 obtain⟨s,r,n⟩:=Bu e e q λi d=>f i (by simp only[bK,c6];exact .inr (.inl d))
 obtain⟨h,o⟩:=N0 e l λi d=>f i (by simp only[bK,c6];exact .inr (.inr d))
 refine⟨?_,by rw[r,o],n⟩
 rw[m,j];show cat (iP H' a (bL a) p.dF a) (oz ⟨b,H'⟩ a (bL a) p.dE)=_
 rw[s,h]
 rfl
def aeG{a:List Rf}{low bs:Nat}(b:∀i,i∈bL a->nth H' i=nth H i):gu H' a low bs=gu H a low bs:=by
 funext q
 unfold gu;cases j8 q low with
 |false=>rfl
 |true=>
  simp only[cond_true];cases c:nth a q with
  |none=>rfl
  |some r=>
   cases r with
   |bG i=>simp only[b i (gV c)]
   |new=>rfl
   |gone=>rfl
   |bad=>rfl
def Xs{e:List Rf}{low bs:Nat}{os:List (Ob B.D)}(k:∀i,i∈bL e->nth H' i=nth H i):gE H' low bs e os=gE H low bs e os:=by
 have l:bL e=bL (e.take low)++bL (e.drop low):=by rw[<-rH,gx]
 have b:∀(a:List Rf) (os:List (Ob B.D)),(∀i,i∈bL a->nth H' i=nth H i)->iF H' a os=iF H a os:=λa=>by
  induction a with
  |nil=>intro os _;rfl
  |cons h a d=>
   intro os c;cases h with
   |bG i=>
    cases os with
    |nil=>rfl
    |cons n os=>
     simp only[iF,dJ,c i (by simp[bL])];rw[d os λg f=>c g (by simp[bL,f])]
   |new=>cases os <;> rfl
   |gone=>cases os <;> rfl
   |bad=>cases os <;> rfl
 have m:∀(a:List Rf),(∀i,i∈bL a->nth H' i=nth H i)->jL H' a=jL H a:=λa=>by
  induction a with
  |nil=>intro _;rfl
  |cons h a d=>
   intro c;cases h with
   |bG i=>
    simp only[jL,c i (by simp[bL])];rw[d λg f=>c g (by simp[bL,f])]
   |new=>exact d c
   |gone=>exact d c
   |bad=>exact d c
 unfold gE;rw[kK,drop_eq,b _ _ λi j=>k i (by rw[l];exact oi _ j),m _ λi j=>k i (by rw[l];exact j5 _ j)]
end
section
variable {P:Program}{B:Tb}{R:Type}{r:R}
def Dz{e:Nat->Type}:∀(c:List (TV e)) (a b:Nat),lk (fi a c) (a+b)=(c[b]?).getD .any
 |[],_,_=>rfl
 |d::c,a,0=>by simp[fi,lk,hQ]
 |d::c,a,b+1=>by
  have:fe a (a+(b+1))=false:=by
   cases f:fe a (a+(b+1)) with
   |false=>rfl
   |true=>have:=beq_eq f;omega
  simp only[fi,lk,this,cond_false];rw[show a+(b+1)=a+1+b by omega,Dz c (a+1) b];simp
def QD{c:Nat->Type}:∀(a:List (TV c)) (b:Nat),(fi b a).length=a.length
 |[],_=>rfl
 |d::a,b=>by simp[fi,QD a]
def ZT{g:Gh}{f:List aO}{i:World}{c:List (TV B.D)}{b:List Value}(d:xB g f i (aP B c) b)(a:Nat):VR g f i (pv B (lk (fi 0 c) a)) (b.getD a undef):=by
 have h:=Dz c 0 a;rw[e6] at h;rw[h];cases e:c[a]? with
 |none=>exact .any _
 |some k=>
  have l:=c9 e;have j:a<b.length:=by rw[<-d.1,db,l3];exact l
  have:=d.2 a (pv B k) b[a] (EL e) (c4 j);rw[h8,c4 j];exact this
def Z3(ar:cU P B){s:List (aq B)}(V:∀b,b∈s->Fits P B b){t:Nat}{c:List (TV B.D)}{H:List (Ob B.D)}{E:cr B.D->Option R}(a:nz B t ⟨fi 0 c,H⟩ E s=c5 r):
 ∃k,E k=c5 r/\iZ H k/\∃b,b∈s/\b.cO=t/\∀(H':List (Ob B.D)),(∀i,i∈aX k.rd (eV k.wr)->nth H' i=nth (aX H (dx k.nw)) i)->∀g u n,bF g (av B H') n->xB g (av B H') n (aP B c) u->
  Calls P t u.toArray n λy q=>∃A o v p,y= .returned A/\(v=pv B k.val/\p=av B (b8 H' k.wr))/\bF o p q/\VR o p q v A/\Bml.GStep (av B H').length g (av B H') n o p q:=by
 induction s with
 |nil=>simp[nz] at a
 |cons b s L=>
  have next:nz B t ⟨fi 0 c,H⟩ E s=c5 r->∃k,E k=c5 r/\iZ H k/\∃z,z∈b::s/\z.cO=t/\∀(H':List (Ob B.D)),(∀i,i∈aX k.rd (eV k.wr)->nth H' i=nth (aX H (dx k.nw)) i)->∀g u n,bF g (av B H') n->xB g (av B H') n (aP B c) u->
   Calls P t u.toArray n λy q=>∃A o v p,y= .returned A/\(v=pv B k.val/\p=av B (b8 H' k.wr))/\bF o p q/\VR o p q v A/\Bml.GStep (av B H').length g (av B H') n o p q:=λa=>by
   obtain⟨k,x,G,z,C,aw⟩:=L (λz am=>V z (c7 _ am)) a;exact⟨k,x,G,z,c7 _ C,aw⟩
  simp only[nz] at a;cases K:(bif fe b.cO t then fe (len (fi 0 c)) b.na else false) with
  |false=>rw[K] at a;exact next a
  |true=>
   rw[K] at a;obtain⟨I,ag⟩:=fu K;have I:=beq_eq I;simp only[cond_true] at a
   split at a
   .rename_i aJ w;unfold Nv at a;obtain⟨M,a⟩:=a8 a;obtain⟨N,a⟩:=a8 a;obtain⟨T,a⟩:=a8 a;obtain⟨A,a,ae⟩:=Ae a;obtain⟨ax,an,a⟩:=ei.1 a;generalize aI:nQ (D:=B.D) ⟨fi 0 c,H⟩ b.par.dF=ids at w M N T a;generalize aB:nI B (gu H ids b.low (len H)) b.az ax=ay at a;obtain⟨rs,os⟩:=ay;obtain⟨ac,al⟩:=a8 a;have ab:b.low<=os.length:=by rw[<-eu];exact e4 ac
    have aD:zc (aX (eW H b.par.dF ids) (gK ⟨fi 0 c,H⟩ b.par.dE))=true\/(oN B.flat B.el b.az.dF=true/\tJ B.flat b.az.dE=true):=by
     cases aH:zc (aX (eW H b.par.dF ids) (gK ⟨fi 0 c,H⟩ b.par.dE)) with
     |true=>exact .inl rfl
     |false=>
      rw[aH] at M;exact .inr (fu M)
    obtain⟨_,_,S⟩:=NS (H':=H) w λ_ _=>rfl
    have aa:(bL ids).Nodup:=by
     unfold leaves at w;obtain⟨_,w⟩:=a8 w;obtain⟨aa,_⟩:=a8 w;exact(tw _).1 aa
    have J:∀i,i∈bL ids->i<len H:=λi d=>by
     obtain⟨e,h⟩:=S i d;rw[cJ] at h;rw[eu];exact c9 h
    have U:(len (drop b.low os))=os.length -b.low:=by rw[eu,drop_eq,ih]
    have Q:bL ids=bL (ids.take b.low)++bL (ids.drop b.low):=by rw[<-rH,gx]
    obtain⟨ah,aM⟩:=JU (H:=H) (os:=os) N ab;obtain⟨az,aL⟩:=tm (H:=H) (ids:=ids.drop b.low) λi d=>S i (by rw[Q];exact j5 _ d)
    obtain⟨ap,au⟩:=Jy (bs:=len H) (os:=os.drop b.low);refine⟨_,al,?_,b,by simp,I,?_⟩
    .intro i j l;have l:(i,j)∈gE H b.low (len H) ids os:=l;unfold gE at l;rw[bK,bK,kK,kK,drop_eq,drop_eq,c6,c6] at l;show i<H.length+len (drop b.low os)/\_
     rw[U];rcases l with l |l |l
     .have d:i∈bL ids:=by
       rw[Q];refine oi _ ?_;rw[<-ah];exact hY (f:=(·.1)) l
      have:=J i d;rw[eu] at this;refine⟨by omega,λe h=>?_⟩
      have:j.st=dJ H i:=Nh _ _ _ _ l;rw[this];unfold dJ;rw[h];exact l1 _
     .have d:i∈bL ids:=by
       rw[Q];refine j5 _ ?_;rw[<-az];exact hY (f:=(·.1)) l
      have:=J i d;rw[eu] at this;refine⟨by omega,λe h=>?_⟩
      obtain⟨aK,F,ak⟩:=s9 _ _ _ l;rw[h] at F;injection F with F
      subst F;rw[ak];exact l1 _
     .have d:i∈o9 (len H) (os.drop b.low).length:=by rw[<-ap];exact hY (f:=(·.1)) l
      have:=m6.1 d;rw[ih,eu] at this;refine⟨by omega,λe h=>?_⟩
      rw[cJ] at h;have:=c9 h;omega
    .intro H' W g u n l Y;have X:∀i,i∈bL ids\/i∈aX (eW H b.par.dF ids) (gK ⟨fi 0 c,H⟩ b.par.dE)->nth H' i=nth (aX H (dx (len (drop b.low os)))) i:=λi d=>W i (by
      show i∈aX (aX (bL ids) (aX (eW H b.par.dF ids) (gK ⟨fi 0 c,H⟩ b.par.dE))) _
      rw[bK,bK,c6,c6];exact .inl d)
     have Z:∀i e,nth H i=c5 e->nth (aX H (dx (len (drop b.low os)))) i=c5 e:=λi e h=>Dy h
     have O:∀i,i∈bL ids->nth H' i=nth H i:=λi d=>by
      obtain⟨e,h⟩:=S i d;rw[X i (.inl d),Z i e h,h]
     obtain⟨aC,aj,_⟩:=NS (H':=H') w λi d=>by
      rw[bK,c6] at d;rcases d with d |d
      .exact O i d
      .obtain⟨e,h⟩:=Ni T i d;rw[X i (.inr d),Z i e h,h]
     have ai:=aeG (low:=b.low) (bs:=len H) O;have aG:=Xs (low:=b.low) (bs:=len H) (os:=os) O;have aE:=aeK ar (V b (by simp)) (Ea:=fi 0 c) (H:=H') (ids:=ids) (bs:=len H) (rs:=rs) (os:=os) aC ae an (by rw[ai];exact aB) (by rw[aj];exact aD) N ab J (λm af=>by
      have ao:len H+m∈eV (gE H b.low (len H) ids os):=by
       have aF:(os.drop b.low)[m]?=c5 os[b.low+m]:=by rw[hK];exact c4 af
       have:=au m _ aF;have:(len H+m,os[b.low+m])∈gE H b.low (len H) ids os:=by
        unfold gE;rw[bK,bK,kK,kK,drop_eq,drop_eq,c6,c6];exact .inr (.inr this)
       exact Z4 this
      have:=W (len H+m) (by
       show len H+m∈aX _ (eV (gE H b.low (len H) ids os))
       rw[bK,c6];exact .inr ao)
      rw[this];exact PK (by show m<len (drop b.low os);rw[U];omega)) l (as:=u) (by
       have x:=beq_eq ag;rw[eu,QD] at x;rw[<-Y.1,db,l3,x]) (ZT Y)
     rw[<-I];refine aE.mono ?_
     rintro y q ⟨v,o,aA,x,G,C⟩;rw[aG] at x G C;exact⟨v,o,_,_,aA,⟨rfl,rfl⟩,x,C,G⟩
   .exact next a
where
 Z4 {D:Nat->Type} {c:List (Nat×Ob D)} {i:Nat} {e:Ob D} (a:(i,e)∈c):i∈eV c:=by
  induction c with
  |nil=>cases a
  |cons ad c L=>
   rcases dd.1 a with y |a
   .simp[eV, <-y]
   .simp[eV,L a]
 Nh {D:Nat->Type} {H:List (Ob D)}:∀(c:List Rf) (os:List (Ob D)) (i:Nat) (j:Ob D),(i,j)∈iF H c os->j.st=dJ H i
  | .bG m::c,e::os,i,j,a=>by
   simp only[iF,dd,h5] at a;rcases a with⟨rfl,rfl⟩ |a
   .rfl
   .exact Nh c os i j a
  |[],_,_,_,a=>by simp[iF] at a
  | .bG m::c,[],_,_,a=>by simp[iF] at a
  | .new::c,_,_,_,a=>by simp[iF] at a
  | .gone::c,_,_,_,a=>by simp[iF] at a
  | .bad::c,_,_,_,a=>by simp[iF] at a
 s9 {D:Nat->Type} {H:List (Ob D)}:∀(c:List Rf) (i:Nat) (j:Ob D),(i,j)∈jL H c->∃e,nth H i=c5 e/\j.st=e.st+1
  | .bG m::c,i,j,a=>by
   simp only[jL] at a
   split at a
   .rename_i e h;simp only[dd,h5] at a;rcases a with⟨rfl,rfl⟩ |a
    .exact⟨e,h,rfl⟩
    .exact s9 c i j a
   .exact s9 c i j a
  |[],_,_,a=>by simp[jL] at a
  | .new::c,i,j,a=>s9 c i j a
  | .gone::c,i,j,a=>s9 c i j a
  | .bad::c,i,j,a=>s9 c i j a
 Ni {D:Nat->Type} {H:List (Ob D)}:∀{c:List Nat},here H c=true->∀i,i∈c->∃e,nth H i=c5 e
  |[],_,i,d=>by cases d
  |ad::c,a,i,d=>by
   simp only[here] at a
   split at a
   .rename_i e h;rcases dd.1 d with rfl |d
    .exact⟨e,h⟩
    .exact Ni a i d
   .cases a
end
end Go.X
namespace Go.Bml
open Go
section
variable {P:Program}{nt:Nat}{E:Env}{H:List aO}{d:Option Nat}{ty:TypeId}{pos:String}{aft:Array Edge}{x y:Operand}{t:TypeId}
def aiA{c b:List PV}{a:Nat}(j:a+b.length<=c.length)(i e:Nat):abk (c.take a++b++c.drop (a+b.length)) i e=if i<a then abk c i e else if i<a+b.length then abk b (i -a) e else abk c i e:=by
 have h:(c.take a).length=a:=by simp;omega
 unfold abk;rw[dv]
 by_cases f:i<a
 .rw[if_pos f,dt (by omega),eo f]
 .rw[if_neg f,dk (by omega),h]
  by_cases g:i<a+b.length
  .rw[if_pos g,dt (by omega)]
  .rw[if_neg g,dk (by omega),hK]
   congr 2
   omega
def bF.put{g:Gh}{w:World}{r b C off:Nat}{o:aO}{a:List PV}{j:List Value}{aK:Array Value}(X:bF g H w)(W:H[r]?=c5 o)(I:g.β r=c5 (b,C))(M:w.heap[b]?=c5 (.cells aK o.ty (0,0)))
 (T:gI g H w o.sz a j) (ah:∀(i:Nat) (e:PV),a[i]?=c5 e->e.cells.length=o.sz) (ae:off+a.length<=o.es.length):
 GStep H.length g H w (g.push r (c5 (b,C))) (H.set r ⟨o.ty,o.sz,o.es.take off++a++o.es.drop (off+a.length),o.aF⟩) (w.setRow b (aK.toList.take (off*o.sz)++j++aK.toList.drop (off*o.sz+j.length)).toArray)/\
 bF (g.push r (c5 (b,C))) (H.set r ⟨o.ty,o.sz,o.es.take off++a++o.es.drop (off+a.length),o.aF⟩) (w.setRow b (aK.toList.take (off*o.sz)++j++aK.toList.drop (off*o.sz+j.length)).toArray):=by
 have F:=X.obj r o W;have Y:=F.mem;rw[I] at Y;obtain⟨_,al,B,U,ac,ab,S⟩:=Y;rw[M] at B;injection B with B
 injection B with B _ _
 subst B;have Q:j.length=a.length*o.sz:=T.1;have ap:off*o.sz+j.length<=aK.size:=by
  rw[U,Q, <-j9];exact gb _ (by omega)
 have V:(o.es.take off++a++o.es.drop (off+a.length)).length=o.es.length:=by simp;omega
 generalize K:(aK.toList.take (off*o.sz)++j++aK.toList.drop (off*o.sz+j.length)).toArray=n;have ai:n.size=aK.size:=by
  rw[<-K];simp only[List.size_toArray,e5,hq,ih,Array.length_toList];omega
 have N:(aK.toList.take (off*o.sz)).length=off*o.sz:=by simp;omega
 have ad:∀k,k<j.length->n[off*o.sz+k]?=j[k]? :=λk R=>by
  rw[<-K,gy,dv,dk (by omega),N,dt (by omega)]
  congr 1
  omega
 have Z:∀q,q<off*o.sz\/off*o.sz+j.length<=q->n[q]?=aK[q]? :=λq J=>by
  rw[<-K,gy,dv];rcases J with J |J
  .rw[dt (by omega),eo J,j6]
  .rw[dk (by omega),N,dk (by omega),hK,j6]
   congr 1
   omega
 refine X.set (r:=r) (o:=o) (o':=⟨o.ty,o.sz,o.es.take off++a++o.es.drop (off+a.length),o.aF⟩) (p:=c5 (b,C)) W rfl rfl rfl (by simp)
  (λO ao aa=>setRow_other w b O n (λe=>aa C (by rw[e];exact I))) (ef _) (λ_=>⟨rfl,V,I.symm⟩)
  (λO aj h=>by injection h with h;injection h with u s;subst u;exact .inl ⟨C,I⟩) F.pos
  (λi e he=>?_) ?_
 .have ak:(o.es.take off).length=off:=by simp;omega
  simp only at he;rw[dv] at he
  by_cases u:i<off
  .rw[dt (by omega),eo u] at he;exact F.width i e he
  .rw[dk (by omega)] at he
   by_cases s:i - (o.es.take off).length<a.length
   .rw[dt s] at he;exact ah _ e he
   .rw[dk (by omega),hK] at he;exact F.width _ e he
 .refine⟨n,setRow_heap w b aK n o.ty (0,0) M,by rw[ai,U],ac,by rw[V];exact ab,λi D c m=>?_⟩
  show ∃l,n[i*o.sz+D]?=c5 l/\l.oneCell'=true/\VR g H w c l
  simp only at m;rw[aiA ae] at m
  split at m
  .rename_i u;obtain⟨l,A,s,G⟩:=S i D c m;obtain⟨ag,af,am⟩:=gw m;have an:=F.width i ag af;have:(i+1)*o.sz<=off*o.sz:=gb _ u;rw[j9,qq] at this;exact⟨l,(Z _ (.inl (by omega))).trans A,s,G⟩
  .rename_i u
   split at m
   .rename_i s;obtain⟨l,A,G,L⟩:=T.2 _ _ c m;refine⟨l,?_,G,L⟩
    have R:=(e0.1 A).1;rw[show i*o.sz+D=off*o.sz+((i -off)*o.sz+D) by rw[<-Nat.add_assoc, <-j9];congr 2;omega,ad _ R];exact A
   .rename_i s;obtain⟨l,A,G,L⟩:=S i D c m;have:(off+a.length)*o.sz<=i*o.sz:=gb _ (by omega);rw[j9, <-Q] at this;exact⟨l,(Z _ (.inr (by omega))).trans A,G,L⟩
def al0{g:Gh}{w:World}{b:Value}{z:PV}{a n:Nat}(v:kP b=z)(A:z.cells.length=a)(J:z.cells.all PV.one=true):gI g H w a (hB n z) (ez b.cells n).toList/\∀e∈(ez b.cells n).toList,e.oneCell'=true:=by
 have F:VR g H w z b:=v▸ .aW (AE _ _ _);obtain⟨G,B⟩:=F.tZ J (λvs=>v▸Hl b vs);have h:b.cells.size=a:=by simp at G;omega
 have C:∀c,c<n*a->(ez b.cells n).toList[c]?=b.cells[c%a]? :=λc f=>by
  have o:0<a:=m3 λq=>by rw[q] at f;omega
  have k:c%a<b.cells.size:=by rw[h];exact Nat.mod_lt _ o
  rw[j6];unfold ez;rw[Array.getElem?_map,Array.getElem?_range,if_pos (by rw[h];exact f)];simp only[l4,h];rw[getElem!_def,h9 k]
 have I:(ez b.cells n).toList.length=n*a:=by simp[ez,h]
 refine⟨⟨by rw[I,j7],λi l K j=>?_⟩,λe p=>?_⟩
 .obtain⟨L,j⟩:=Rq j;obtain⟨e,p,m,s⟩:=B l K j;have r:l<a:=by rw[<-A];exact(e0.1 j).1
  refine⟨e,?_,m,s⟩
  have k:i*a+l<n*a:=by
   have:(i+1)*a<=n*a:=gb _ (by omega);rw[j9,qq] at this;omega
  rw[C _ k,Nat.mul_comm,Nat.mul_add_mod,Nat.mod_eq_of_lt r];exact p
 .obtain⟨c,f,rfl⟩:=oo p;have u:c<n*a:=by omega
  have o:0<a:=m3 λq=>by rw[q] at u;omega
  have r:c%a<z.cells.length:=by rw[A];exact Nat.mod_lt _ o
  obtain⟨e,D,m,s⟩:=B _ _ (c4 r);have:=C c u;rw[D,c4 f] at this;injection this with this
  rw[this];exact m
def aog{a:Act}{b:World}:(execOp a.eval ⟨d,.call {callee:=.builtin .clear,args:=#[x],argTypes:=#[t]},ty,pos,aft,ea⟩).run P b=
 ((j1 #[t] ty #[a.eval x]).run P b).andThen λv c=>.ok (.value v) c:=by
 simp[execOp,resolve,invoke,builtin]
def ou{r:Nat}{c:aO}(b:H[r]?=c5 c):H.set r c=H:=by
 refine p6 λi=>?_
 by_cases a:i=r
 .subst a;rw[ev (e0.1 b).1,b]
 .rw[eH (Ne.symm a)]
def Wy{r v off len:Nat}{o:aO}{f:Value}{z:PV}(aa:PE E x= .sl r v off len)(A:ek H r o)(ac:o.aF=v)(C:dU P t=c5 o.ty)(W:dV P o.ty=c5 f)(U:kP f=z)(F:z.cells.length=o.sz)(Y:z.cells.all PV.one=true):
 fJ P ⟨d,.call {callee:=.builtin .clear,args:=#[x],argTypes:=#[t]},ty,pos,aft,ea⟩ E H λR H1=>R= .bu []/\H1=H.set r ⟨o.ty,o.sz,o.es.take off++hB len z++o.es.drop (off+len),o.aF⟩:=by
 intro g nt j w s ak aj O;have M:=lh (aa▸s.e.eval x) A ac;obtain⟨T,q⟩:=id M;have G:H[r]?=c5 o:=A;have V:∃a c,(j1 #[t] ty #[j.eval x]).run P w= .ok (.tuple #[]) a/\GStep H.length g H w c (H.set r ⟨o.ty,o.sz,o.es.take off++hB len z++o.es.drop (off+len),o.aF⟩) a/\
  bF c (H.set r ⟨o.ty,o.sz,o.es.take off++hB len z++o.es.drop (off+len),o.aF⟩) a:=by
  have zero:len=0->(∃e cap,j.eval x= .slice e 0 cap)->∃a c,(j1 #[t] ty #[j.eval x]).run P w= .ok (.tuple #[]) a/\GStep H.length g H w c (H.set r ⟨o.ty,o.sz,o.es.take off++hB len z++o.es.drop (off+len),o.aF⟩) a/\
   bF c (H.set r ⟨o.ty,o.sz,o.es.take off++hB len z++o.es.drop (off+len),o.aF⟩) a:=by
   rintro rfl ⟨e,cap,h⟩;have k:(j1 #[t] ty #[j.eval x]).run P w= .ok (.tuple #[]) w:=by
    rw[h];cases e <;> simp[j1,run_underlying (gD C)]
   have ab:(⟨o.ty,o.sz,o.es.take off++hB 0 z++o.es.drop (off+0),o.aF⟩:aO)=o:=by simp
   rw[ab,ou G];exact⟨w,g,k,GStep.refl _ _ _ _,s.m⟩
  cases m:g.β r with
  |none=>
   rw[m] at q;obtain⟨_,h0,e,h⟩:=q;subst h0;exact zero rfl ⟨e,0,h⟩
  |some p=>
   obtain⟨b,ad⟩:=p;rw[m] at q;obtain⟨cap,e,h,af,K,_⟩:=q
   by_cases h0:len=0
   .subst h0;exact zero rfl ⟨e,cap,h⟩
   .rw[K h0] at h;have N:=(s.m.obj r o A);have I:=N.mem;rw[m] at I;obtain⟨_,aK,B,S,ai,ah,ae⟩:=I;obtain⟨J,Q⟩:=al0 (g:=g) (H:=H) (w:=w) (n:=len) U F Y;have L:(ez f.cells len).toList.length=len*o.sz:=by rw[J.1,j7]
    have X:off*o.sz+0+(ez f.cells len).toList.length<=aK.size:=by
     rw[S,L,hS, <-j9];exact gb _ (by omega)
    have D:=run_storeCells_at P b (off*o.sz) o.ty (ez f.cells len).toList 0 aK w B X Q;simp only[hS] at D;have k:(j1 #[t] ty #[j.eval x]).run P w= .ok (.tuple #[]) (w.setRow b (aK.toList.take (off*o.sz)++(ez f.cells len).toList++aK.toList.drop (off*o.sz+(ez f.cells len).toList.length)).toArray):=by
     rw[h];obtain⟨ag,rfl⟩:∃n,len=n+1:=⟨len -1,by omega⟩;simp[j1,run_underlying (gD C),Ey W,D]
    obtain⟨u,l⟩:=s.m.put G m B J (λi al Z=>by have:=ej Z;rw[k0 this];exact F) (off:=off) (by simpa using T);rw[j7] at u l;exact⟨_,_,k,u,l⟩
 obtain⟨a,c,k,u,l⟩:=V;unfold r5;rw[aog,k];exact O (.tuple #[]) a c (.bu []) _ ⟨rfl,rfl⟩ (.aW (.bu [] [] rfl (by simp))) l u
def Yo{a:Act}{b:World}:(execOp a.eval ⟨d,.call {callee:=.builtin .copy,args:=#[x,y],argTypes:=#[t,t]},ty,pos,aft,ea⟩).run P b=
 ((k6 #[t,t] ty #[a.eval x,a.eval y]).run P b).andThen λv c=>.ok (.value v) c:=by
 simp[execOp,resolve,invoke,builtin]
def aem{g:Gh}{A:World}{a b:Nat}{c:List PV}{n:List Value}(h:gI g H A a c n)(u:∀(i:Nat) (j:PV),c[i]?=c5 j->j.cells.length=a)(z:b<=c.length):gI g H A a (c.take b) (n.take (b*a))/\∀f∈n.take (b*a),f.oneCell'=true:=by
 have v:b*a<=c.length*a:=gb _ z;refine⟨⟨by rw[hq,hq,h.1,o6 v,o6 z],λi p k e=>?_⟩,λf m=>?_⟩
 .have w:i<b:=by
   obtain⟨j,o,_⟩:=gw e;have:=(e0.1 o).1;simp at this;omega
  have r:abk c i p=c5 k:=by
   unfold abk at e⊢;rw[eo w] at e;exact e
  obtain⟨f,m,l,B⟩:=h.2 i p k r;obtain⟨j,o,L⟩:=gw r;have K:=u i j o;have:(i+1)*a<=b*a:=gb _ w;rw[j9,qq] at this;exact⟨f,by rw[eo (by omega)];exact m,l,B⟩
 .obtain⟨D,C,rfl⟩:=oo m;have q:D<b*a:=by simp at C;omega
  have I:0<a:=m3 λh=>by rw[h] at q;omega
  obtain⟨F,J,G⟩:=Jv I (Nat.lt_of_lt_of_le q v);obtain⟨k,e⟩:=Gg u F J;obtain⟨f,s,l,_⟩:=h.2 _ _ k e;rw[G] at s;rw[List.getElem_take];have:=(e0.1 s).2;rw[this];exact l
def US{r v off len:Nat}{o:aO}{p:PV}{a:List PV}(ar:PE E x= .sl r v off len)(A:ek H r o)(ax:o.aF=v)(ao:PE E y=p)(aq:lE H p o.sz a)(I:dU P t=c5 o.ty)(Q:cH P o.ty=c5 o.sz):
 fJ P ⟨d,.call {callee:=.builtin .copy,args:=#[x,y],argTypes:=#[t,t]},ty,pos,aft,ea⟩ E H λad H1=>ad= .int .i64 ((min len a.length:Nat):Int)/\H1=H.set r ⟨o.ty,o.sz,o.es.take off++a.take len++o.es.drop (off+(a.take len).length),o.aF⟩:=by
 intro g nt h e n aN aL ae;have aa:=lh (ar▸n.e.eval x) A ax;obtain⟨aH,u⟩:=id aa;have N:=n.m.obj r o A;have ab:=N.pos;have F:H[r]?=c5 o:=A;obtain⟨J,ap,aM,O,aA⟩:=aq.real n.m (ao▸n.e.eval y) ab;have ak:∃f j,(k6 #[t,t] ty #[h.eval x,h.eval y]).run P e= .ok (goInt ((min len a.length:Nat):Int)) f/\GStep H.length g H e j (H.set r ⟨o.ty,o.sz,o.es.take off++a.take len++o.es.drop (off+(a.take len).length),o.aF⟩) f/\
  bF j (H.set r ⟨o.ty,o.sz,o.es.take off++a.take len++o.es.drop (off+(a.take len).length),o.aF⟩) f:=by
  have az:Nat.min a.length len=min len a.length:=rb _ _;have zero:min len a.length=0->(∃k cap,h.eval x= .slice k len cap)->∃f j,(k6 #[t,t] ty #[h.eval x,h.eval y]).run P e= .ok (goInt ((min len a.length:Nat):Int)) f/\GStep H.length g H e j (H.set r ⟨o.ty,o.sz,o.es.take off++a.take len++o.es.drop (off+(a.take len).length),o.aF⟩) f/\
   bF j (H.set r ⟨o.ty,o.sz,o.es.take off++a.take len++o.es.drop (off+(a.take len).length),o.aF⟩) f:=by
   rintro h0 ⟨k,cap,m⟩;have W:a.take len=[]:=dT (by rw[hq];exact h0);have T:(⟨o.ty,o.sz,o.es.take off++a.take len++o.es.drop (off+(a.take len).length),o.aF⟩:aO)=o:=by rw[W];simp
   refine⟨e,g,?_,by rw[T,ou F];exact GStep.refl _ _ _ _,by rw[T,ou F];exact n.m⟩
   rw[h0];rw[m,O];cases k <;> cases ap <;> simp[k6,run_underlying (gD I),r4,run_sizeOf Q,az,h0,p0,loadCells,loadCellsFrom,storeCells]
  cases s:g.β r with
  |none=>
   rw[s] at u;obtain⟨_,h0,k,m⟩:=u;subst h0;exact zero (by simp) ⟨k,0,m⟩
  |some q=>
   obtain⟨b,aE⟩:=q;rw[s] at u;obtain⟨cap,k,m,aG,X,_⟩:=u
   by_cases h0:min len a.length=0
   .exact zero h0 ⟨k,cap,m⟩
   .have Y:len≠0:=by omega
    have aB:a≠[]:=λay=>by rw[ay] at h0;simp at h0
    rw[X Y] at m;obtain⟨U,l,rfl,af,aj⟩:=aA.resolve_left aB;have S:=N.mem;rw[s] at S;obtain⟨_,aK,G,ag,aJ,aI,aF⟩:=S;have ah:a.take len=a.take (min len a.length):=by
     rw[List.take_eq_take_iff];omega
    rw[ah];generalize au:min len a.length=c at*;have aD:c<=len:=by omega
    have R:c<=a.length:=by omega
    obtain⟨V,ac⟩:=aem af J R;have M:(l.take (c*o.sz)).length=c*o.sz:=by rw[V.1,hq,o6 R]
    have al:off*o.sz+0+(l.take (c*o.sz)).length<=aK.size:=by
     rw[ag,M,hS, <-j9];exact gb _ (by omega)
    have L:=run_storeCells_at P b (off*o.sz) o.ty (l.take (c*o.sz)) 0 aK e G al ac;simp only[hS] at L;have ai:(loadCells U (c*o.sz)).run P e= .ok (l.take (c*o.sz)).toArray e:=by
     have:=run_loadCells_list (P:=P) e U (l.take (c*o.sz)) λK av B=>aj K av (by
      have aw:K<c*o.sz:=by have:=(e0.1 B).1;omega
      rw[eo aw] at B;exact B)
     rw[M] at this;exact this
    have z:(k6 #[t,t] ty #[h.eval x,h.eval y]).run P e= .ok (goInt c) (e.setRow b (aK.toList.take (off*o.sz)++l.take (c*o.sz)++aK.toList.drop (off*o.sz+(l.take (c*o.sz)).length)).toArray):=by
     rw[m,O];have an:Nat.min a.length len=c:=by rw[<-au];exact rb _ _
     simp[k6,run_underlying (gD I),r4,run_sizeOf Q,an,p0,ai,L]
    have Z:(a.take c).length=c:=by rw[hq];omega
    obtain⟨C,w⟩:=n.m.put F s G V (λi aC D=>by
     have am:i<c:=by have:=(e0.1 D).1;omega
     rw[eo am] at D;exact J i aC D) (off:=off) (by rw[Z];omega)
    exact⟨_,_,z,C,w⟩
 obtain⟨f,j,z,C,w⟩:=ak;unfold r5;rw[Yo,z];exact ae (goInt ((min len a.length:Nat):Int)) f j (.int .i64 ((min len a.length:Nat):Int)) _ ⟨rfl,rfl⟩ (.aW (VI.int .i64 _)) w C
def apT{A:Op}{r v len:Nat}{o:aO}(e:cM P ⟨d,A,ty,pos,aft,ea⟩ E H (.sl r v 0 len))(n:ek H r o)(V:o.aF=v):
 fJ P ⟨d,A,ty,pos,aft,ea⟩ E H λN H1=>N= .fl r (v+1)/\H1=H.set r ⟨o.ty,o.sz,o.es.take len,v+1⟩:=by
 intro g nt F u q ab aa M;obtain⟨x,R,O⟩:=e g nt F u q;have K:=lh O n V;obtain⟨Y,h⟩:=id K;have l:=q.m.obj r o n;have z:H[r]?=c5 o:=n;have I:(o.es.take len).length=len:=by simp;omega
 obtain⟨U,C⟩:=q.m.set (r:=r) (o:=o) (o':=⟨o.ty,o.sz,o.es.take len,v+1⟩) (w':=u) (p:=g.β r) z rfl rfl rfl (ef _) (λ_ _ _=>rfl) (by simp;omega) (λe=>by simp at e;omega) (λb k e=>.inl ⟨k,e⟩) l.pos
  (λi B a=>by
   have s:i<len:=by have:=(e0.1 a).1;simp at this;omega
   simp only at a;rw[eo s] at a;exact l.width i B a)
  (by
   have j:=l.mem;cases c:g.β r with
   |none=>
    rw[c] at j;show o.es.take len=[]
    rw[show o.es=[] from j];simp
   |some p=>
    obtain⟨b,k⟩:=p;rw[c] at j;obtain⟨_,cells,X,Q,S,Z,J⟩:=j;refine⟨cells,X,Q,S,by simp;omega,λi G W f=>J i G W ?_⟩
    obtain⟨B,a,_⟩:=gw f;have s:i<len:=by have:=(e0.1 a).1;simp at this;omega
    unfold abk at f⊢;simp only at f;rw[eo s] at f;exact f)
 unfold r5;rw[R];have w:x.oneCell'=true/\SL (g.push r (g.β r)) ⟨o.ty,o.sz,o.es.take len,v+1⟩ r 0 (o.es.take len).length x:=by
  unfold SL;rw[Gh.kg,I];cases c:g.β r with
  |none=>
   rw[c] at h;obtain⟨_,h0,m,a⟩:=h;exact⟨by rw[a];rfl,by simp,rfl,h0,m,a⟩
  |some p=>
   obtain⟨b,k⟩:=p;rw[c] at h;obtain⟨cap,m,a,D,T,L⟩:=h;exact⟨by rw[a];rfl,by simp,cap,m,a,D,T,L⟩
 exact M x u _ (.fl r (v+1)) _ ⟨rfl,rfl⟩ (.fl r (v+1) _ x (ev (e0.1 z).1) (ef _) w.1 λ_=>w.2) C U
end
end Go.Bml
namespace Go.X
open Go Go.Aml Go.Bml
section
variable {P:Program}{B:Tb}{R:Type}{r:R}
def D0(b:TV B.D)(q v a c d:Nat):Prop:=(b= .fl q v/\a=0/\c=d)\/b= .sl q v a c
def MJ{j:List (Ob B.D)}{i:TV B.D}{k:Nat->Nat->Nat->Nat->(b:Nat)->List (B.D b)->Option R}(a:B4 B j i k=c5 r):
 ∃q v e f b c d,nth j q=c5 ⟨d,v,.aap b c⟩/\D0 (B:=B) i q v e f c.length/\k q v e f b c=c5 r:=by
 unfold B4 at a
 split at a
 .rename_i q v
  split at a
  .rename_i b c h;obtain⟨d,g⟩:=fx h;exact⟨q,v,0,_,b,c,d,g,.inl ⟨rfl,rfl,rfl⟩,a⟩
  .cases a
 .rename_i q v e f
  split at a
  .rename_i b c h;obtain⟨d,g⟩:=fx h;exact⟨q,v,e,f,b,c,d,g,.inr rfl,a⟩
  .cases a
 .cases a
def Lj{a:Option Nat}{c:Nat}(b:KK a c=true):a=c5 c:=by
 cases a with
 |none=>cases b
 |some d=>rw[beq_eq b]
def MH{n:Oper}{a:Env}{b:List aO}{e:Operand}{q i j:Nat}{ob:aO}{l:PV->List aO->Prop}(s:(PE a e= .fl q ob.aF/\i=0/\j=ob.es.length)\/PE a e= .sl q ob.aF i j)(o:ek b q ob)
 (c:∀g,PE g e= .sl q ob.aF i j->(∀d f h,kV b (PE a d) f h->kV b (PE g d) f h)->fJ P n g b l):fJ P n a b l:=by
 rcases s with⟨k,rfl,rfl⟩ |k
 .obtain⟨t,rfl,m⟩:=ri k;refine yP m o rfl (c _ ?_ λd f h p=>JM p m o)
  exact ni _ _ _
 .exact c a k λ_ _ _ c=>c
def Ln{c:En B.D}{b:Operand}{g:TV B.D}{q v d e h:Nat}{a:aO}(m:D0 (B:=B) g q v d e h)(f:PE (aU B c) b=pv B g)(j:a.aF=v)(i:a.es.length=h):
 (PE (aU B c) b= .fl q a.aF/\d=0/\e=a.es.length)\/PE (aU B c) b= .sl q a.aF d e:=by
 subst j;subst i;rcases m with⟨rfl,l,k⟩ |rfl
 .exact .inl ⟨f,l,k⟩
 .exact .inr f
def aiS(L:cU P B){t a q v off e g:Nat}{x y:Operand}{E:En B.D}{H:List (Ob B.D)}{b c:List (B.D a)}{m:List Nat}(F:D0 (B:=B) (pe E x) q v off e b.length)(h:nth H q=c5 ⟨g,v,.aap a b⟩)(D:yd B H (pe E y) a c m)
 (p:dU P t=c5 a) (C:cH P a=c5 (B.sz a)):
 gY P (.call {callee:=.builtin .copy,args:=#[x,y],argTypes:=#[t,t]}) E H ⟨.int .i64 ((min e c.length:Nat):Int),[(q,⟨dJ H q,v,.aap a (mg c off e b)⟩)],0,q::m⟩:=by
 have l:x∈(s3 {callee:=.builtin .copy,args:=#[x,y],argTypes:=#[t,t]}).operands/\y∈(s3 {callee:=.builtin .copy,args:=#[x,y],argTypes:=#[t,t]}).operands:=by simp[ma,oS]
 intro d ty pos aft w k f;have n:=df (f.lN (.inl (by simp)) h);have j:kV (av B k) (PE (aU B w) y) (B.sz a) (c.map (B.ty a).enc):=by rw[f.pe l.2];exact D k λi o G h=>f.lN (.inl (by simp[G])) h
 refine MH (ob:=aY B ⟨g,v,.aap a b⟩) (Ln F (f.pe l.1) rfl (by simp[aY])) n λK z u=>?_
 refine uL (x:=y) (u _ _ _ j) λA j s=>?_
 have I:=US (P:=P) (E:=A) (H:=av B k) (d:=d) (ty:=ty) (pos:=pos) (aft:=aft) (x:=x) (y:=y) (r:=q) (v:=v) (off:=off) (len:=e) (t:=t) (o:=aY B ⟨g,v,.aap a b⟩) (s x _ z (by simp)) n rfl rfl j p C;refine lI I ?_
 rintro v J ⟨rfl,rfl⟩;refine⟨by simp[pv],?_⟩
 rw[mc];simp[aY,mg,mb,oq]
def Uj(m:cU P B){t a q v off g h:Nat}{x:Operand}{E:En B.D}{H:List (Ob B.D)}{e:List (B.D a)}{z:Value}{j:B.D a}(K:D0 (B:=B) (pe E x) q v off g e.length)(I:nth H q=c5 ⟨h,v,.aap a e⟩)
 (u:dU P t=c5 a) (A:dV P a=c5 z) (w:jj (dN (cv (D:=B.D) z))=true) (J:B.up a (cv z)=c5 j):
 gY P (.call {callee:=.builtin .clear,args:=#[x],argTypes:=#[t]}) E H ⟨.bu [],[(q,⟨dJ H q,v,.aap a (iG j off g e)⟩)],0,[q]⟩:=by
 have s:x∈(s3 {callee:=.builtin .clear,args:=#[x],argTypes:=#[t]}).operands:=by simp[ma,oS]
 obtain⟨V,n⟩:=m.up a _ j J;have C:(pv B (cv z)).cells.length=B.sz a:=by rw[n.cells.1,m.wid]
 intro d ty pos aft W O p;have k:=df (p.lN (.inl (by simp)) I);refine MH (ob:=aY B ⟨h,v,.aap a e⟩) (Ln K (p.pe s) rfl (by simp[aY])) k λQ y _=>?_
 have L:=Wy (P:=P) (E:=Q) (H:=av B O) (d:=d) (ty:=ty) (pos:=pos) (aft:=aft) (x:=x) (r:=q) (v:=v) (off:=off) (len:=g) (t:=t) (o:=aY B ⟨h,v,.aap a e⟩) y k rfl u A (DK B z).symm C (by rw[l5];exact oK w);have M:jB ⟨a,B.sz a,((aY B ⟨h,v,.aap a e⟩).es.take off++hB g (pv B (cv z))++(aY B ⟨h,v,.aap a e⟩).es.drop (off+g)),v⟩ ⟨a,B.sz a,(iG j off g e).map (B.ty a).enc,v⟩:=by
  refine jB.of (by simp[aY,iG]) (λi U b f c=>?_) λi X N=>?_
  .simp only[aY,iG,o4,mb,oq,List.map_replicate, <-dv] at f c
   by_cases l:i<(List.take off (List.map (B.ty a).enc e)++hB g (pv B (cv z))).length
   .rw[dt l] at f;rw[dt (by simpa using l)] at c
    by_cases F:i<(List.take off (List.map (B.ty a).enc e)).length
    .rw[dt F] at f c;rw[f] at c;injection c with c
     subst c;exact .refl _
    .rw[dk (by omega)] at f c;rw[k0 (ej f),k0 (ej c)];exact n
   .rw[dk (by omega)] at f;rw[dk (by simpa using l)] at c;simp only[e5,j7] at f c;rw[f] at c;injection c with c
    subst c;exact .refl _
  .obtain⟨G,_,rfl⟩:=ey.1 (ej N);exact m.wid a G
 refine lI (tu L (c9 k) M (.refl _)) ?_
 rintro T S ⟨rfl,rfl⟩;refine⟨rfl,?_⟩
 rw[mc]
 rfl
def ao6{t:TypeId}{x:Operand}{hi:Option Operand}{E:En B.D}{H:List (Ob B.D)}{c:cr B.D->Option R}(h:shrink B P E H t (pe E x) hi c=c5 r):
 ∃m,c m=c5 r/\iZ H m/\gY P (.slice t x ea hi ea) E H m:=by
 unfold shrink at h
 split at h
 .rename_i q v N
  split at h
  .rename_i e i S;obtain⟨O,u⟩:=fx S;obtain⟨p,J⟩:=a8 h;obtain⟨b,G,F⟩:=fq J;obtain⟨X,j,I⟩:=ei.1 F;obtain⟨_,W,T,rfl⟩:=Kt j;refine⟨_,I,pz u,λd ty pos aft f Q A=>?_⟩
   have s:∀z,z∈(Op.slice t x ea hi ea).operands->PE (aU B f) z=pv B (pe E z):=λz K=>A.pe K
   have k:=df (A.lN (.inl (by simp)) u);have ops:∀a,hi=c5 a->∀c e,pe E a= .int c e->PE (aU B f) a= .int c e:=λa j c e n=>by
    rw[s a (by subst j;simp[ma]),n];rfl
   obtain⟨g,rfl,w⟩:=ri (show PE (aU B f) x= .fl q v by rw[s x (by simp[ma]),N];rfl);refine yP w k rfl ?_
   have D:PE ((g,PV.sl q v 0 i.length)::aU B f) (.tmp g)= .sl q v 0 i.length:=ni _ _ _;have M:∀a,hi=c5 a->∀c e,pe E a= .int c e->PE ((g,PV.sl q v 0 i.length)::aU B f) a= .int c e:=λa j c e n=>by
    have o:=ops a j c e n
    by_cases y:a= .tmp g
    .subst y;rw[show PE (aU B f) (.tmp g)= .fl q v from w] at o;cases o
    .rw[wD a y];exact o
   have:=SC (P:=P) (E:=(g,PV.sl q v 0 i.length)::aU B f) (H:=av B Q) (d:=d) (ty:=ty) (pos:=pos) (aft:=aft) (gd:=ea) (t:=t) (x:=.tmp g) (lo:=ea) (hi:=hi) (l:=0) (h:=b.toNat) D k rfl (mh p).1 (mh p).2 rfl (wk (by simpa[aY] using G) (by omega) M) (by omega) (by simp[aY];omega);rw[e6,s5] at this;have L:=apT this k rfl;have C:(aY B ⟨O,v,.aap e i⟩).es.length=i.length:=by simp[aY]
   rw[C];refine lI L ?_
   rintro V U ⟨rfl,rfl⟩;refine⟨rfl,?_⟩
   rw[mc];simp[aY,mb]
  .cases h
 .cases h
end
section
variable {P:Program}{B:Tb}{R:Type}{r:R}
def iW{c:Op}{d:En B.D}{a:List (Ob B.D)}{f:List Nat}{v:TV B.D}{e:cr B.D->Option R}(g:e ⟨v,[],0,f⟩=c5 r)(h:fW P c d a f v):∃b,e b=c5 r/\iZ a b/\gY P c d a b:=
 ⟨_,g,S6,h.sound⟩
def ar7{e:Op}{f:En B.D}{b:List (Ob B.D)}{g:cr B.D->Option R}(a:∃v d,g ⟨v,[],0,d⟩=c5 r/\fW P e f b d v):∃c,g c=c5 r/\iZ b c/\gY P e f b c:=by
 obtain⟨v,d,h,a⟩:=a;exact iW h a
def ML{f:En B.D}{d:List Operand}{e:TV B.D}(a:fB f d=[e]):∃c,d=[c]/\pe f c=e:=by
 match d,a with
 |[c],a=>exact⟨c,rfl,by simpa[fB] using a⟩
 |[],a=>cases a
 |c::b::d,a=>simp[fB] at a
def GZ{e:En B.D}{d:List Operand}{g f:TV B.D}(a:fB e d=[g,f]):∃c b,d=[c,b]/\pe e c=g/\pe e b=f:=by
 match d,a with
 |[c,b],a=>exact⟨c,b,rfl,by simpa[fB] using a⟩
 |[],a=>cases a
 |[c],a=>simp[fB] at a
 |c::b::h::d,a=>simp[fB] at a
def oy{c:Type}{a:Array c}{b:List c}(d:a.toList=b):a=b.toArray:=by
 rw[<-d,hU]
def OQ{f:Type}:∀(e c:List f) {d:f},d∈nf e c->d∈e\/d∈c
 |[],_,_,a=>.inr a
 |b::e,c,d,a=>by
  rcases OQ e (b::c) a with a |a
  .exact .inl (c7 _ a)
  .rcases dd.1 a with rfl |a
   .exact .inl j3
   .exact .inr a
def MI(O:cU P B){G:List (aq B)}(p:∀h,h∈G->Fits P B h){j:Nat}{cs ds:List (TV B.D)}{fo:Operand}{args:Array Operand}{ci:Array TypeId}{E:En B.D}{H:List (Ob B.D)}{o:cr B.D->Option R}
 (D:pv B (pe E fo)= .fn j (aP B cs) (aP B ds)) (N:nz B j ⟨fi 0 (aX cs (aX (fB E args.toList) ds)),H⟩ o G=c5 r):
 ∃b,o b=c5 r/\iZ H b/\gY P (.call {callee:=.value fo,args:=args,argTypes:=ci}) E H b:=by
 obtain⟨b,x,w,h,Q,z,C⟩:=Z3 O p N;refine⟨b,x,w,λd ty pos aft n k l=>?_⟩
 have m:∀a,a=fo\/a∈args->a∈(s3 {callee:=.value fo,args:=args,argTypes:=ci}).operands:=λa c=>by
  simp only[ma,oS];rcases c with rfl |c
  .simp
  .simp[c]
 have e:=WB (P:=P) (E:=aU B n) (H:=av B k) (d:=d) (ty:=ty) (pos:=pos) (aft:=aft) (fo:=fo) (as:=args.toList) (ci:=ci) (f:=j) (cs:=aP B cs) (ds:=aP B ds) (K:=λv K=>v=pv B b.val/\K=av B (b8 k b.wr))
  (by rw[l.pe (m fo (.inl rfl)),D]) (by rw[<-z];exact(p h Q).Q6) (λg F u L q=>by
   have s:aP B cs++args.toList.map (PE (aU B n))++aP B ds=aP B (aX cs (aX (fB E args.toList) ds)):=by
    rw[<-DE (E:=E) λa c=>l.pe (m a (.inr (hX.1 c)))];simp[bK,db]
   rw[s] at q;refine(C k (λi J=>l.h i J) g F u L q).mono ?_
   rintro s S ⟨a,A,v,K,M,t,y,e,I⟩;exact⟨a,A,v,K,M,t,y,e,I⟩)
 rw[hU] at e;exact e
def aaE(n:cU P B){G:List (aq B)}(ad:∀d,d∈G->Fits P B d){X:Bool}{w:En B.D}{H:List (Ob B.D)}{S:Op}{Z:cr B.D->Option R}(a:step B P G X w H S Z=c5 r):
 ∃al,Z al=c5 r/\iZ H al/\gY P S w H al:=by
 cases S with
 |move g=>exact iW a anB
 |assign g=>exact iW a aqt
 |pick d h b=>
  simp only[step] at a
  split at a
  .rename_i b j;exact iW a (akp j)
  .cases a
 |binOp S t g A yt=>
  simp only[step] at a;obtain⟨v,e,m⟩:=afA (H:=H) (yt:=yt) a;exact iW e m
 |unOp S t g=>
  simp only[step] at a;obtain⟨v,e,m⟩:=amY (P:=P) (t:=t) (H:=H) a;exact iW e m
 |convert aM aN g=>
  simp only[step] at a
  split at a
  .rename_i b C h c aE;obtain⟨m,e⟩:=a8 a;exact iW e (aip c aE m)
  .cases a
 |extract g i=>
  simp only[step] at a
  split at a
  .rename_i cs c;obtain⟨v,L,e⟩:=fq a;exact iW e (ahW c L)
  .cases a
 |nilCheck g=>
  simp only[step] at a
  split at a
  .rename_i q v i K c;exact iW a (Gw (.inl ⟨q,v,i,K,rfl⟩) c)
  .rename_i cs K c;exact iW a (Gw (.inr (.inl ⟨cs,K,rfl⟩)) c)
  .rename_i f cs ds c;exact iW a (Gw (.inr (.inr ⟨f,cs,ds,rfl⟩)) c)
  .cases a
 |field t g f=>
  simp only[step] at a
  split at a
  .rename_i cs aB ah c x;obtain⟨v,L,e⟩:=fq a;exact iW e (aex c x L)
  .cases a
 |fieldAddr t g f=>
  simp only[step] at a
  split at a
  .rename_i aB ah x
   split at a
   .rename_i s m
    split at a
    .rename_i q v i K c;exact iW a (R3 x m (.inl ⟨q,v,i,K,c,rfl⟩))
    .rename_i cs K c;exact iW a (R3 x m (.inr ⟨cs,K,c,rfl⟩))
    .cases a
   .cases a
  .cases a
 |indexAddr t g i=>exact ar7 (amg n a)
 |index t g i=>exact ar7 (ame a)
 |load t g=>exact ar7 (PD n a)
 |store t g A=>exact amr n a
 |slice t g W aj am=>
  cases am with
  |none=>
   simp only[step] at a;cases X with
   |false=>exact ar7 (aqA a)
   |true=>
    cases W with
    |none=>exact ao6 a
    |some W=>cases a
  |some am=>
   cases W with
   |some W=>cases aj <;> simp[step] at a
   |none=>
    cases aj with
    |none=>simp[step] at a
    |some aj=>exact ar7 (VT n a)
 |box t g=>
  simp only[step] at a;obtain⟨p,a⟩:=a8 a;obtain⟨k,e⟩:=a8 a;exact⟨_,e,xO,W5 p k⟩
 |alloc t=>
  simp only[step] at a
  split at a
  .rename_i z o;obtain⟨p,a⟩:=a8 a;obtain⟨k,e⟩:=a8 a;exact⟨_,e,xO,ac4 o p k⟩
  .cases a
 |build t au=>
  simp only[step] at a
  split at a
  .rename_i z aK o aC;obtain⟨p,a⟩:=a8 a;obtain⟨D,J,a⟩:=fq a;obtain⟨cs,x,e⟩:=fq a;exact iW e (agn o aC p J x)
  .cases a
 |buildSlice t D au=>
  simp only[step] at a
  split at a
  .rename_i s u;obtain⟨k,a⟩:=a8 a;obtain⟨F,a⟩:=a8 a;obtain⟨ab,a⟩:=a8 a
   split at a
   .rename_i aa c;obtain⟨p,a⟩:=a8 a;exact(aaJ n u c p k F ab).sound a
   .exact aco n a u k F ab
  .cases a
 |makeSlice t D d=>
  simp only[step] at a;obtain⟨aA,a⟩:=a8 a
  split at a
  .rename_i s aR C u J
   split at a
   .rename_i z aI o N;obtain⟨p,a⟩:=a8 a;obtain⟨k,a⟩:=a8 a;obtain⟨aw,ai,a⟩:=fq a;obtain⟨aa,c,a⟩:=ei.1 a;exact(aoF n aA J u o N p k ai c).sound a
   .cases a
  .cases a
 |makeFunc fn h d=>
  cases fn with
  |func f=>exact iW a W8
  |_=>simp[step] at a
 |call d=>
  obtain⟨callee,args,V⟩:=d;cases callee with
  |value f=>
   simp only[step] at a
   split at a
   .rename_i Y cs ds x;refine MI n (G:=bif X then nf G [] else G) (λd j=>ad d ?_) (by rw[x];rfl) a
    cases X with
    |false=>exact j
    |true=>exact(OQ G [] j).resolve_right q8
   .rename_i aJ x;obtain⟨Y,rfl,a⟩:=ei.1 a;have aG:∀D,sV B Y ⟨fi 0 (fB w args.toList),H⟩ Z D=c5 r->(∀d,d∈D->Fits P B d)->∃d,d∈D/\nz B Y ⟨fi 0 (fB w args.toList),H⟩ Z [d]=c5 r:=λD=>by
     induction D with
     |nil=>intro a;simp[sV] at a
     |cons h D an=>
      intro a J;simp only[sV] at a;cases h0:(bif fe (len (fi 0 (fB w args.toList))) h.na then(leaves h.par ⟨fi 0 (fB w args.toList),H⟩ (nQ ⟨fi 0 (fB w args.toList),H⟩ h.par.dF)).isSome else false) with
      |false=>
       rw[h0] at a;obtain⟨d,j,k⟩:=an a λd j=>J d (c7 _ j)
       exact⟨d,c7 _ j,k⟩
      |true=>
      rw[h0] at a;simp only[cond_true] at a;cases ac:fe Y h.cO with
      |true=>
       rw[ac] at a;exact⟨h,by simp,by rw[beq_eq ac];exact a⟩
      |false=>
       rw[ac] at a;obtain⟨d,j,k⟩:=an a λd j=>J d (c7 _ j)
       exact⟨d,c7 _ j,k⟩
    obtain⟨d,j,k⟩:=aG G a ad;refine MI n (G:=[d]) (cs:=[]) (ds:=[]) (λaQ ay=>by rw[List.mem_singleton.1 ay];exact ad d j) (by rw[x];rfl) ?_
    rw[aX,bK,ft];exact k
   .cases a
  |invoke _ _=>simp[step] at a
  |builtin b=>
   cases b <;> simp only[step] at a <;> first |(cases a;done) |skip
   case len=>
    split at a
    .rename_i g t c u
     split at a
     .rename_i s O;obtain⟨h,l,af⟩:=ML c;have l:args=#[h]:=oy l;subst l;have j:V=#[t]:=oy u;subst j;subst af;exact ar7 (Vw n O a)
     .cases a
    .cases a
   case min=>
    obtain⟨v,L,e⟩:=fq a;obtain⟨g,A,h,b,C,s,ag,c,Q,U,rfl⟩:=Nx L;exact iW e (adE rfl ag c Q U)
   case max=>
    obtain⟨v,L,e⟩:=fq a;obtain⟨g,A,h,b,C,s,ag,c,Q,U,rfl⟩:=Nx L;exact iW e (alY rfl ag c Q U)
   case append=>
    split at a
    .rename_i aL g t ar c u;obtain⟨ae,y⟩:=a8 a;clear a;obtain rfl:=beq_eq ae
     split at y
     .rename_i s O
      split at y
      .rename_i aI N;obtain⟨M,y⟩:=a8 y;obtain⟨h,b,l,I,T⟩:=GZ c;have l:args=#[h,b]:=oy l;subst l;have j:V=#[t,t]:=oy u;subst j;subst T;cases ao:SG B H (pe w b) with
       |true=>
        rw[ao,cond_true, <-I] at y;exact agG n y O N M
       |false=>
       rw[ao,cond_false] at y;obtain⟨aH,ax,a,m⟩:=Rz y
       split at a
       .obtain⟨ap,o,a⟩:=ei.1 a;exact(MY n (.inl I) m O N M o).sound a
       .obtain⟨ap,o,a⟩:=ei.1 a;exact(MY n (.inr I) m O N M o).sound a
       .rename_i q v
        split at a
        .rename_i C aa j;obtain⟨aP,E⟩:=fx j;obtain⟨aO,aF,a⟩:=fq a;obtain⟨rfl,rfl⟩:=AG aF;obtain⟨ap,o,e⟩:=ei.1 a;exact⟨_,e,pz E,YX n I E m O N M o⟩
        .cases a
       .cases a
      .cases y
     .cases y
    .cases a
   case clear=>
    split at a
    .rename_i g t c u;obtain⟨q,v,ah,aD,s,aa,az,E,m,p⟩:=MJ a;obtain⟨ak,k⟩:=a8 p;obtain⟨_,F⟩:=a8 k
     split at F
     .rename_i z o;obtain⟨J,ab⟩:=a8 F;obtain⟨aw,ai,e⟩:=fq ab;obtain⟨h,l,af⟩:=ML c;have l:args=#[h]:=oy l;subst l;have j:V=#[t]:=oy u;subst j;subst af;exact⟨_,e,pz E,Uj n m E (Lj ak) o J ai⟩
     .cases F
    .cases a
   case copy=>
    split at a
    .rename_i g A t ar c u;obtain⟨ae,h0⟩:=a8 a;obtain rfl:=beq_eq ae;obtain⟨q,v,ah,aD,s,aa,az,E,m,p⟩:=MJ h0;obtain⟨ak,k⟩:=a8 p;obtain⟨M,F⟩:=a8 k;obtain⟨aH,ax,e,Q⟩:=Rz F;obtain⟨av,_⟩:=qY M;obtain⟨h,b,l,I,T⟩:=GZ c;have l:args=#[h,b]:=oy l;subst l;have j:V=#[t,t]:=oy u;subst j;subst I;subst T;exact⟨_,e,pz E,aiS n m E Q (Lj ak) av⟩
    .cases a
 |_=>simp[step] at a
where
 Nx {f:Int->Int->Int} {args:Array Operand} {w:En B.D} {v:TV B.D} (a:Dm B f (fB w args.toList)=c5 v):∃g A h b C s,args=#[g,A]/\pe w g= .int h C/\pe w A= .int b s/\fV h b=true/\v= .int h (f C s):=by
  unfold Dm at a
  split at a
  .rename_i h C b s c;obtain⟨U,a⟩:=a8 a;injection a with a
   obtain⟨g,A,l,I,T⟩:=GZ c;exact⟨g,A,h,b,C,s,oy l,I,T,U,a.symm⟩
  .cases a
end
section
variable {P:Program}{B:Tb}{R:Type}{r:R}
def H8{c:Type}{b:List c}{i:Nat}{d:c}(a:nth b i=c5 d):i<b.length:=by
 rw[cJ] at a;exact c9 a
def SE{f:Type}:∀{ch:List (Nat×f)} {b d:List f} {i:Nat},nth b i=nth d i->nth (b8 b ch) i=nth (b8 d ch) i
 |[],_,_,_,a=>a
 |p::ch,b,d,i,a=>by
  refine SE (ch:=ch) ?_
  rw[iL,iL,cJ,cJ];rw[cJ,cJ] at a
  by_cases e:p.1=i
  .subst e;cases c:b[p.1]? with
   |none=>
    rw[c] at a;rw[ga (by rw[h6];exact m4.1 c),ga (by rw[h6];exact m4.1 a.symm)]
   |some g=>
    rw[c] at a;rw[ev (c9 c),ev (c9 a.symm)]
  .rw[eH e,eH e];exact a
def Mu{d:Type}:∀{a b:List (Nat×d)} {c:List d},b8 c (aX a b)=b8 (b8 c a) b
 |[],_,_=>rfl
 |p::a,b,c=>by simp only[aX,b8];exact Mu
def Rn{e:Nat->Type}{b d:List (Ob e)}:∀{a:List Nat},(∀i,i∈a->nth b i=nth d i)->gU b a=gU d a
 |[],_=>rfl
 |q::a,c=>by
  simp only[gU];rw[c q (by simp),Rn λi f=>c i (by simp[f])]
def FG{n:Nat->Type}{X:List (Ob n)}:∀{fr:List Nat} {Z:List (Ob n)},Z.length=X.length->(∀i,i∈fr->nth Z i=nth X i\/∃c,nth X i=c5 c/\nth Z i=c5 ⟨c.st+1,c.aF+1,.dead⟩)->
 (∀i,i∈fr->∀c,nth X i=c5 c->nth (b8 Z (gU X fr)) i=c5 ⟨c.st+1,c.aF+1,.dead⟩)/\(∀i,i∉fr->nth (b8 Z (gU X fr)) i=nth Z i)
 |[],Z,_,_=>⟨λi a=>(q8 a).elim,λi _=>rfl⟩
 |q::fr,Z,k,m=>by
  simp only[gU];cases g:nth X q with
  |none=>
   obtain⟨h,f⟩:=FG (X:=X) (fr:=fr) (Z:=Z) k λi a=>m i (by simp[a])
   refine⟨λi a c d=>?_,λi a=>f i λb=>a (by simp[b])⟩
   rcases dd.1 a with rfl |a
   .rw[g] at d;cases d
   .exact h i a c d
  |some e=>
   have p:q<Z.length:=by rw[k];exact H8 g
   have l:∀i,nth (me Z q ⟨e.st+1,e.aF+1,.dead⟩) i=if q=i then c5 ⟨e.st+1,e.aF+1,.dead⟩ else nth Z i:=λi=>by
    rw[iL,cJ,cJ]
    by_cases b:q=i
    .subst b;rw[if_pos rfl,ev p]
    .rw[if_neg b,eH b]
   obtain⟨h,f⟩:=FG (X:=X) (fr:=fr) (Z:=me Z q ⟨e.st+1,e.aF+1,.dead⟩) (by rw[iL,h6,k]) λi a=>by
    rw[l]
    by_cases b:q=i
    .subst b;exact .inr ⟨e,g,by rw[if_pos rfl]⟩
    .rw[if_neg b];exact m i (by simp[a])
   refine⟨λi a c d=>?_,λi a=>?_⟩
   .by_cases j:i∈fr
    .exact h i j c d
    .rcases dd.1 a with rfl |a
     .rw[b8,f i j,l,if_pos rfl];rw[g] at d;injection d with d
      rw[d]
     .exact absurd a j
   .have o:q≠i:=λb=>a (by simp[b])
    rw[b8,f i λb=>a (by simp[b]),l,if_neg o]
def lX(b:List Nat)(a:Nat)(q:Nat):Option Nat:=bif has b q then ea else bif j8 q a then c5 q else ea
def u7{e:List Nat}{b q i:Nat}(a:lX e b q=c5 i):i=q/\q∉e/\q<b:=by
 unfold lX at a;cases d:has e q with
 |true=>rw[d] at a;cases a
 |false=>
  rw[d] at a;simp only[cond_false] at a;cases c:j8 q b with
  |false=>rw[c] at a;cases a
  |true=>
   rw[c] at a;injection a with a
   exact⟨a.symm,nA d,e4 c⟩
def KI{a:List Nat}{b q:Nat}(f:q∉a)(e:q<b):lX a b q=c5 q:=by
 unfold lX;have c:has a q=false:=by
  cases d:has a q with
  |false=>rfl
  |true=>exact absurd ((oO a q).1 d) f
 have g:j8 q b=true:=hM e;rw[c,g]
 rfl
def apa{g:Gh}{X:List (Ob B.D)}{m:World}(C:bF g (av B X) m)(fr:List Nat)(U:∀i,i∈fr->i<X.length)(L:Nat):
 bF (dj g (lX fr X.length) (λi=>i∈fr)) (av B (b8 X (gU X fr))) m/\
 (∀h o,VR g (av B X) m h o->VR (dj g (lX fr X.length) (λi=>i∈fr)) (av B (b8 X (gU X fr))) m h o)/\
 Bml.GStep L g (av B X) m (dj g (lX fr X.length) (λi=>i∈fr)) (av B (b8 X (gU X fr))) m:=by
 obtain⟨F,Q⟩:=FG (X:=X) (fr:=fr) (Z:=X) rfl λi _=>.inl rfl
 have z:(b8 X (gU X fr)).length=X.length:=qy _ _;have y:∀q a,(av B X)[q]?=c5 a->∃d,(av B (b8 X (gU X fr)))[q]?=c5 d/\((q∈fr/\a.aF<d.aF/\d.es=[]/\d.sz=1)\/(q∉fr/\d=a)):=λq a n=>by
  obtain⟨K,s,rfl⟩:=oU n
  by_cases u:q∈fr
  .refine⟨_,df (F q u K s),.inl ⟨u,?_,rfl,rfl⟩⟩
   rw[e7];exact l1 _
  .exact⟨_,df (by rw[Q q u];exact s),.inr ⟨u,rfl⟩⟩
 have D:∀h o,VR g (av B X) m h o->VR (dj g (lX fr X.length) (λi=>i∈fr)) (av B (b8 X (gU X fr))) m h o:=λh o p=>by
  refine VR.re (f:=λr v=>∃a,(av B X)[r]?=c5 a/\v<=a.aF) (g':=dj g (lX fr X.length) (λi=>i∈fr)) (λb H=>Or.inl H) (λr v a _ n S=>?_) p p.wf
  obtain⟨d,j,t⟩:=y r a n;rcases t with⟨c,G,_⟩ |⟨c,rfl⟩
  .exact⟨d,j,by omega,λl=>by omega⟩
  .refine⟨_,j,S,λl=>⟨l,rfl,rfl,?_⟩⟩
   have e:=c9 n;rw[qL] at e;show(lX fr X.length r).bind g.β=g.β r
   rw[KI c e]
   rfl
 refine⟨?_,D,?_⟩
 .refine bF.re C (λi N q k=>?_) (λq Y i p I=>?_) (λq i p=>?_) λq d j=>?_
  .obtain⟨l,c,_⟩:=u7 k;subst l;exact c N
  .rw[<-(u7 p).1, <-(u7 I).1]
  .rw[qL,z];exact(u7 p).2.2
  .have e:=c9 j;rw[qL,z] at e;have x:(av B X)[q]?=c5 ((av B X)[q]'(by rw[qL];exact e)):=c4 _;obtain⟨W,w,t⟩:=y q _ x;rw[j] at w;injection w with w
   subst w;rcases t with⟨c,_,A,J⟩ |⟨c,rfl⟩
   .refine⟨by rw[J];exact qb,λi l E=>by rw[A] at E;simp at E,λ_=>A,λi k=>?_⟩
    exact absurd c (u7 k).2.1
   .have s:=C.obj q _ x;refine⟨s.pos,s.width,λk=>?_,λi k=>?_⟩
    .rw[KI c e] at k;cases k
    .obtain⟨l,_,_⟩:=u7 k;subst l;exact⟨_,x,rfl,rfl,rfl,λi V h T=>⟨h,T,λO M=>D h O M⟩⟩
 .refine GStep.re λq a _ n=>?_
  obtain⟨d,j,t⟩:=y q a n;have e:=c9 n;rw[qL] at e;rcases t with⟨c,G,_⟩ |⟨c,rfl⟩
  .exact⟨d,j,by omega,λl=>by omega⟩
  .exact⟨_,j,ef _,λ_=>⟨KI c e,rfl,rfl⟩⟩
def SN{h:Nat->Type}{d:Nat}{e:List (Nat×Ob h)}:∀{c:List Nat},Jd d e c=true->∀i,i∈c->d<=i/\i∈eV e
 |[],_,i,a=>by cases a
 |q::c,f,i,a=>by
  obtain⟨g,b⟩:=fu f;obtain⟨b,j⟩:=fu b;rcases dd.1 a with rfl |a
  .exact⟨e4 g,(oO _ _).1 b⟩
  .exact SN j i a
def KW{d:Nat->Type}{f:List (Ob d)}:∀{c:List Nat} {i:Nat} {e:Ob d},(i,e)∈gU f c->i∈c
 |[],_,_,a=>by cases a
 |q::c,i,e,a=>by
  simp only[gU] at a
  split at a
  .rcases dd.1 a with b |a
   .injection b with b _
    simp[b]
   .exact c7 _ (KW a)
  .exact c7 _ (KW a)
def QB{c:Type}:∀{a b:List (Nat×c)},eV (aX a b)=aX (eV a) (eV b)
 |[],_=>rfl
 |p::a,b=>by simp only[aX,eV,QB]
def T1{d:Nat->Type}{c:List (Ob d)}:∀{b:List Nat} {i:Nat},i∈eV (gU c b)->i∈b
 |[],_,a=>by cases a
 |q::b,i,a=>by
  simp only[gU] at a
  split at a
  .simp only[eV,dd] at a;rcases a with e |a
   .simp[e]
   .exact c7 _ (T1 a)
  .exact c7 _ (T1 a)
def Zj(U:cU P B){I:Op}{E:En B.D}{H:List (Ob B.D)}{a J:cr B.D}(f:Fs H a=c5 J)(z:iZ H a)(an:gY P I E H a):iZ H J/\gY P I E H J:=by
 unfold Fs at f;obtain⟨ao,f⟩:=a8 f;obtain⟨T,f⟩:=a8 f;injection f with f
 subst f;have n:=SN ao;refine⟨λi S d=>?_,?_⟩
 .have d:(i,S)∈aX a.wr (gU (behind H a) (refs a.val)):=d;rw[bK,c6] at d;rcases d with d |d
  .exact z i S d
  .have b:=KW d;obtain⟨q,w⟩:=n i b;have F:∃e,(i,e)∈a.wr:=F1 w;obtain⟨e,k⟩:=F;refine⟨(z i e k).1,λaz au=>?_⟩
   have:=H8 au;rw[eu] at q;omega
 .intro ag am ap Z O c K g ak M Y aj ar ah ac;have y:Ag I (aX a.rd (eV a.wr)) E O (aX H (dx a.nw)) c:=⟨K.e,λi b=>K.h i (by
   show i∈aX a.rd (eV (aX a.wr _))
   rw[bK,c6] at b⊢;rcases b with b |b
   .exact .inl b
   .exact .inr (by rw[QB,bK,c6];exact .inl b)),K.le⟩
  refine an ag am ap Z O c y g ak M Y aj ar ah λA L af v ax ae j d aq=>?_
  obtain⟨rfl,rfl⟩:=ae;have o:∀i,i∈refs a.val->nth (behind H a) i=nth (b8 c a.wr) i:=λi b=>by
   unfold behind;refine SE ?_
   have:=y.h i (by rw[bK,c6];exact .inr (n i b).2);exact this.symm
  have V:∀i,i∈refs a.val->i<(b8 c a.wr).length:=λi b=>by
   rw[qy];have q:=y.h i (by rw[bK,c6];exact .inr (n i b).2);obtain⟨e,k⟩:=F1 (n i b).2;have w:=(z i e k).1;have F:i<(aX H (dx a.nw)).length:=by rw[bK,e5,qV];exact w
   have ab:nth (aX H (dx a.nw)) i=c5 ((aX H (dx a.nw))[i]):=by rw[cJ];exact c4 F
   rw[ab] at q;exact H8 q
  obtain⟨al,ay,W⟩:=apa d (refs a.val) V (av B c).length;refine ac A L _ (pv B (G0 (behind H a) a.val)) (av B (b8 (b8 c a.wr) (gU (b8 c a.wr) (refs a.val)))) ⟨rfl,?_⟩ ?_ al (aq.trans W)
  .show av B _=av B (b8 c (aX a.wr (gU (behind H a) (refs a.val))))
   rw[Mu,Rn o]
  .have X:kY (b8 c a.wr) (refs a.val)=[]:=by
    rw[Ki (H:=behind H a) (refs a.val) λi b=>(o i b).symm];cases s:kY (behind H a) (refs a.val) with
    |nil=>rfl
    |cons M u=>rw[s] at T;cases T
   have t:∀i,jN (b8 c a.wr) (refs a.val) i->i∈refs a.val:=λi b=>by
    unfold jN at b
    rwa [X,bK,ft] at b
   have aa:∀m:TV B.D,(∀i,i∈refs m->i∈refs a.val)->kJ (behind H a) [] m=kJ (b8 c a.wr) [] m:=λm x=>H6 m λi b=>o i (t i (b.mono x))
   have ad:∀l:List (TV B.D),(∀i,i∈iB l->i∈refs a.val)->jS (behind H a) [] l=jS (b8 c a.wr) [] l:=λl x=>v8 l λi b=>o i (t i (b.mono x))
   unfold G0
   split
   .rename_i C G;rw[ad C λi b=>by rw[G];exact b];rw[G] at j;have j:VR af (av B (b8 c a.wr)) L (.bu (aP B C)) A:=j;obtain⟨Q,rfl,s,ai⟩:=j.Db;have N:=pH (kept:=[]) (src:=lX (refs a.val) (b8 c a.wr).length) (fz:=λi=>i∈refs a.val) U d C Q (λi b _=>t i (by rw[G];exact b)) s ai;exact .aW (.bu _ Q (by rw[N.1];exact s) N.2)
   .rw[aa a.val λi b=>b];exact .aW (Jt (kept:=[]) (src:=lX (refs a.val) (b8 c a.wr).length) (fz:=λi=>i∈refs a.val) U d a.val A (λi b _=>t i b) j)
where
 F1 {D:Nat->Type}:∀{u:List (Nat×Ob D)} {i:Nat},i∈eV u->∃e,(i,e)∈u
  |[],_,h=>by cases h
  |p::u,i,h=>by
   simp only[eV,dd] at h;rcases h with aw |h
   .exact⟨p.2,by rw[aw];simp⟩
   .obtain⟨e,k⟩:=F1 h;exact⟨e,c7 _ k⟩
def aaq(m:cU P B){e:List (aq B)}(s:∀l,l∈e->Fits P B l){o g:Bool}{h:En B.D}{c:List (Ob B.D)}{j:Op}{f:cr B.D->Option R}(k:zM B P e o g h c j f=c5 r):
 ∃a,f a=c5 r/\iZ c a/\gY P j h c a:=by
 unfold zM at k;obtain⟨a,b,d,i⟩:=aaE m s k;cases g with
 |false=>exact⟨a,b,d,i⟩
 |true=>
  obtain⟨t,q,b⟩:=fq b;obtain⟨p,n⟩:=Zj m q d i;exact⟨t,b,p,n⟩
end
section
variable {P:Program}{B:Tb}{R:Type}{r:R}
def qo{b:Nat->Type}(d:Oper)(a:St b):Option (cr b)->St b
 |some c=>⟨gr a.E d.dst c.val,behind a.H c⟩
 |none=>⟨gr a.E d.dst (.bu []),a.H⟩
def fG{d:Nat->Type}(a:List Oper)(b:Oper):Option (cr d)->Lg
 |some c=>rV a b c
 |none=>xo a b
def tQ{c:Nat->Type}(f:List Oper)(h:Oper)(g:En c)(p:Bool->TV c->Prop):Prop:=∃d b e a,h.guard=c5 (d,b)/\nth f d=c5 e/\e.dst=c5 a/\p b (lk g a)
def Ij(P:Program)(B:Tb)(f:List Oper)(c:Oper)(a:St B.D):Option (cr B.D)->Prop
 |some d=>(c.guard=ea\/tQ f c a.E λe v=>v= .bool e)/\gY P c.op a.E a.H d/\iZ a.H d/\∀i,i∈d.rd->i<a.H.length
 |none=>tQ f c a.E λe v=>v= .bu []\/∃b,v= .bool b/\b≠e
def l6(P:Program)(B:Tb)(c:List Oper):List Oper->St B.D->List (Option (cr B.D))->St B.D->Prop
 |[],a,[],b=>b=a
 |e::g,a,d::f,b=>Ij P B c e a d/\l6 P B c g (qo e a d) f b
 |_,_,_,_=>False
def mF{d:Nat->Type}(a:List Oper):List Oper->List (Option (cr d))->List Lg
 |e::f,c::b=>fG a e c::mF a f b
 |_,_=>[]
def SI{c:Nat}:∀{b:List Nat},Dp c b=true->∀i,i∈b->i<c
 |[],_,i,a=>by cases a
 |g::b,d,i,a=>by
  obtain⟨f,e⟩:=fu d;rcases dd.1 a with rfl |a
  .exact e4 f
  .exact SI e i a
def qg(E:cU P B){q:List (aq B)}(A:∀s,s∈q->Fits P B s){p:List Nat}{c:List Oper}{m:List Lg->St B.D->Option R}:∀{j:List Oper} {i:Nat} {k:List Lg} {a:St B.D},ops B P q p c m i j k a=c5 r->
 ∃h g,l6 P B c j a h g/\m ((mF c j h).reverse++k) g=c5 r
 |[],i,k,a,d=>⟨[],a,rfl,d⟩
 |e::j,i,k,a,d=>by
  simp only[ops] at d;have go:∀(l:e.guard=ea\/tQ c e a.E λn v=>v= .bool n),(zM B P q (has p i) (has p (i+1000)) a.E a.H e.op λf=>bif Dp (len a.H) f.rd then
   bif zL i c then match f.val with
    | .bool s=>cond s (ops B P q p c m (i+1) j (rV c e f::k) ⟨gr a.E e.dst (.bool true),behind a.H f⟩) (ops B P q p c m (i+1) j (rV c e f::k) ⟨gr a.E e.dst (.bool false),behind a.H f⟩)
    |_=>ea
   else ops B P q p c m (i+1) j (rV c e f::k) ⟨gr a.E e.dst f.val,behind a.H f⟩
   else ea)=c5 r->∃h g,l6 P B c (e::j) a h g/\m ((mF c (e::j) h).reverse++k) g=c5 r:=λl d=>by
   obtain⟨f,o,I,K⟩:=aaq E A d;obtain⟨H,o⟩:=a8 o;have J:∀i,i∈f.rd->i<a.H.length:=λi L=>by rw[<-eu];exact SI H i L
   have next:ops B P q p c m (i+1) j (rV c e f::k) ⟨gr a.E e.dst f.val,behind a.H f⟩=c5 r->∃h g,l6 P B c (e::j) a h g/\m ((mF c (e::j) h).reverse++k) g=c5 r:=λd=>by
    obtain⟨h,g,z,w⟩:=qg E A d;refine⟨c5 f::h,g,⟨⟨l,K,I,J⟩,z⟩,?_⟩
    simp only[mF,fG,p7,dv,o8];exact w
   cases G:zL i c with
   |false=>rw[G] at o;exact next o
   |true=>
    rw[G] at o;simp only[cond_true] at o
    split at o
    .rename_i s N;refine next ?_
     rw[N];cases s <;> exact o
    .cases o
  have skip:(tQ c e a.E λn v=>v= .bu []\/∃b,v= .bool b/\b≠n)->ops B P q p c m (i+1) j (xo c e::k) ⟨gr a.E e.dst (.bu []),a.H⟩=c5 r->∃h g,l6 P B c (e::j) a h g/\m ((mF c (e::j) h).reverse++k) g=c5 r:=λl d=>by
   obtain⟨h,g,z,w⟩:=qg E A d;refine⟨ea::h,g,⟨l,z⟩,?_⟩
   simp only[mF,fG,p7,dv,o8];exact w
  split at d
  .rename_i l;exact go (.inl l) d
  .rename_i y n l
   split at d
   .rename_i F C
    split at d
    .rename_i D x
     split at d
     .rename_i b t;cases u:Bool.xor b n with
      |true=>
       rw[u] at d;exact skip ⟨y,n,F,D,l,C,x,.inr ⟨b,t,λM=>by subst M;cases b <;> cases u⟩⟩ d
      |false=>
       rw[u] at d;refine go (.inr ⟨y,n,F,D,l,C,x,?_⟩) d
       rw[t];cases b <;> cases n <;> first |rfl |cases u
     .rename_i t;exact skip ⟨y,n,F,D,l,C,x,.inl t⟩ d
     .cases d
    .cases d
   .cases d
def Mc(b a:List (Ob B.D)):av B (aX b a)=av B b++av B a:=by rw[bK];simp[av]
def ab3{f n:Nat}{g:Gh}{d:Env}{a:List aO}{e:Act}{b:World}(c:Rel g f d a e b):∃i,Rel i f d (a++[⟨0,1,[],0⟩]) e b/\Bml.GStep n g a b i (a++[⟨0,1,[],0⟩]) b:=by
 obtain⟨h,j⟩:=c.m.T6 0 1 qb;exact⟨_,⟨j,c.e.step h⟩,h.every⟩
def G6{i n:Nat}{h:Env}{j:Act}{c:World}:∀(b:Nat) {g:Gh} {a:List aO},Rel g i h a j c->∃k,Rel k i h (a++av B (dx b)) j c/\Bml.GStep n g a c k (a++av B (dx b)) c
 |0,g,a,d=>⟨g,by simpa[dx,av] using d,by simpa[dx,av] using Bml.GStep.refl n g a c⟩
 |b+1,g,a,d=>by
  obtain⟨q,m,o⟩:=ab3 (n:=n) d;obtain⟨l,f,e⟩:=G6 b m;have p:a++[⟨0,1,[],0⟩]++av B (dx b)=a++av B (dx (b+1)):=by simp[dx,av,aY,xt]
  rw[p] at f e;exact⟨l,f,o.trans e⟩
def OT{h n:Nat}{i:Array Oper}{j:List Oper}{a:fE}{c:Env}{d:List (Ob B.D)}(e:Nat)(u:gp P h n i j a c (av B (aX d (dx e)))):gp P h n i j a c (av B d):=by
 intro g l w t s m;obtain⟨p,b,f⟩:=G6 (B:=B) (n:=n) e t;rw[<-Mc] at b f;exact u p l w b s λv o k q=>m v o k (eI.trans f q)
def Sf{d:Op}{c:List Nat}{a:En B.D}{b:List (Ob B.D)}:Ag d c a a b b:=⟨λ_ _=>rfl,λ_ _=>rfl,ef _⟩
def yW{nt n:Nat}{j:List Oper}{Q:fE}:∀{k:List Oper} {S:St B.D} {E:List (Option (cr B.D))} {h:St B.D},l6 P B j k S E h->(∀f,f∈k->fL nt f.dst=true)->Q .normal (aU B h.E) (av B h.H)->
 gp P nt n j.toArray k Q (aU B S.E) (av B S.H)
 |[],S,[],h,a,_,q=>by
  obtain rfl:h=S:=a;exact Of q
 |f::k,S,d::E,h,a,x,q=>by
  obtain⟨A,a⟩:=a;have w:=yW (nt:=nt) (n:=n) a (λf J=>x f (c7 _ J)) q;have o:=x f (by simp);obtain⟨e,D,t,u,s,gd⟩:=f;have z:∀{p:Bool->TV B.D->Prop},tQ j ⟨e,D,t,u,s,gd⟩ S.E p->∃g c d,gd=c5 (g,c)/\(j.toArray[g]?).bind (·.dst)=c5 d/\p c (lk S.E d):=λa=>by
   obtain⟨g,c,T,d,I,y,K,H⟩:=a;refine⟨g,c,d,I,?_,H⟩
   rw[cJ] at y;simp[y,K]
  cases d with
  |none=>
   obtain⟨g,c,d,rfl,m,l⟩:=z (p:=λc v=>v= .bu []\/∃b,v= .bool b/\b≠c) A;rcases l with l |⟨b,G,F⟩
   .refine MO m (by rw[ep,l];rfl) o ?_
    rw[show li (aU B S.E) e (.bu [])=aU B (gr S.E e (.bu [])) by rw[sx];rfl];exact w
   .refine Sk m (by rw[ep,G];rfl) F o ?_
    rw[show li (aU B S.E) e (.bu [])=aU B (gr S.E e (.bu [])) by rw[sx];rfl];exact w
  |some C=>
   obtain⟨i,L,M,N⟩:=A;have run:gp P nt n j.toArray (⟨e,D,t,u,s,ea⟩::k) Q (aU B S.E) (av B S.H):=by
    refine OT C.nw (Sz (L e t u s S.E (aX S.H (dx C.nw)) Sf) o ?_)
    rintro v O ⟨rfl,rfl⟩;rw[<-sx];exact w
   rcases i with i |i
   .obtain rfl:gd=ea:=i;exact run
   .obtain⟨g,c,d,rfl,m,l⟩:=z i;exact S7 m (by rw[ep,l];rfl) run
 |[],_,_::_,_,a,_,_=>a.elim
 |_::_,_,[],_,a,_,_=>a.elim
def alB{b:List (Ob B.D)}{a:cr B.D}:(behind b a).length=b.length+a.nw:=by
 unfold behind;rw[qy,bK,e5,qV]
def Fk{e:Type}:∀{b:List (Nat×e)} {a:List e} {i:Nat},(∀c,(i,c)∉b)->nth (b8 a b) i=nth a i
 |[],_,_,_=>rfl
 |p::b,a,i,d=>by
  rw[b8,Fk λc f=>d c (c7 _ f),cJ,cJ,iL,eH];intro g;exact d p.2 (by subst g;exact j3)
def RD{e:Type}:∀{ch:List (Nat×e)} {b:List e} {i:Nat} {c:e},nth (b8 b ch) i=c5 c->(i,c)∈ch\/nth b i=c5 c
 |[],_,_,_,a=>.inr a
 |p::ch,b,i,c,a=>by
  rcases RD (ch:=ch) a with a |a
  .exact .inl (c7 _ a)
  .rw[cJ,iL] at a
   by_cases f:p.1=i
   .subst f;rcases hI p.1 b.length with d |d
    .rw[ev d] at a;injection a with a
     subst a;exact .inl j3
    .rw[ga (by rw[h6];exact d)] at a;cases a
   .rw[eH f, <-cJ] at a;exact .inr a
def td{e:Nat->Type}(d:En e)(a:Option Nat)(v:TV e)(b:Nat):lk (gr d a v) b=if a=c5 b then v else lk d b:=by
 cases a with
 |none=>simp[gr]
 |some a=>
  simp only[gr,lk]
  by_cases c:a=b
  .subst c;simp[hQ]
  .have:fe a b=false:=by
    cases f:fe a b with
    |false=>rfl
    |true=>exact absurd (beq_eq f) c
   simp[this,c]
def ah1{h:List Nat}{t:List Oper}{c:Oper}{b:St B.D}{a:Option (cr B.D)}(j:Ij P B t c b a)(q:∀l,c.dst=c5 l->l∈h):Ext h b (qo c b a):=by
 have o:∀v a,a∉h->lk (gr b.E c.dst v) a=lk b.E a:=λv a f=>by
  rw[td,if_neg];intro p;exact f (q a p)
 cases a with
 |none=>exact⟨λa f=>o _ a f,ef _,λi m c j e=>by
  have e:nth b.H i=c5 c:=e;rw[j] at e;injection e with e;subst e;exact⟨ef _,λ_=>rfl⟩⟩
 |some g=>
  obtain⟨_,_,s,_⟩:=j;refine⟨λa f=>o _ a f,by show b.H.length<=(behind b.H g).length;rw[alB];omega,λi m c h0 k=>?_⟩
  have k:nth (b8 (aX b.H (dx g.nw)) g.wr) i=c5 c:=k;rcases RD k with d |d
  .have:=(s i c d).2 m h0;exact⟨by omega,λp=>by omega⟩
  .have:=Dy (n:=g.nw) h0;rw[this] at d;injection d with d
   subst d;exact⟨ef _,λ_=>rfl⟩
def Pe{i:List Nat}{k:List Oper}:∀{e:List Oper} {d:St B.D} {h:List (Option (cr B.D))} {c:St B.D},l6 P B k e d h c->(∀b,b∈e->∀f,b.dst=c5 f->f∈i)->Ext i d c
 |[],d,[],c,a,_=>by obtain rfl:c=d:=a;exact .refl _ _
 |b::e,d,l::h,c,a,g=>(ah1 a.1 (g b (by simp))).trans (Pe a.2 λb j=>g b (c7 _ j))
 |[],_,_::_,_,a,_=>a.elim
 |_::_,_,[],_,a,_=>a.elim
end
section
variable {P:Program}{B:Tb}
def gT{b:Nat->Type}:List Oper->List (Option (cr b))->Nat->St b->St b
 |e::f,d::c,i+1,a=>gT f c i (qo e a d)
 |_,_,_,a=>a
def wq{a:Nat->Type}:Option (cr a)->TV a
 |some b=>b.val
 |none=>.bu []
def jM{a:Nat->Type}:Option (cr a)->List (Nat×Ob a)
 |some b=>b.wr
 |none=>[]
def xL{b:Nat->Type}:Option (cr b)->Nat
 |some a=>a.nw
 |none=>0
def jH{b:Nat->Type}:List (Option (cr b))->Nat
 |[]=>0
 |c::a=>xL c+jH a
def gN{b:Nat->Type}(d:Nat->Bool):Nat->List Oper->List (Option (cr b))->En b->En b
 |c,g::h,f::e,a=>gN d (c+1) h e (if d c then gr a g.dst (wq f) else a)
 |_,_,_,a=>a
def eA{b:Nat->Type}(d:Nat->Bool):Nat->List (Option (cr b))->List (Ob b)->List (Ob b)
 |c,f::e,a=>eA d (c+1) e (if d c then b8 a (jM f) else a)
 |_,_,a=>a
def Td{b:Nat->Type}(d:Oper)(c:St b)(a:Option (cr b)):(qo d c a).E=gr c.E d.dst (wq a):=by cases a <;> rfl
def LO{j:List Oper}:∀{b:List Oper} {c:St B.D} {d:List (Option (cr B.D))} {e:St B.D},l6 P B j b c d e->
 d.length=b.length/\gT b d b.length c=e/\∀(i:Nat) (h:Oper),b[i]?=c5 h->∃f,d[i]?=c5 f/\Ij P B j h (gT b d i c) f
 |[],c,[],e,a=>⟨rfl,by have a:e=c:=a;rw[a];rfl,by simp⟩
 |h::b,c,f::d,e,a=>by
  obtain⟨o,m,p⟩:=LO a.2;refine⟨by simp[o],m,λi q g=>?_⟩
  cases i with
  |zero=>
   simp at g;subst g;refine⟨f,rfl,?_⟩
   have:=a.1;simpa[gT] using this
  |succ i=>
   obtain⟨n,k,l⟩:=p i q (by simpa using g);exact⟨n,by simpa using k,l⟩
 |[],_,_::_,_,a=>a.elim
 |_::_,_,[],_,a=>a.elim
def RW{f:Nat->Type}:∀{l:List Oper} {ts:List (Option (cr f))} {i:Nat} {S:St f} {e:Oper} {d:Option (cr f)},l[i]?=c5 e->ts[i]?=c5 d->gT l ts (i+1) S=qo e (gT l ts i S) d
 |g::l,b::ts,0,S,e,d,a,c=>by
  simp at a c;subst a;subst c;cases l <;> cases ts <;> rfl
 |g::l,b::ts,i+1,S,e,d,a,c=>by
  have:=RW (l:=l) (ts:=ts) (i:=i) (S:=qo g S b) (by simpa using a) (by simpa using c);exact this
 |[],_,_,_,_,_,a,_=>by simp at a
 |_::_,[],_,_,_,_,_,c=>by simp at c
def vg{l:Nat->Type}{m n:Nat->Bool}{c:Nat}:∀(i:List Oper) (d:Nat) (j:List (Option (cr l))) (a k:En l),(∀e h,i[e]?=c5 h->h.dst=c5 c->m (d+e)=n (d+e))->lk a c=lk k c->lk (gN m d i j a) c=lk (gN n d i j k) c
 |[],_,_,_,_,_,g=>by simpa[gN] using g
 |_::_,_,[],_,_,_,g=>by simpa[gN] using g
 |h::i,d,v::j,a,k,p,g=>by
  simp only[gN];refine vg i (d+1) j _ _ (λe r q f=>by
   have:=p (e+1) r (by simpa using q) f
   rwa [show d+(e+1)=d+1+e by omega] at this) ?_
  by_cases f:h.dst=c5 c
  .have h0:=p 0 h rfl f;simp only[hS] at h0;rw[h0]
   split
   .rw[td,td,if_pos f,if_pos f]
   .exact g
  .have o:∀(b:Bool) (a:En l),lk (if b=true then gr a h.dst (wq v) else a) c=lk a c:=λb a=>by
    split
    .rw[td,if_neg f]
    .rfl
   rw[o,o,g]
def IR{h:Nat->Type}{g:Nat->Bool}:∀(e:List Oper) (a:Nat) (d:List (Option (cr h))) (b:En h),(∀c,a<=c->g c=false)->gN g a e d b=b
 |[],_,_,_,_=>by simp[gN]
 |_::_,_,[],_,_=>by simp[gN]
 |j::e,a,v::d,b,f=>by
  simp only[gN];rw[f a (ef _)];exact IR e (a+1) d b λc i=>f c (by omega)
def Nt{e:Nat->Type}:∀(i a:Nat) (d:List Oper) (b:List (Option (cr e))) (c:St e),gN (λf=>c3 (f<a+i)) a d b c.E=(gT d b i c).E
 |0,a,d,b,c=>by
  rw[IR d a b c.E λf j=>by simp;omega];cases d <;> cases b <;> rfl
 |i+1,a,[],b,c=>by cases b <;> rfl
 |i+1,a,_::_,[],c=>rfl
 |i+1,a,h::d,g::b,c=>by
  simp only[gN,gT];rw[if_pos (by simp), <-Td];have:=Nt i (a+1) d b (qo h c g);rw[show a+1+i=a+(i+1) by omega] at this;exact this
def xq{d:Nat->Type}{e:Nat->Bool}:∀(a:List (Option (cr d))) (b:Nat) (c:List (Ob d)),(eA e b a c).length=c.length
 |[],_,_=>rfl
 |f::a,b,c=>by
  simp only[eA];rw[xq a (b+1)]
  split
  .exact qy _ _
  .rfl
def O2{c:Type}{b:List (Nat×c)}{i:Nat}{e:c}(a:(i,e)∈b):i∈eV b:=by
 induction b with
 |nil=>cases a
 |cons g b d=>
  rcases dd.1 a with f |a
  .simp[eV, <-f]
  .simp[eV,d a]
def Fu{f:Type}:∀{ch:List (Nat×f)} {a c:List f} {i:Nat},a.length=c.length->nth a i=nth c i->nth (b8 a ch) i=nth (b8 c ch) i
 |[],_,_,_,_,b=>b
 |p::ch,a,c,i,g,b=>by
  refine Fu (ch:=ch) (by rw[iL,iL,h6,h6,g]) ?_
  rw[cJ,cJ] at b;rw[cJ,cJ,iL,iL]
  by_cases e:p.1=i
  .subst e;rcases hI p.1 a.length with d |d
   .rw[ev d,ev (by omega)]
   .rw[ga (by rw[h6];exact d),ga (by rw[h6];omega)]
  .rw[eH e,eH e,b]
def vT{h:Nat->Type}{m n:Nat->Bool}{i:Nat}:∀(f:List (Option (cr h))) (c:Nat) (j l:List (Ob h)),j.length=l.length->(∀d e,f[d]?=c5 e->i∈eV (jM e)->m (c+d)=n (c+d))->nth j i=nth l i->nth (eA m c f j) i=nth (eA n c f l) i
 |[],_,_,_,_,_,g=>g
 |e::f,c,j,l,p,o,g=>by
  simp only[eA];have len:∀(b:Bool) (a:List (Ob h)),(if b=true then b8 a (jM e) else a).length=a.length:=λb a=>by
   split
   .exact qy _ _
   .rfl
  refine vT f (c+1) _ _ (by rw[len,len,p]) (λd r t k=>by
   have:=o (d+1) r (by simpa using t) k
   rwa [show c+(d+1)=c+1+d by omega] at this) ?_
  by_cases k:i∈eV (jM e)
  .have h0:=o 0 e rfl k;simp only[hS] at h0;rw[h0]
   split
   .exact Fu p g
   .exact g
  .have q:∀(b:Bool) (a:List (Ob h)),nth (if b=true then b8 a (jM e) else a) i=nth a i:=λb a=>by
    split
    .exact Fk λu s=>k (O2 s)
    .rfl
   rw[q,q,g]
def vP{g:Nat->Type}{f:Nat->Bool}:∀(d:List (Option (cr g))) (a:Nat) (b:List (Ob g)),(∀c,a<=c->f c=false)->eA f a d b=b
 |[],_,_,_=>rfl
 |i::d,a,b,e=>by
  simp only[eA];rw[e a (ef _)];exact vP d (a+1) b λc h=>e c (by omega)
def PZ{f:Type}:∀{c:List (Nat×f)} {a b:List f},(∀i d,(i,d)∈c->i<a.length)->b8 (aX a b) c=aX (b8 a c) b
 |[],_,_,_=>rfl
 |p::c,a,b,e=>by
  have g:me (aX a b) p.1 p.2=aX (me a p.1 p.2) b:=by
   rw[iL,iL,bK,bK,List.set_append_left _ _ (e p.1 p.2 j3)]
  rw[b8,g,PZ λi d h=>by rw[iL,h6];exact e i d (c7 _ h)]
  rfl
def MM{d:Nat->Type}(a b:Nat):(dx (a+b):List (Ob d))=aX (dx a) (dx b):=by
 induction a with
 |zero=>rw[e6];rfl
 |succ a c=>rw[show a+1+b=(a+b)+1 by omega];simp[dx,aX,c]
def QS{v:List Oper}:∀(i d:Nat) {g:List Oper} {b:St B.D} {a:List (Option (cr B.D))} {j:St B.D} {m:Nat},l6 P B v g b a j->i<=g.length->
 ∃h,eA (λq=>c3 (q<d+i)) d a (aX b.H (dx (m+jH a)))=aX (gT g a i b).H (dx (m+h))/\(∀f,a[i]?=c5 f->xL f<=h)/\(i=g.length->h=0)
 |0,d,[],b,[],j,m,c,_=>⟨0,by simp[eA,jH,gT],by simp,λ_=>rfl⟩
 |0,d,l::g,b,f::a,j,m,c,_=>⟨jH (f::a),by rw[vP _ _ _ λq w=>by simp;omega];rfl,λp k=>by
  simp at k;subst k;simp[jH],λc=>by simp at c⟩
 |i+1,d,l::g,b,f::a,j,m,c,n=>by
  obtain⟨h,s,r,u⟩:=QS i (d+1) (m:=m) c.2 (by simpa using n);refine⟨h,?_,λp k=>r p (by simpa using k),λo=>u (by simpa using o)⟩
  simp only[eA,gT];rw[if_pos (by simp), <-s,show d+1+i=d+(i+1) by omega]
  congr 1
  cases f with
  |none=>simp[jM,b8,qo,jH,xL]
  |some e=>
   have o:(m+jH (c5 e::a))=e.nw+(m+jH a):=by simp[jH,xL];omega
   rw[o,MM];show b8 (aX b.H (aX (dx e.nw) (dx (m+jH a)))) e.wr=aX (behind b.H e) (dx (m+jH a))
   rw[show aX b.H (aX (dx e.nw) (dx (m+jH a)))=aX (aX b.H (dx e.nw)) (dx (m+jH a)) by simp[bK]];rw[PZ λi l t=>by
    have:=(c.1.2.2.1 i l t).1;rw[bK,e5,qV];exact this]
   rfl
 |i+1,d,[],b,a,j,m,c,n=>by simp at n
 |_,_,[],_,_::_,_,_,c,_=>c.elim
 |_,_,_::_,_,[],_,_,c,_=>c.elim
def tD{b c:List Nat}{d:Nat}(a:d∈b)(f:d∈c):meets b c=true:=by
 induction b with
 |nil=>cases a
 |cons h b e=>
  simp only[meets];cases g:has c h with
  |true=>rfl
  |false=>
   rcases dd.1 a with rfl |a
   .exact absurd f (nA g)
   .exact e a
def Ny{f:List Oper}{j:Lg}{k:Nat}:∀{d:List Lg} {c i:Nat} {b:Lg},vK f j k c d=true->d[i]?=c5 b->mm j b=true->before f (len f) (c+i) k=true
 |[],_,_,_,_,a,_=>by simp at a
 |b::d,c,0,m,a,e,g=>by
  simp at e;subst e;simp only[vK] at a;obtain⟨h,_⟩:=fu a;rw[g] at h;exact h
 |b::d,c,i+1,m,a,e,g=>by
  simp only[vK] at a;obtain⟨_,l⟩:=fu a;have:=Ny l (by simpa using e) g;rw[show c+(i+1)=c+1+i by omega];exact this
def Jn{g:List Oper}:∀{f pre:List Lg} {c:Nat},n4 g pre c f=true->pre.length=c->∀i e d b,c<=i->(pre++f)[i]?=c5 e->(pre++f)[d]?=c5 b->d<i->mm e b=true->before g (len g) d i=true
 |[],pre,c,_,j,i,e,d,b,r,a,_,_,_=>by
  have:=c9 a;simp at this;omega
 |m::f,pre,c,k,j,i,e,d,b,r,a,h,o,l=>by
  simp only[n4] at k;obtain⟨p,n⟩:=fu k
  by_cases q:i=c
  .subst q;rw[dk (by omega)] at a;rw[show i -pre.length=0 by omega] at a;simp at a;subst a;rw[dt (by omega)] at h;have:=Ny p h l
   rwa [e6] at this
  .refine Jn (pre:=aX pre [m]) n (by simp[bK,j]) i e d b (by omega) ?_ ?_ o l
   .rw[bK,dv];exact a
   .rw[bK,dv];exact h
def IG{c:Edge}:∀{d:List Edge},c∈d->m1 .any c=true->c.on∈iw d
 |e::d,a,b=>by
  simp only[iw];rcases dd.1 a with rfl |a
  .rw[b];simp
  .cases m1 .any e with
   |true=>simp[IG a b]
   |false=>simpa using IG a b
 |[],a,_=>by cases a
def G3{g:Nat}:∀{f:List Edge},g∈iw f->∃b,b∈f/\m1 .any b=true/\b.on=g
 |h::f,a=>by
  simp only[iw] at a;cases e:m1 .any h with
  |true=>
   rw[e] at a;rcases dd.1 a with rfl |a
   .exact⟨h,by simp,e,rfl⟩
   .obtain⟨b,d,c⟩:=G3 a;exact⟨b,c7 _ d,c⟩
  |false=>
   rw[e] at a;obtain⟨b,d,c⟩:=G3 a;exact⟨b,c7 _ d,c⟩
 |[],a=>by cases a
def JZ{p:Nat->Bool}:∀{c:List Nat},oF p c=true->∃b,b∈c/\p b=true
 |e::c,a=>by
  simp only[oF] at a;cases d:p e with
  |true=>exact⟨e,by simp,d⟩
  |false=>
   rw[d] at a;obtain⟨b,g,f⟩:=JZ a;exact⟨b,c7 _ g,f⟩
 |[],a=>by cases a
def RV{p:Nat->Bool}:∀{e:List Nat},oF p e=false->∀b,b∈e->p b=false
 |f::e,a,b,d=>by
  simp only[oF] at a;cases c:p f with
  |true=>rw[c] at a;cases a
  |false=>
   rw[c] at a;rcases dd.1 d with rfl |d
   .exact c
   .exact RV a b d
def I7{l:List Oper}{c:Nat->Bool}(g:∀i b,l[i]?=c5 b->c i=true->∀d,d∈iw b.after.toList->c d=true):∀{f i e:Nat},before l f i e=true->c e=true->c i=true
 |0,_,_,a,_=>by simp[before] at a
 |f+1,i,e,a,m=>by
  simp only[before] at a
  split at a
  .rename_i b j;rw[cJ] at j;have h:=g e b j m;cases k:has (iw b.after.toList) i with
   |true=>exact h i ((oO _ _).1 k)
   |false=>
    rw[k] at a;obtain⟨d,o,n⟩:=JZ a;exact I7 g n (h d o)
  .cases a
def U6{e:List Oper}{c:Nat->Bool}(k:∀i b,e[i]?=c5 b->c i=true->∀a,a∈iw b.after.toList->c a=true){f i j:Nat}{b:Oper}(l:e[j]?=c5 b)(h:∀a,a∈iw b.after.toList->c a=true)(d:before e f i j=true):c i=true:=by
 cases f with
 |zero=>simp[before] at d
 |succ f=>
  simp only[before,cJ,l] at d;cases g:has (iw b.after.toList) i with
  |true=>exact h i ((oO _ _).1 g)
  |false=>
   rw[g] at d;obtain⟨a,n,m⟩:=JZ d;exact I7 k m (h a n)
def Ns:∀{g:List Oper} {c i:Nat} {f:Oper},m7 c g=true->g[i]?=c5 f->∀b,b∈iw f.after.toList->b<c+i
 |j::g,c,0,f,a,d,b,h=>by
  simp at d;subst d;simp only[m7] at a;cases e:oF (λb=>m5 c b) (iw j.after.toList) with
  |true=>rw[e] at a;cases a
  |false=>
   have:=RV e b h;rw[hS];rcases hI b c with a |a
   .exact a
   .rw[hM a] at this;cases this
 |j::g,c,i+1,f,a,d,b,h=>by
  simp only[m7] at a;cases e:oF (λb=>m5 c b) (iw j.after.toList) with
  |true=>rw[e] at a;cases a
  |false=>
   rw[e] at a;have:=Ns a (by simpa using d) b h;omega
 |[],_,_,_,_,d,_,_=>by simp at d
def vZ{f:Nat->Type}{all:List Oper}:∀{l:List Oper} {ts:List (Option (cr f))} {i:Nat} {e:Oper} {d:Option (cr f)},l[i]?=c5 e->ts[i]?=c5 d->(mF all l ts)[i]?=c5 (fG all e d)
 |g::l,b::ts,0,e,d,a,c=>by simp at a c;subst a;subst c;rfl
 |g::l,b::ts,i+1,e,d,a,c=>by
  have:=vZ (all:=all) (l:=l) (ts:=ts) (i:=i) (by simpa using a) (by simpa using c);simpa[mF] using this
 |[],_,_,_,_,a,_=>by simp at a
 |_::_,[],_,_,_,_,c=>by simp at c
def J8{c:Type}:∀(a b:List c),nf a b=a.reverse++b
 |[],_=>rfl
 |d::a,b=>by simp[nf,J8 a]
end
def countP_set{a i:Nat}{p q:Nat->Bool}(k:i<a)(f:p i=false)(g:q i=true)(c:∀b,b<a->b≠i->p b=q b):(gv a).countP q=(gv a).countP p+1:=by
 induction a with
 |zero=>omega
 |succ a h=>
  rw[List.range_succ,p4,p4]
  by_cases e:i=a
  .subst e;rw[List.countP_congr (l:=gv i) (p:=q) (q:=p) λb d=>by rw[c b (by have:=hL.1 d;omega) (by have:=hL.1 d;omega)]];simp[f,g]
  .rw[h (by omega) λb d j=>c b (by omega) j];have:=c a (by omega) (λc=>e c.symm);simp[List.countP_cons,this];omega
section
variable {P:Program}{B:Tb}
def LB{W nn:Nat}{d:List Oper}{Q:fE}{u an:St B.D}{e:List (Option (cr B.D))}(a2:l6 P B d d u e an)(bX:m7 0 d=true)(bf:n4 d [] 0 (mF d d e)=true)
 (bs:∀j,j∈d->fL W j.dst=true) (b4:Q .normal (aU B an.E) (av B an.H)):∀az aR ag,Rel az W (aU B u.E) (av B u.H) aR ag->∀X:Exit->Act->World->Prop,(∀y ab I,eI W nn az (av B u.H) ag Q y ab I->X y ab I)->wpAny P .any d.toArray X d.toArray.size (hP d.toArray.size false) aR {ag with drawn:=ag.drawn+1}:=by
 intro az aR ag bV X b3;obtain⟨ce,a6,a3⟩:=LO a2
 let n:=d.length
 let H0:=aX u.H (dx (jH e))
 have bd:∀i,i<=n->∃K,eA (λa=>c3 (a<i)) 0 e H0=aX (gT d e i u).H (dx K)/\(∀o,e[i]?=c5 o->xL o<=K)/\(i=n->K=0):=λi J=>by
  obtain⟨K,x,A,aH⟩:=QS i 0 (m:=0) a2 J;rw[e6,e6,e6] at x;exact⟨K,x,A,aH⟩
 have aE:∀i,gN (λa=>c3 (a<i)) 0 d e u.E=(gT d e i u).E:=λi=>by
  have:=Nt i 0 d e u
  rwa [e6] at this
 let Inv:Array Bool->Act->World->Prop:=λbN h w=>bN.size=n/\(∀i j,d[i]?=c5 j->bN.getD i false=true->∀m,m∈iw j.after.toList->bN.getD m false=true)/\
  ∃g,Rel g W (aU B (gN (λa=>bN.getD a false) 0 d e u.E)) (av B (eA (λa=>bN.getD a false) 0 e H0)) h w/\Bml.GStep nn az (av B u.H) ag g (av B (eA (λa=>bN.getD a false) 0 e H0)) w
 have ca:∀{g:Gh} {N:List aO} {h:Act} {w:World} {ba aZ:En B.D},fI g N w W (aU B ba) h->(∀o,lk aZ o=lk ba o)->fI g N w W (aU B aZ) h:=λk y=>⟨k.defers,k.size,λo=>by rw[ep,y o, <-ep];exact k.at_ o⟩
 have bo:∀{a7 aY:List (Ob B.D)},(∀i,nth a7 i=nth aY i)->a7=aY:=λk=>p6 λi=>by rw[<-cJ, <-cJ,k i]
 have fin:∀bN h w,Inv bN h w->(∀i,i<n->bN.getD i false=true)->X .normal h w:=by
  rintro bN h w ⟨U,_,g,V,au⟩ al;have ad:eA (λa=>bN.getD a false) 0 e H0=an.H:=by
   obtain⟨K,x,_,aH⟩:=bd n (ef _);rw[aH rfl] at x;have:eA (λa=>bN.getD a false) 0 e H0=eA (λa=>c3 (a<n)) 0 e H0:=bo λi=>vT e 0 _ _ rfl (λa o p _=>by
    rw[e6];have:=c9 p;rw[al a (by show a<d.length;omega)];simp;show a<d.length
    omega) rfl
   rw[this,x,a6];simp[dx,bK]
  have aP:∀o,lk an.E o=lk (gN (λa=>bN.getD a false) 0 d e u.E) o:=λo=>by
   rw[<-a6, <-aE];refine vg d 0 e _ _ (λa j p _=>?_) rfl
   rw[e6];have:=c9 p;rw[al a this];simpa using this
  rw[ad] at V au;exact b3 .normal h w ⟨_,_,g,b4,⟨V.m,ca V.e aP⟩,au⟩
 have bH:∀bN:Array Bool,bN.size=n->pc .any d.toArray bN=[]->∀i,i<n->bN.getD i false=true:=by
  intro bN U Y i
  induction i using o7 with
  |_ i aa=>
   intro J;cases E:bN.getD i false with
   |true=>rfl
   |false=>
    exfalso
    have F:d[i]?=c5 d[i]:=c4 J;have:i∈pc .any d.toArray bN:=by
     refine r0.2 ⟨hL.2 (by simpa using J),?_⟩
     have bQ:bN.getD i true=false:=by
      have T:i<bN.size:=by omega
      simp[T] at E⊢;exact E
     simp only[bQ,Bool.not_false,Bool.true_and,gy,F,l4,qa];rw[Array.all_eq_true];intro q bY;have aL:d[i].after[q]∈d[i].after:=q2 bY;cases bv:m1 .any d[i].after[q] with
     |false=>rfl
     |true=>
      have aw:=Ns bX F _ (IG (hX.2 aL) bv);rw[e6] at aw;simp[aa _ aw (by omega)]
    rw[Y] at this;cases this
 have step:∀bN h w i j,Inv bN h w->d[i]?=c5 j->bN.getD i false=false->(∀m,m∈iw j.after.toList->bN.getD m false=true)->∀ae:Act->World->Prop,(∀ab I,Inv (bN.setIfInBounds i true) ab I->ae ab I)->wpOp P d.toArray X i ae h w:=by
  rintro bN h w i j ⟨U,aV,g,V,au⟩ F ac bk ae b5;have T:=c9 F;obtain⟨o,af,aI⟩:=a3 i j F;have a5:∀a s l,d[a]?=c5 l->e[a]?=c5 s->a<i->mm (fG d j o) (fG d l s)=true->bN.getD a false=true:=λa s l p O aN C=>by
   have E:=Jn bf rfl i _ a _ (l2 _) (vZ F af) (vZ p O) aN C;exact U6 aV F bk E
  have bj:∀a s l,d[a]?=c5 l->e[a]?=c5 s->i<a->mm (fG d l s) (fG d j o)=true->bN.getD a false=false:=λa s l p O aN C=>by
   have E:=Jn bf rfl a _ i _ (l2 _) (vZ p O) (vZ F af) aN C;cases bJ:bN.getD a false with
   |false=>rfl
   |true=>
    have:=I7 aV E bJ;rw[this] at ac;cases ac
  have aA:∀{h b:Lg},(∃c,c∈h.wr/\c∈b.rd)\/(∃c,c∈h.wr/\c∈b.wr)\/(∃c,c∈b.wr/\c∈h.rd)\/(∃c,c∈h.wt/\c∈b.rt)\/(∃c,c∈h.wt/\c∈b.wt)\/(∃c,c∈b.wt/\c∈h.rt)->mm h b=true:=λ{h b} k=>by
   unfold mm;rcases k with⟨c,x,A⟩ |⟨c,x,A⟩ |⟨c,x,A⟩ |⟨c,x,A⟩ |⟨c,x,A⟩ |⟨c,x,A⟩
   .rw[tD x A];rfl
   .rw[tD x A];cases meets h.wr b.rd <;> rfl
   .rw[tD x A];cases meets h.wr b.rd <;> cases meets h.wr b.wr <;> rfl
   .rw[tD x A];cases meets h.wr b.rd <;> cases meets h.wr b.wr <;> cases meets b.wr h.rd <;> rfl
   .rw[tD x A];cases meets h.wr b.rd <;> cases meets h.wr b.wr <;> cases meets b.wr h.rd <;> cases meets h.wt b.rt <;> rfl
   .rw[tD x A];cases meets h.wr b.rd <;> cases meets h.wr b.wr <;> cases meets b.wr h.rd <;> cases meets h.wt b.rt <;> cases meets h.wt b.wt <;> rfl
  have ah:∀(l:Oper) (s:Option (cr B.D)) (c:Nat),l.dst=c5 c->c∈(fG d l s).wt:=λl s c r=>by
   cases s <;> simp[fG,rV,xo,yI,r]
  have am:∀(l:Oper) (s:Option (cr B.D)) (c:Nat),c∈eV (jM s)->c∈(fG d l s).wr:=λl s c r=>by
   cases s with
   |none=>cases r
   |some D=>exact r
  have a8:∀c,c∈(fG d j o).rt\/c∈(fG d j o).wt->∀a l,d[a]?=c5 l->l.dst=c5 c->bN.getD a false=c3 (a<i):=λc r a l p M=>by
   have a0:=c9 p;obtain⟨s,O,_⟩:=a3 a l p;rcases q3 a i with k |k |k
   .have C:mm (fG d j o) (fG d l s)=true:=aA (by
     rcases r with r |r
     .exact .inr (.inr (.inr (.inr (.inr ⟨c,ah l s c M,r⟩))))
     .exact .inr (.inr (.inr (.inr (.inl ⟨c,r,ah l s c M⟩)))))
    rw[a5 a s l p O k C];simp[k]
   .subst k;rw[ac];simp
   .have C:mm (fG d l s) (fG d j o)=true:=aA (by
     rcases r with r |r
     .exact .inr (.inr (.inr (.inl ⟨c,ah l s c M,r⟩)))
     .exact .inr (.inr (.inr (.inr (.inl ⟨c,ah l s c M,r⟩)))))
    rw[bj a s l p O k C];simp;omega
  have a1:∀c,c∈(fG d j o).rd\/c∈(fG d j o).wr->∀a s,e[a]?=c5 s->c∈eV (jM s)->bN.getD a false=c3 (a<i):=λc r a s O R=>by
   have a0:a<d.length:=by have:=c9 O;omega
   have p:d[a]?=c5 d[a]:=c4 a0;rcases q3 a i with k |k |k
   .have C:mm (fG d j o) (fG d d[a] s)=true:=aA (by
     rcases r with r |r
     .exact .inr (.inr (.inl ⟨c,am _ s c R,r⟩))
     .exact .inr (.inl ⟨c,r,am _ s c R⟩))
    rw[a5 a s _ p O k C];simp[k]
   .subst k;rw[ac];simp
   .have C:mm (fG d d[a] s) (fG d j o)=true:=aA (by
     rcases r with r |r
     .exact .inl ⟨c,am _ s c R,r⟩
     .exact .inr (.inl ⟨c,am _ s c R,r⟩))
    rw[bj a s _ p O k C];simp;omega
  have aF:∀c,c∈(fG d j o).rt\/c∈(fG d j o).wt->lk (gN (λa=>bN.getD a false) 0 d e u.E) c=lk (gT d e i u).E c:=λc r=>by
   rw[<-aE];exact vg d 0 e _ _ (λa l p M=>by rw[e6];exact a8 c r a l p M) rfl
  obtain⟨K,aM,bP,_⟩:=bd i (Nat.le_of_lt T);have bp:∀c,c∈(fG d j o).rd\/c∈(fG d j o).wr->nth (eA (λa=>bN.getD a false) 0 e H0) c=nth (aX (gT d e i u).H (dx K)) c:=λc r=>by
   rw[<-aM];exact vT e 0 _ _ rfl (λa s p R=>by rw[e6];exact a1 c r a s p R) rfl
  have aq:∀a,(bN.setIfInBounds i true).getD a false=if a=i then true else bN.getD a false:=λa=>by
   by_cases y:a=i
   .subst y;have:a<bN.size:=by omega
    simp[this]
   .simp[y,km (Ne.symm y)]
  have bz:∀z ok,d[z]?=c5 ok->(bN.setIfInBounds i true).getD z false=true->∀m,m∈iw ok.after.toList->(bN.setIfInBounds i true).getD m false=true:=λz ok aj x m bb=>by
   rw[aq] at x⊢
   split
   .rfl
   .by_cases y:z=i
    .subst y;rw[F] at aj;injection aj with aj
     subst aj;exact bk m bb
    .rw[if_neg y] at x;exact aV z ok aj x m bb
  have b9:=RW (S:=u) F af;have bB:∀c,lk (gN (λa=>(bN.setIfInBounds i true).getD a false) 0 d e u.E) c=if j.dst=c5 c then wq o else lk (gN (λa=>bN.getD a false) 0 d e u.E) c:=λc=>by
   by_cases M:j.dst=c5 c
   .rw[if_pos M];have:lk (gN (λa=>(bN.setIfInBounds i true).getD a false) 0 d e u.E) c=lk (gN (λa=>c3 (a<i+1)) 0 d e u.E) c:=vg d 0 e _ _ (λa l p aS=>by
     rw[e6,aq]
     by_cases y:a=i
     .rw[if_pos y];simp;omega
     .rw[if_neg y,a8 c (.inr (ah j o c M)) a l p aS]
      by_cases k:a<i
      .simp[k];omega
      .have A:¬a<i+1:=by omega
       simp[k,A]) rfl
    rw[this,aE,b9,Td,td,if_pos M]
   .rw[if_neg M];refine vg d 0 e _ _ (λa l p aS=>?_) rfl
    rw[e6,aq,if_neg];rintro rfl;rw[F] at p;injection p with p
    subst p;exact M aS
  have aL:eA (λa=>(bN.setIfInBounds i true).getD a false) 0 e H0=b8 (eA (λa=>bN.getD a false) 0 e H0) (jM o):=bo λc=>by
   by_cases r:c∈eV (jM o)
   .have bc:c∈(fG d j o).wr:=am j o c r;have ad:nth (eA (λa=>(bN.setIfInBounds i true).getD a false) 0 e H0) c=nth (eA (λa=>c3 (a<i+1)) 0 e H0) c:=vT e 0 _ _ rfl (λa s p R=>by
     rw[e6,aq]
     by_cases y:a=i
     .rw[if_pos y];simp;omega
     .rw[if_neg y,a1 c (.inr bc) a s p R]
      by_cases k:a<i
      .simp[k];omega
      .have A:¬a<i+1:=by omega
       simp[k,A]) rfl
    have aP:nth (eA (λa=>c3 (a<i+1)) 0 e H0) c=nth (b8 (eA (λa=>c3 (a<i)) 0 e H0) (jM o)) c:=by
     have b6:∀(e:List (Option (cr B.D))) (z i:Nat) (N:List (Ob B.D)) (o:Option (cr B.D)),e[i]?=c5 o->eA (λa=>c3 (a<z+i+1)) z e N=b8 (eA (λa=>c3 (a<z+i)) z e N) (jM o):=λe=>by
      induction e with
      |nil=>intro z i N o k;simp at k
      |cons t e aa=>
       intro z i N o k;cases i with
       |zero=>
        simp at k;subst k;simp only[eA];rw[if_pos (by simp),if_neg (by simp),vP e (z+1) _ λa p=>by simp;omega,vP e (z+1) _ λa p=>by simp;omega]
       |succ i=>
        simp only[eA];rw[if_pos (by simp;omega),if_pos (by simp)];have:=aa (z+1) i (b8 N (jM t)) o (by simpa using k);rw[show z+1+i+1=z+(i+1)+1 by omega,show z+1+i=z+(i+1) by omega] at this;exact this
     have:=b6 e 0 i H0 o af;rw[e6] at this;rw[this]
    rw[ad,aP];exact Fu (by rw[xq,xq]) (by rw[bp c (.inr bc),aM])
   .rw[Fk λj aG=>r (O2 aG)];refine vT e 0 _ _ rfl (λa s p R=>?_) rfl
    rw[e6,aq,if_neg];rintro rfl;rw[af] at p;injection p with p
    subst p;exact r R
  have bU:fL W j.dst=true:=bs j (ej F);have done:∀(Z:Gh) (c:Value) (I:World),bF Z (av B (b8 (eA (λa=>bN.getD a false) 0 e H0) (jM o))) I->VR Z (av B (b8 (eA (λa=>bN.getD a false) 0 e H0) (jM o))) I (pv B (wq o)) c->
   Bml.GStep (av B (eA (λa=>bN.getD a false) 0 e H0)).length g (av B (eA (λa=>bN.getD a false) 0 e H0)) w Z (av B (b8 (eA (λa=>bN.getD a false) 0 e H0) (jM o))) I->ae (h.put j.dst c) I:=λZ c I ax aK ar=>by
   have Y:=(V.e.step ar).tn bU aK;rw[<-aL] at ax ar Y;refine b5 _ _ ⟨by simpa using U,bz,Z,⟨ax,⟨Y.defers,Y.size,λc=>?_⟩⟩,au.trans ar.every⟩
   rw[ep,bB c];have:=Y.at_ c;rw[<-sx,ep,td] at this;exact this
  have bT:∀D,o=c5 D->j.wp P h w ae X:=λD br=>by
   subst br;obtain⟨_,bM,bE,bW⟩:=aI;have b0:Ag j.op (aX D.rd (eV D.wr)) (gT d e i u).E (gN (λa=>bN.getD a false) 0 d e u.E) (aX (gT d e i u).H (dx D.nw)) (eA (λa=>bN.getD a false) 0 e H0):=by
    have cb:D.nw<=K:=bP _ af;refine⟨λc r=>?_,λc r=>?_,?_⟩
    .cases c with
     |tmp t=>
      refine aF t (.inl ?_)
      show t∈aX (sZ d j) (tmpsOf j.op.operands.toList)
      rw[bK,c6];exact .inr (LD (hX.2 r))
     |const v=>rfl
     |global b=>rfl
     |func f=>rfl
    .rw[bK,c6] at r;have aw:c<(gT d e i u).H.length+D.nw:=by
      rcases r with r |r
      .have:=bW c r;omega
      .obtain⟨bO,bL⟩:=Vc r;exact(bE c bO bL).1
     rw[bp c r,show K=D.nw+(K -D.nw) by omega,MM,show aX (gT d e i u).H (aX (dx D.nw) (dx (K -D.nw)))=aX (aX (gT d e i u).H (dx D.nw)) (dx (K -D.nw)) by simp[bK]];rw[cJ,cJ,bK,dt];rw[bK,e5,qV];exact aw
    .have ad:=congrArg List.length aM;rw[xq,bK,e5,qV] at ad;rw[xq,bK,e5,qV,ad];omega
   have bS:=bM j.dst j.type j.pos j.after _ _ b0;refine bS g W h w V ae X ?_
   rintro c I Z cd cc ⟨rfl,rfl⟩ aK ax ar;exact done Z c I ax aK ar
  have bm:∀a G l t,j.guard=c5 (a,G)->nth d a=c5 l->l.dst=c5 t->t∈(fG d j o).rt:=λa G l t H p L=>by
   have:t∈sZ d j:=by simp[sZ,H,p,yI,L]
   cases o with
   |none=>exact this
   |some D=>
    show t∈aX (sZ d j) _
    rw[bK,c6];exact .inl this
  have bR:∀(g:Gh) (N:List aO) (w:World),VR g N w (.bu []) undef:=λg N w=>.aW (.bu [] [] rfl (by simp))
  have bn:∀a G l t b,j.guard=c5 (a,G)->nth d a=c5 l->l.dst=c5 t->lk (gT d e i u).E t= .bool b->yielded d.toArray h.tmps a=c5 b:=λa G l t b H p L E=>by
   have ao:=V.e.at_ t;rw[ep,aF t (.inl (bm a G l t H p L)),E] at ao;have aD:=ao.n5;unfold yielded;rw[gy, <-cJ,p];simp only[my,L];rcases hI t h.tmps.size with ap |aT
   .simp[ap] at aD;simp[ap,aD]
   .simp[j4 aT,undef] at aD
  have b2:∀a G l t,j.guard=c5 (a,G)->nth d a=c5 l->l.dst=c5 t->lk (gT d e i u).E t= .bu []->yielded d.toArray h.tmps a=ea:=λa G l t H p L E=>by
   have ao:=V.e.at_ t;rw[ep,aF t (.inl (bm a G l t H p L)),E] at ao;obtain⟨ak,bl,bq,_⟩:=VR.Db ao;have bC:ak=[]:=dT (by rw[<-bq];rfl);subst bC;unfold yielded;rw[gy, <-cJ,p];simp only[my,L];rcases hI t h.tmps.size with ap |aT
   .simp[ap] at bl;simp[ap,bl]
   .simp[j4 aT]
  have bt:Bml.GStep (av B (eA (λa=>bN.getD a false) 0 e H0)).length g (av B (eA (λa=>bN.getD a false) 0 e H0)) w g (av B (eA (λa=>bN.getD a false) 0 e H0)) w:=Bml.GStep.refl _ _ _ _;unfold wpOp;rw[gy,F];simp only;cases o with
  |some D=>
   have aQ:k7 j (yielded d.toArray h.tmps)=true:=by
    rcases aI.1 with H |⟨a,G,l,t,H,p,L,E⟩
    .simp[k7,H]
    .simp[k7,H,bn a G l t G H p L E]
   rw[aQ];exact .inl (bT D rfl)
  |none=>
   obtain⟨a,G,l,t,H,p,L,C⟩:=aI;have aQ:k7 j (yielded d.toArray h.tmps)=false:=by
    rcases C with C |⟨b,E,aB⟩
    .simp[k7,H,b2 a G l t H p L C]
    .simp[k7,H,bn a G l t b H p L E,aB]
   rw[aQ];simp only[Bool.false_eq_true,if_false];exact done g undef w V.m (bR _ _ _) bt
 have bD:∀(ai:Nat) (bN:Array Bool) (h:Act) (w:World),Inv bN h w->(gv n).countP (λa=>bN.getD a false)+ai=n->wpAny P .any d.toArray X ai bN h w:=by
  intro ai
  induction ai with
  |zero=>
   intro bN h w J C;have al:∀i,i<n->bN.getD i false=true:=λi T=>by
    have bx:(gv n).countP (λa=>bN.getD a false)=(gv n).length:=by rw[List.length_range];omega
    exact List.countP_eq_length.1 bx i (hL.2 T)
   refine⟨?_,fin bN h w J al⟩
   unfold pc;refine List.filter_eq_nil_iff.2 λi aC=>?_
   have T:i<n:=by simpa using aC
   have bh:=al i T;have:bN.getD i true=true:=by
    have U:i<bN.size:=by have:=J.1;omega
    simp[U] at bh⊢;exact bh
   simp[this]
  |succ ai aa=>
   intro bN h w J C;refine⟨λY=>fin bN h w J (bH bN J.1 Y),λi bI=>?_⟩
   have a4:=r0.1 bI;have T:i<n:=by simpa using a4.1
   have F:d[i]?=c5 d[i]:=c4 T;have aJ:=a4.2;simp only[gy,F,l4,qa,j2,Bool.not_eq_true'] at aJ;have ac:bN.getD i false=false:=by
    have x:=aJ.1;have U:i<bN.size:=by have:=J.1;omega
    simp[U] at x⊢;exact x
   refine step bN h w i d[i] J F ac (λm b1=>?_) _ (λab I aC=>aa _ ab I aC ?_)
   .obtain⟨y,bZ,E,rfl⟩:=G3 b1;have A:=Array.all_eq_true'.1 aJ.2 y (hX.1 bZ);simpa[E] using A
   .have:(gv n).countP (λa=>(bN.setIfInBounds i true).getD a false)=(gv n).countP (λa=>bN.getD a false)+1:=by
     refine countP_set T ac ?_ λa p aB=>?_
     .have U:i<bN.size:=by have:=J.1;omega
      simp[U]
     .simp[km (Ne.symm aB)]
    omega
 obtain⟨b7,x,bi⟩:=G6 (B:=B) (n:=nn) (jH e) bV;rw[<-Mc] at x bi;obtain⟨a9,bA⟩:=Ez (m:=(av B (aX u.H (dx (jH e)))).length) x.m;have ay:∀a,(hP d.toArray.size false).getD a false=false:=λa=>by
  rcases hI a d.length with k |k
  .simp[k]
  .simp[j4,k]
 have bw:gN (λa=>(hP d.toArray.size false).getD a false) 0 d e u.E=u.E:=IR _ _ _ _ λa _=>ay a
 have be:eA (λa=>(hP d.toArray.size false).getD a false) 0 e H0=H0:=vP _ _ _ λa _=>ay a
 refine bD _ _ _ _ ⟨by simp[n],λi j J k=>?_,b7,?_,?_⟩ ?_
 .rw[ay] at k;cases k
 .rw[bw,be];exact⟨bA,x.e.step a9⟩
 .rw[be];exact bi.trans a9.every
 .have:(gv n).countP (λa=>(hP d.toArray.size false).getD a false)=0:=by
   rw[List.countP_eq_zero];intro a _;rw[ay];simp
  rw[this];simp[n]
where
 LD {t:Nat}:∀{ak:List Operand},Operand.tmp t∈ak->t∈tmpsOf ak
  |c::ak,k=>by
   rcases dd.1 k with rfl |k
   .simp[tmpsOf]
   .have:=LD k;cases c <;> simp[tmpsOf,this]
  |[],k=>by cases k
 Vc {α:Type} {d:List (Nat×α)} {i:Nat} (k:i∈eV d):∃j,(i,j)∈d:=by
  induction d with
  |nil=>cases k
  |cons h d aa=>
   rcases dd.1 k with rfl |k
   .exact⟨h.2,by simp⟩
   .obtain⟨j,aG⟩:=aa k;exact⟨j,c7 _ aG⟩
def abH{e nn id:Nat}{a:List Oper}{Q:fE}{c b:St B.D}{d:List (Option (cr B.D))}(h:P.follows .mixedOrders=true)(o:l6 P B a a c d b)(q:m7 0 a=true)(g:n4 a [] 0 (mF a a d)=true)
 (j:∀f,f∈a->fL e f.dst=true) (l:Q .normal (aU B b.E) (av B b.H)):eT P e nn (.region id a.toArray true) Q (aU B c.E) (av B c.H):=λn i p k m r=>wp_region_any h (LB o q g j l n i p k m r)
end
end Go.X
namespace Go.Bml
open Go
def LW(P:Program)(c:Code)(Q:Exit->Act->World->Prop)(a:Act)(w:World):Prop:=
 ∀b f g,∃h e d,Q h e d/\Arrives P (lone (b.at a (.code c:: .inLoop c::f)) g w) b f g h e d
section
variable {P:Program}{Q:Exit->Act->World->Prop}{a:Act}{w:World}{c:Code}
def UU(f:LW P c Q a w):(Code.loop c).wp P Q a w:=by
 intro b h i;obtain⟨j,g,e,d,k⟩:=f b h i;exact⟨j,g,e,d,.of_steps (.one step_loop) k⟩
def NU(l:c.wp P (Exit.then (LW P c Q) Q) a w):LW P c Q a w:=by
 intro b h i;obtain⟨q,g,f,d,e⟩:=l b (.inLoop c::h) i;cases q with
 |normal=>
  obtain⟨k,m,o,j,p⟩:=d b h i;exact⟨k,m,o,j,.of_steps (Steps.trans e (.one step_inLoop)) p⟩
 |exit r=>exact⟨_,g,f,d,.pass (x:=.inLoop c) rfl (λ_ _=>.inl (by simp)) e⟩
 |goto t=>exact⟨_,g,f,d,.pass (x:=.inLoop c) rfl (λ_ _=>.inl (by simp)) e⟩
 |ret=>exact⟨_,g,f,d,.pass (x:=.inLoop c) rfl (λ_ _=>.inl (by simp)) e⟩
 |panic s=>exact⟨_,g,f,d,.pass (x:=.inLoop c) rfl (λ_ _=>.inl (by simp)) e⟩
 |outgrown=>exact⟨_,g,f,d,.pass (x:=.inLoop c) rfl (λ_ _=>.inl (by simp)) e⟩
def ad3(g:Nat->Act->World->Prop)(round:∀n a w,g n a w->c.wp P (Exit.then (λf e=>∃d,d<n/\g d f e) Q) a w):∀n a w,g n a w->LW P c Q a w:=by
 intro n
 induction n using o7 with
 |_ n i=>
  intro a w h;refine NU (Code.wp_mono (λl f e b=>?_) (round n a w h))
  cases l with
  |normal=>
   obtain⟨d,k,j⟩:=b;exact i d k f e j
  |exit m=>exact b
  |goto p=>exact b
  |ret=>exact b
  |panic o=>exact b
  |outgrown=>exact b
end
section
variable {P:Program}{nt n:Nat}{Q:fE}{E:Env}{H:List aO}
def oE(P:Program)(nt n:Nat)(c:Code)(Q:fE)(E:Env)(H:List aO):Prop:=
 ∀g a w,Rel g nt E H a w->∀e:Exit->Act->World->Prop,(∀b f d,eI nt n g H w Q b f d->e b f d)->LW P c e a w
def Pz{c:Code}(b:oE P nt n c Q E H):eT P nt n (.loop c) Q E H:=λg a w f e d=>UU (b g a w f e d)
def oE.mono{c:Code}{d:fE}(h:oE P nt n c Q E H)(k:∀e E H,Q e E H->d e E H):oE P nt n c d E H:=λg a w s m t=>h g a w s m λe o l j=>t e o l (by cases e <;> first |exact iX.mono (k _) j |exact j)
def aiK{c:Code}(s:eT P nt n c (Ce (oE P nt n c Q) Q) E H):oE P nt n c Q E H:=by
 intro g a w o m d;refine NU (s g a w o _ ?_)
 intro e f q b;cases e with
 |normal=>
  obtain⟨t,v,l,i,j,r⟩:=b;exact i l f q j m λe k h p=>d e k h (eI.trans r p)
 |exit u=>exact d _ _ _ b
 |goto x=>exact d _ _ _ b
 |ret=>exact d _ _ _ b
 |panic c=>exact b.elim
 |outgrown=>exact b.elim
def QG{α:Type}{c:Code}(j:α->qk)(f:α->Nat)(k:α)(h0:j k E H)
 (round:∀b E H,j b E H->eT P nt n c (Ce (λo q=>∃h,f h<f b/\j h o q) Q) E H):oE P nt n c Q E H:=by
 intro g a w C J m;refine ad3 (λr p l=>∃b,f b=r/\iX nt n g H w (j b) p l) ?_ (f k) a w ⟨k,rfl,E,H,g,h0,C,GStep.refl _ _ _ _⟩
 rintro r p l ⟨b,rfl,o,q,v,z,x,i⟩;refine round b o q z v p l x _ ?_
 intro e I K d;cases e with
 |normal=>
  obtain⟨s,D,A,⟨h,B,u⟩,t,F⟩:=d;exact⟨f h,B,h,rfl,s,D,A,u,t,i.trans F⟩
 |exit y=>exact m _ _ _ (eI.trans (Q:=Q) (e:=.exit y) i d)
 |goto G=>exact m _ _ _ (eI.trans (Q:=Q) (e:=.goto G) i d)
 |ret=>exact m _ _ _ (eI.trans (Q:=Q) (e:=.ret) i d)
 |panic c=>exact d.elim
 |outgrown=>exact d.elim
end
end Go.Bml
namespace Go.X
open Go Go.Aml Go.Bml
def Tl{P:Program}{c d:Nat}{s:Code}{l m:fE}{r:Env}{k:List aO}(n:eT P c d s l r k)
 (w:∀a p o g f b,l a p o->Rel g c p o f b->∃j H2 h,m a j H2/\Rel h c j H2 f b/\Bml.GStep d g o b h H2 b):eT P c d s m r k:=by
 intro g f b D C v;refine n g f b D C λa i e q=>v a i e ?_
 have z:∀a,iX c d g k b (l a) i e->iX c d g k b (m a) i e:=λa n=>by
  obtain⟨G,H1,A,y,u,E⟩:=n;obtain⟨j,H2,h,t,F,x⟩:=w a G H1 A i e y u;exact⟨j,H2,h,t,F,E.trans x⟩
 cases a <;> first |exact z _ q |exact q
def Tc{f j:Nat->Nat->Prop}(e:∀r v,f r v->j r v){k:PV}(l:Wf f k):Wf j k:=by
 induction l with
 |any=>exact .any
 |bool b=>exact .bool b
 |int q n=>exact .int q n
 |str o=>exact .str o
 |fS=>exact .fS
 |bg=>exact .bg
 |z0=>exact .z0
 |dB=>exact .dB
 |dw a h=>exact .dw a h
 |vs m s=>exact .vs m s
 |ptr r v i h d=>exact .ptr r v i h (e _ _ d)
 |sl r v p len d=>exact .sl r v p len (e _ _ d)
 |fl r v d=>exact .fl r v (e _ _ d)
 |agg a _ c=>exact .agg a c
 |bu a _ c=>exact .bu a c
 |fn g a u _ _ c t=>exact .fn g a u c t
section
variable {P:Program}{B:Tb}
def Q8{s:Nat}{g:Gh}{c:St B.D}{l:Act}{x:World}(k:Rel g s (aU B c.E) (av B c.H) l x):Cz B c:=by
 have conv:∀r v,(∃d,(av B c.H)[r]?=c5 d/\v<=d.aF)->F0 c.H r v:=λr v ⟨d,e,f⟩=>by
  obtain⟨o,a,rfl⟩:=oU e;exact⟨o,a,by rwa [e7] at f⟩
 refine⟨λu=>?_,λq d i m w e h=>?_⟩
 .have:=(k.e.at_ u).wf;rw[ep] at this;exact Tc conv this
 .have a:=(k.m.obj q _ (df e)).mem;cases j:g.β q with
  |none=>
   rw[j] at a;rw[a] at h;obtain⟨A,t,_⟩:=gw h;simp at t
  |some p=>
   obtain⟨b,y⟩:=p;rw[j] at a;obtain⟨_,cells,_,_,_,_,n⟩:=a;obtain⟨z,_,_,f⟩:=n i m w h;exact Tc conv f.wf
def DH(z:cU P B){l:Type}{r:l}{m i:Nat}{a d:St B.D}{c:List Nat}{p:lD}{k:bi B.D p.bX->Option l}(w:Ext c a d)(x:i<=a.H.length)(q:Cz B a)(y:nW B i a c p d k=c5 r){g:Gh}{j:Act}{h:World}(f:Rel g m (aU B d.E) (av B d.H) j h):
 ∃b,k b=c5 r/\Ext c a (ik B a c p b)/\∃e,Rel e m (aU B (ik B a c p b).E) (av B (ik B a c p b).H) j h/\Bml.GStep i g (av B d.H) h e (av B (ik B a c p b).H) h:=by
 obtain⟨b,t,o,e,v,s,u⟩:=UJ z w x q y f.m;exact⟨b,t,o,e,⟨v,f.e.defers,f.e.size,λn=>by
  rw[ep];refine u n _ ?_
  have:=f.e.at_ n
  rwa [ep] at this⟩,s⟩
def Ends{g:Type}(B:Tb)(d:Nat->St B.D->Option g)(r:g)(e:St B.D)(f:List Nat):fE
 | .normal=>λb c=>∃a,Ext f e a/\d 0 a=c5 r/\b=aU B a.E/\c=av B a.H
 | .ret=>λb c=>∃a,Ext f e a/\d 1 a=c5 r/\b=aU B a.E/\c=av B a.H
 | .exit h=>λb c=>∃a,Ext f e a/\d (h+2) a=c5 r/\b=aU B a.E/\c=av B a.H
 |_=>λ_ _=>False
def Aa(y:cU P B){A:Type}{r:A}{D u:Nat}{d f:St B.D}{n:List Nat}(w:Ext n d f)(x:u<=d.H.length)(s:Cz B d){g:Gh}{z:Act}{o:World}(v:Rel g D (aU B f.E) (av B f.H) z o):
 ∀{os:List (Nat×lD)} {e:Nat} {k:qM B os->Option A},inj B u d n os e f k=c5 r->
  ∃m b,k m=c5 r/\Ext n d b/\(∀{H:Type} (c:Nat->St B.D->Option H),out B d n os m c=c e b)/\∃C,Rel C D (aU B b.E) (av B b.H) z o/\Bml.GStep u g (av B f.H) o C (av B b.H) o
 |[],e,k,a=>by simp[inj] at a
 |[p],e,k,a=>by
  simp only[inj] at a;obtain⟨l,E⟩:=a8 a;clear a;obtain rfl:=beq_eq l;obtain⟨t,i,h,j⟩:=DH y w x s E v;exact⟨t,_,i,h,λc=>rfl,j⟩
 |p::q::I,e,k,a=>by
  simp only[inj] at a;cases l:fe p.1 e with
  |true=>
   rw[l] at a;obtain rfl:=beq_eq l;obtain⟨t,i,h,j⟩:=DH y w x s a v;exact⟨.inl t,_,i,h,λc=>rfl,j⟩
  |false=>
   rw[l] at a;obtain⟨m,b,i,h,j,F⟩:=Aa y w x s v (os:=q::I) (k:=λG=>k (.inr G)) a;exact⟨.inr m,b,i,h,λc=>j c,F⟩
def Bv(W:cU P B){A:Type}{r:A}{w q:Nat}{f:Code}{V:Hn}{b:St B.D}{s:Nat->St B.D->Option A}{D:{t:Type}->(Nat->St B.D->Option t)->Option t}(T:q<=b.H.length)(u:join B q b f V s D=c5 r)
 (E:∀{t:Type} (G:Nat->St B.D->Option t) (y:t),D G=c5 y->eT P w q f (Ends B G y b (cQ f [])) (aU B b.E) (av B b.H)):eT P w q f (Ends B s r b (cQ f [])) (aU B b.E) (av B b.H):=by
 unfold join at u
 split at u
 .exact E s r u
 .rename_i p Y Z;obtain⟨z,M,H⟩:=ei.1 u;intro L U S C;have J:=Q8 C;refine Tl (E _ z M) ?_ L U S C
  intro X K F g I x o Q;have fin:∀v c,Ext (cQ f []) b c->inj B q b (cQ f []) (p::Y) v c c5=c5 z->K=aU B c.E->F=av B c.H->∃a e,(Ext (cQ f []) b a/\s v a=c5 r)/\Rel e w (aU B a.E) (av B a.H) I x/\Bml.GStep q g F x e (av B a.H) x:=λv c l k i j=>by
   subst i;subst j;obtain⟨aa,a,d,m,h,O,n,N⟩:=Aa W l T J Q k;injection d with d
   subst d;exact⟨a,O,⟨m,by rw[<-h s];exact H⟩,n,N⟩
  cases X with
  |normal=>
   obtain⟨c,l,k,i,j⟩:=o;obtain⟨a,e,⟨d,m⟩,h,n⟩:=fin 0 c l k i j;exact⟨_,_,e,⟨a,d,m,rfl,rfl⟩,h,n⟩
  |ret=>
   obtain⟨c,l,k,i,j⟩:=o;obtain⟨a,e,⟨d,m⟩,h,n⟩:=fin 1 c l k i j;exact⟨_,_,e,⟨a,d,m,rfl,rfl⟩,h,n⟩
  |exit R=>
   obtain⟨c,l,k,i,j⟩:=o;obtain⟨a,e,⟨d,m⟩,h,n⟩:=fin (R+2) c l k i j;exact⟨_,_,e,⟨a,d,m,rfl,rfl⟩,h,n⟩
  |goto _=>exact o.elim
  |panic _=>exact o.elim
  |outgrown=>exact o.elim
def Ends.mono{A w:Type}{s:Nat->St B.D->Option A}{D:Nat->St B.D->Option w}{r:A}{u:w}{y x:St B.D}{C n:List Nat}(o:Ext n x y)(l:∀t,t∈C->t∈n){e:Exit}{E:Env}{H:List aO}(m:∀e a,s e a=c5 r->D e a=c5 u)(h:Ends B s r y C e E H):Ends B D u x n e E H:=by
 cases e with
 |normal=>obtain⟨a,c,d,j,k⟩:=h;exact⟨a,o.trans (c.more l),m _ _ d,j,k⟩
 |ret=>obtain⟨a,c,d,j,k⟩:=h;exact⟨a,o.trans (c.more l),m _ _ d,j,k⟩
 |exit F=>obtain⟨a,c,d,j,k⟩:=h;exact⟨a,o.trans (c.more l),m _ _ d,j,k⟩
 |goto _=>exact h.elim
 |panic _=>exact h.elim
 |outgrown=>exact h.elim
def Bh{i:Nat}:∀(g:List Oper) (e:List Nat),i∈tI g e↔(∃f,f∈g/\f.dst=c5 i)\/i∈e
 |[],e=>by simp[tI]
 |f::g,e=>by
  simp only[tI];cases h:f.dst with
  |none=>
   simp only[Bh g e,dd]
   constructor
   .rintro(⟨d,c,a⟩ |b)
    .exact .inl ⟨d,.inr c,a⟩
    .exact .inr b
   .rintro(⟨d,rfl |c,a⟩ |b)
    .rw[h] at a;cases a
    .exact .inl ⟨d,c,a⟩
    .exact .inr b
  |some j=>
   simp only[dd,Bh g e]
   constructor
   .rintro(rfl |⟨d,c,a⟩ |b)
    .exact .inl ⟨f,.inl rfl,h⟩
    .exact .inl ⟨d,.inr c,a⟩
    .exact .inr b
   .rintro(⟨d,rfl |c,a⟩ |b)
    .rw[h] at a;injection a with a;exact .inl a.symm
    .exact .inr (.inl ⟨d,c,a⟩)
    .exact .inr (.inr b)
def lV{d:Nat}:∀(e:Code) (a:List Nat),d∈cQ e a↔d∈cQ e []\/d∈a
 | .region _ f _,a=>by simp[cQ,Bh]
 | .seq c b,a=>by
  simp only[cQ];rw[lV c (cQ b a),lV b a,lV c (cQ b [])];simp only[or_assoc]
 | .cond _ c b,a=>by
  simp only[cQ];rw[lV c (cQ b a),lV b a,lV c (cQ b [])];simp only[or_assoc]
 | .block _ c,a=>lV c a
 | .loop c,a=>lV c a
 | .skip,a=>by simp[cQ]
 | .rangeFunc ..,a=>by simp[cQ]
 | .exit _,a=>by simp[cQ]
 | .scope _,a=>by simp[cQ]
 | .label _,a=>by simp[cQ]
 | .goto _,a=>by simp[cQ]
 | .ret,a=>by simp[cQ]
 | .refuse _,a=>by simp[cQ]
def PR{d:Nat}:∀{c:List Oper},Ej d c=true->∀b,b∈c->fL d b.dst=true
 |h::c,e,b,a=>by
  obtain⟨g,f⟩:=fu e;rcases dd.1 a with rfl |a
  .exact g
  .exact PR f b a
 |[],_,b,a=>by cases a
def gO(J:P.follows .mixedOrders=true)(o:cU P B){S:Lp}{W:List (aq B)}(H:∀z,z∈W->Fits P B z){F n:Nat}{C:List (Nat×Hn)}:
 ∀(z:Code) (p:Nat) {R:Type} (m:Nat->St B.D->Option R) (a:St B.D) (r:R),exec S B P W n C z p m a=c5 r->gB F z=true->n<=a.H.length->eT P F n z (Ends B m r a (cQ z [])) (aU B a.E) (av B a.H)
 | .skip,p,R,m,a,r,c,_,_=>amF ⟨a,.refl _ _,c,rfl,rfl⟩
 | .ret,p,R,m,a,r,c,_,_=>apz ⟨a,.refl _ _,c,rfl,rfl⟩
 | .exit id,p,R,m,a,r,c,_,_=>V4 ⟨a,.refl _ _,c,rfl,rfl⟩
 | .label a3,p,R,m,a,r,c,_,_=>agH ⟨a,.refl _ _,c,rfl,rfl⟩
 | .region id X aA,p,R,m,a,r,c,u,k=>by
  refine Bv o k c λ{ax} t x D=>?_
  obtain⟨aZ,i,ak,j⟩:=qg o H D;have ay:=PR (show Ej F X.toList=true from u);have l:Ext (cQ (.region id X aA) []) a i:=Pe ak λw aF a0 u=>(Bh X.toList []).2 (.inl ⟨w,aF,u⟩)
  rw[ft] at j;cases aA with
  |true=>
   obtain⟨ar,j⟩:=a8 j;obtain⟨ag,j⟩:=a8 j;rw[J8,ft,List.reverse_reverse] at ag;have:=abH (nn:=n) (id:=id) (Q:=Ends B t x a (cQ (.region id X true) [])) J ak ar ag ay ⟨i,l,j,rfl,rfl⟩
   rwa [hU] at this
  |false=>
   have:=Lc (id:=id) (yW (n:=n) (Q:=Ends B t x a (cQ (.region id X false) [])) ak ay ⟨i,l,j,rfl,rfl⟩)
   rwa [hU] at this
 | .seq d b,p,R,m,a,r,c,u,k=>by
  refine Bv o k c λ{ax} t x D=>?_
  obtain⟨aw,al⟩:=fu (show(bif gB F d then gB F b else false)=true from u);have M:=gO J o H d (2*p) _ a x D aw k;refine rN (M.mono λh A E e=>?_)
  have ab:∀s,s∈cQ d []->s∈cQ (.seq d b) []:=λs K=>(lV d (cQ b [])).2 (.inl K)
  have ao:∀s,s∈cQ b []->s∈cQ (.seq d b) []:=λs K=>(lV d (cQ b [])).2 (.inr K)
  cases h with
  |normal=>
   obtain⟨i,l,j,rfl,rfl⟩:=e;have ac:=gO J o H b (2*p+1) t i x j al (la k l.len);exact ac.mono λh A E e=>e.mono (l.more ab) ao λ_ _ c=>c
  |ret=>obtain⟨i,l,j,N,O⟩:=e;exact⟨i,l.more ab,j,N,O⟩
  |exit id=>obtain⟨i,l,j,N,O⟩:=e;exact⟨i,l.more ab,j,N,O⟩
  |goto _=>exact e.elim
  |panic _=>exact e.elim
  |outgrown=>exact e.elim
 | .cond z d b,p,R,m,a,r,c,u,k=>by
  refine Bv o k c λ{ax} t x D=>?_
  obtain⟨aw,al⟩:=fu (show(bif gB F d then gB F b else false)=true from u);have ab:∀s,s∈cQ d []->s∈cQ (.cond z d b) []:=λs K=>(lV d (cQ b [])).2 (.inl K)
  have ao:∀s,s∈cQ b []->s∈cQ (.cond z d b) []:=λs K=>(lV d (cQ b [])).2 (.inr K)
  split at D
  .rename_i a4 aJ;refine adk (by rw[Bw,aJ];rfl) (λh=>?_) (λh=>?_)
   .subst h;exact(gO J o H d (2*p) t a x D aw k).mono λh A E e=>e.mono (.refl _ _) ab λ_ _ c=>c
   .subst h;exact(gO J o H b (2*p+1) t a x D al k).mono λh A E e=>e.mono (.refl _ _) ao λ_ _ c=>c
  .cases D
 | .block id d,p,R,m,a,r,c,u,k=>by
  refine Bv o k c λ{ax} t x D=>?_
  have M:=gO J o H d (2*p) _ a x D u k;refine Ta (M.mono λh A E e=>?_)
  cases h with
  |normal=>exact e
  |ret=>exact e
  |exit af=>
   obtain⟨i,l,j,N,O⟩:=e;show(EY id _) (.exit af) A E
   simp only[EY];have ad:(bif fe af id then t 0 i else t (af+2) i)=c5 x:=j;cases ac:fe af id with
   |true=>rw[ac] at ad;exact⟨i,l,ad,N,O⟩
   |false=>rw[ac] at ad;exact⟨i,l,ad,N,O⟩
  |goto _=>exact e.elim
  |panic _=>exact e.elim
  |outgrown=>exact e.elim
 | .loop d,p,R,m,a,r,c,u,k=>by
  have aS:∀(ae:Nat) (a:St B.D),D8 B (λt i=>exec S B P W n C d (2*p) t i) (λa=>match (hint C p).lp with
   |some q=>nW B n a (cQ d []) q a λY=>(S.loop (λI=>exec S B P W n C d (2*p) (R:=bi B.D q.bX⊕qM B (hint C p).outs) (λh i=>bif fe h 0 then nW B n a (cQ d []) q i (λI=>c5 (.inl I)) else inj B n a (cQ d []) (hint C p).outs h i λw=>c5 (.inr w)) (ik B a (cQ d []) q I)) Y).bind λw=>out B a (cQ d []) (hint C p).outs w m
   |none=>ea) m ae a=c5 r->n<=a.H.length->oE P F n d (Ends B m r a (cQ (.loop d) [])) (aU B a.E) (av B a.H):=by
   intro ae
   induction ae with
   |succ ae aH=>
    intro a c k;have M:=gO J o H d (2*p) _ a r c u k;refine aiK (M.mono λh A E e=>?_)
    cases h with
    |normal=>
     obtain⟨i,l,j,rfl,rfl⟩:=e;exact(aH i j (la k l.len)).mono λh A E e=>e.mono l (λ_ c=>c) λ_ _ c=>c
    |ret=>exact e
    |exit id=>exact e
    |goto _=>exact e.elim
    |panic _=>exact e.elim
    |outgrown=>exact e.elim
   |zero=>
    intro a c k a6 aP aX aC;have ah:=Q8 aC;simp only[D8] at c
    split at c
    .rename_i q a5;obtain⟨Y,ar,aI,aT,aG,aK⟩:=DH o (.refl _ _) k ah c aC;obtain⟨w,ag,az⟩:=ei.1 ar;obtain⟨aN,aE⟩:=S.ok _ _ _ ag;generalize aL:(λI=>exec S B P W n C d (2*p) (R:=bi B.D q.bX⊕qM B (hint C p).outs) (λh i=>bif fe h 0 then nW B n a (cQ d []) q i (λI=>c5 (.inl I)) else inj B n a (cQ d []) (hint C p).outs h i λw=>c5 (.inr w)) (ik B a (cQ d []) q I))=f at aE;have aM:oE P F n d (Ends B m r a (cQ (.loop d) [])) (aU B (ik B a (cQ d []) q Y).E) (av B (ik B a (cQ d []) q Y).H):=by
      refine QG (α:=Nat×bi B.D q.bX) (λG A E=>fY f G.1 G.2=c5 w/\Ext (cQ d []) a (ik B a (cQ d []) q G.2)/\A=aU B (ik B a (cQ d []) q G.2).E/\E=av B (ik B a (cQ d []) q G.2).H) (λG=>G.1) (aN,Y) ⟨aE,aI,rfl,rfl⟩ ?_
      rintro⟨aj,I⟩ A E ⟨L,ai,rfl,rfl⟩;cases aj with
      |zero=>simp[fY] at L
      |succ aj=>
       simp only[fY] at L;obtain⟨v,aD,L⟩:=ei.1 L;rw[<-aL] at aD;have M:=gO J o H d (2*p) _ _ v aD u (la k ai.len);refine Tl M ?_
       intro h aY a1 g aB a2 T au;cases h with
       |normal=>
        obtain⟨i,l,j,rfl,rfl⟩:=T;obtain⟨G,y,V,U,Z,aa⟩:=DH o (ai.trans l) k ah j au;injection y with y
        subst y;exact⟨_,_,U,⟨(aj,G),l1 _,L,V,rfl,rfl⟩,Z,aa⟩
       |ret=>
        obtain⟨i,l,j,rfl,rfl⟩:=T;obtain⟨an,am,y,V,Z,U,aa,ap⟩:=Aa o (ai.trans l) k ah au j;injection y with y
        subst y;have h:an=w:=by simpa using L
        subst h;exact⟨_,_,U,⟨am,V,by rw[<-Z m];exact az,rfl,rfl⟩,aa,ap⟩
       |exit id=>
        obtain⟨i,l,j,rfl,rfl⟩:=T;obtain⟨an,am,y,V,Z,U,aa,ap⟩:=Aa o (ai.trans l) k ah au j;injection y with y
        subst y;have h:an=w:=by simpa using L
        subst h;exact⟨_,_,U,⟨am,V,by rw[<-Z m];exact az,rfl,rfl⟩,aa,ap⟩
       |goto _=>exact T.elim
       |panic _=>exact T.elim
       |outgrown=>exact T.elim
     intro aV aR;exact aM aT aP aX aG aV λh aB aQ aO=>aR h aB aQ (eI.trans aK aO)
    .cases c
  exact Pz (aS _ a c k)
 | .rangeFunc ..,p,R,m,a,r,c,_,_=>by simp[exec] at c
 | .scope _,p,R,m,a,r,c,_,_=>by simp[exec] at c
 | .goto _,p,R,m,a,r,c,_,_=>by simp[exec] at c
 | .refuse _,p,R,m,a,r,c,_,_=>by simp[exec] at c
end
def yR(b:Array Value):ResultVar->Sem Value
 | .tmp a=>pure (b.getD a undef)
 | .cell p a=>do loadVar a (<-asAddr (b.getD p undef))
def ND(fn:Func)(a:Array Value):results fn a=(do let vs<-fn.results.mapM (yR a);pure (if b:vs.size=1 then vs[0] else .tuple vs)):=rfl
def wM{b:Nat->Type}:Nat->List (TV b)->En b->En b
 |_,[],a=>a
 |i,v::vs,a=>wM (i+1) vs ((i,v)::a)
def Jz{f:Nat->Type}:∀(vs:List (TV f)) (i:Nat) (b:En f) (a:Nat),lk (wM i vs b) a=if i<=a then(vs[a -i]?).getD (lk b a) else lk b a
 |[],i,b,a=>by simp[wM]
 |v::vs,i,b,a=>by
  rw[wM,Jz vs (i+1)]
  by_cases d:i+1<=a
  .rw[if_pos d,if_pos (by omega),show a -i=(a - (i+1))+1 by omega,List.getElem?_cons_succ];have:fe i a=false:=by
    cases c:fe i a with
    |false=>rfl
    |true=>have:=beq_eq c;omega
   simp only[lk,this,cond_false]
  .rw[if_neg d]
   by_cases e:i=a
   .subst e;rw[if_pos (ef _),s6];simp[lk,hQ]
   .rw[if_neg (by omega)];have:fe i a=false:=by
     cases c:fe i a with
     |false=>rfl
     |true=>exact absurd (beq_eq c) e
    simp only[lk,this,cond_false]
def lY:Nat->Nat->List (Nat×CP)->Bool
 |_,0,[]=>true
 |a,c+1,p::b=>bif fe p.1 a then lY (a+1) c b else false
 |_,_,_=>false
section
variable {P:Program}{B:Tb}{R:Type}{r:R}
def H4(D:cU P B){c:St B.D}:∀{h:List ResultVar} {i:Nat} {E:En B.D} {m:En B.D->Option R},nh B P c i h E m=c5 r->
 ∃vs:List (TV B.D),vs.length=h.length/\m (wM i vs E)=c5 r/\∀g e b a,Rel g e (aU B c.E) (av B c.H) b a->∃o:List Value,(h.mapM (yR b.tmps)).run P a= .ok o a/\o.length=h.length/\∀(i:Nat) (s:TV B.D) (x:Value),vs[i]?=c5 s->o[i]?=c5 x->VR g (av B c.H) a (pv B s) x
 |[],i,E,m,f=>⟨[],rfl,f,λg e b a _=>⟨[],rfl,rfl,by simp⟩⟩
 |rv::h,i,E,m,f=>by
  have F:∃v,nh B P c (i+1) h ((i,v)::E) m=c5 r/\∀g e b a,Rel g e (aU B c.E) (av B c.H) b a->∃x,(yR b.tmps rv).run P a= .ok x a/\VR g (av B c.H) a (pv B v) x:=by
   cases rv with
   |tmp t=>
    refine⟨lk c.E t,f,λg e b a k=>⟨_,rfl,?_⟩⟩
    have:=k.e.at_ t
    rwa [ep] at this
   |cell p t=>
    simp only[nh] at f;obtain⟨v,N,w,M⟩:=PD D (x:=.tmp p) (E:=c.E) (t:=t) f;refine⟨v,w,λg e b a k=>?_⟩
    obtain⟨x,d,C⟩:=M ea 0 "" #[] c.E c.H (λx _=>Bw B c.E x) (λ_ _ _ f=>f) g e b a k;refine⟨x,?_,C⟩
    have G:b.eval (.tmp p)=b.tmps.getD p undef:=rfl;simp only[execOp,G] at d;show(do loadVar t (<-asAddr (b.tmps.getD p undef)):Sem Value).run P a= .ok x a
    generalize b.tmps.getD p undef=z at d⊢;cases z with
    |pointer y=>
     cases y with
     |none=>simp[q4,oj] at d
     |some y=>
      simp only[q4,oj,kh,m0,h7] at d;simp only[asAddr,kh,m0,h7];cases q:(loadVar t y).run P a with
      |ok A H=>
       rw[q] at d;simp only[h7] at d;injection d with n u
       injection n with n
       rw[n,u]
      |halt A H=>rw[q] at d;simp at d
    |_=>simp[q4,oj] at d
  obtain⟨v,w,n⟩:=F;obtain⟨vs,u,L,J⟩:=H4 D w;refine⟨v::vs,by simp[u],L,λg e b a k=>?_⟩
  obtain⟨x,d,C⟩:=n g e b a k;obtain⟨o,I,q,K⟩:=J g e b a k;refine⟨x::o,?_,by simp[q],λi s A l j=>?_⟩
  .rw[List.mapM_cons];simp only[kh,I,d,h7,m0]
  .match i,l,j with
   |0,l,j=>simp at l j;subst l;subst j;exact C
   |i+1,l,j=>exact K i s A (by simpa using l) (by simpa using j)
def Tk{d:Nat->Type}{c:Nat->Nat×Nat}:∀{a:List (Nat×List Nat×OP)} {q:Nat} {b:List (TV d)},(lM c q a b).1.length=a.length
 |[],_,_=>rfl
 |e::a,q,b=>by simp[lM,Tk]
def A7{p:bY}{a:bi B.D p.bX}:(cz B p a).H.length=p.dF.length:=by
 unfold cz nI;exact Tk
def GW{j:Nat->Type}{ρ:Nat->Nat×Nat}:∀{e:List (Nat×CP)} {c d:Nat} {ls:List (TV j)},lY c d e=true->∃b,b.length=d/\gR ρ e ls=fi c b
 |[],c,0,ls,_=>⟨[],rfl,rfl⟩
 |p::e,c,d+1,ls,a=>by
  obtain⟨i,h⟩:=fu a;obtain⟨b,f,g⟩:=GW (ρ:=ρ) (ls:=(hO ρ p.2 ls).2) h;refine⟨(hO ρ p.2 ls).1::b,by simp[f],?_⟩
  simp only[gR,fi,g,beq_eq i]
 |[],_,_+1,_,a=>by simp[lY] at a
 |_::_,_,0,_,a=>by simp[lY] at a
def GN{c:Nat->Type}:∀(a:List (TV c)) (b:Nat),(fi b a).map (·.2)=a
 |[],_=>rfl
 |d::a,b=>by simp[fi,GN a]
def kL(P:Program){B:Tb}(a:aq B)(c:List ResultVar)(e:Nat)(b:St B.D):Option (bi B.D a.az.bX):=bif m5 e 1 then nh B P b 0 c [] λd=>take B a.low a.az ⟨d,b.H⟩ c5 else ea
def qP{R:Type}(B:Tb)(d:Nat->St B.D->Option R)(r:R):fE
 | .normal=>λb c=>∃a,d 0 a=c5 r/\b=aU B a.E/\c=av B a.H
 | .ret=>λb c=>∃a,d 1 a=c5 r/\b=aU B a.E/\c=av B a.H
 | .exit e=>λb c=>∃a,d (e+2) a=c5 r/\b=aU B a.E/\c=av B a.H
 |_=>λ_ _=>False
def nP{R:Type}{g:Nat->St B.D->Option R}{r:R}{j:St B.D}{k:List Nat}:∀f h i,Ends B g r j k f h i->qP B g r f h i
 | .normal,_,_,⟨a,_,d,c,e⟩=>⟨a,d,c,e⟩
 | .ret,_,_,⟨a,_,d,c,e⟩=>⟨a,d,c,e⟩
 | .exit _,_,_,⟨a,_,d,c,e⟩=>⟨a,d,c,e⟩
 | .goto _,_,_,b=>b
 | .panic _,_,_,b=>b
 | .outgrown,_,_,b=>b
def ti(U:cU P B){a:aq B}{fn:Func}{code:Code}{rs:List ResultVar}(S:P.funcs[a.cO]?=c5 fn)(M:fn.body=c5 code)(ac:(fn.name== "runtime.NumGoroutine")=false)
 (ad:fn.results=rs.toArray) (W:m5 a.na fn.ntmps=true) (X:lY 0 rs.length a.az.dE=true) (s:∀d e,a.F d=c5 e->eT P fn.ntmps a.low code (qP B (kL P a rs) e) (aU B (cz B a.par d).E) (av B (cz B a.par d).H)):Fits P B a:=by
 refine⟨λargs m=>?_,λd e ah g m k an aw L=>?_⟩
 .simp only[callFunc,kh];have aj:(program:Sem Program).run P m= .ok P m:=rfl;rw[aj];simp only[h7,S];rw[ac];simp[M]
 .have ay:=s d e ah;have aC:k.length<=fn.ntmps:=by
   rw[an];exact e4 W
  have ag:Rel g fn.ntmps (aU B (cz B a.par d).E) (av B (cz B a.par d).H) {tmps:=k.toArray++hP (fn.ntmps -k.toArray.size) undef,defers:=[]} m:=by
   refine⟨aw,rfl,?_,λh=>?_⟩
   .simp;omega
   .rw[ep];have:=L h;have t:(k.toArray++hP (fn.ntmps -k.toArray.size) undef).getD h undef=k.getD h undef:=by
     rw[hD,h8];rcases hI h k.length with s |s
     .simp[Array.getElem?_append,s]
     .rw[ga s];rw[Array.getElem?_append_right (by simpa using s)];rcases hI (h -k.length) (fn.ntmps -k.length) with l |l
      .simp[l]
      .simp[l]
    rw[t];exact this
  refine calls_of_wp S M (ay g _ m ag _ ?_)
  intro t p c n;have O:∀H:Nat,H<=1->iX fn.ntmps a.low g (av B (cz B a.par d).H) m (λI ap=>∃q,(bif m5 H 1 then nh B P q 0 rs [] λI=>take B a.low a.az ⟨I,q.H⟩ c5 else ea)=c5 e/\I=aU B q.E/\ap=av B q.H) p c->
   p.defers=[]/\∃v,(results fn p.tmps).run P c= .ok v c/\∃Q G,Ending.returned v= .returned Q/\bF G (av B (cz B a.az e).H) c/\Bml.GStep a.low g (av B (cz B a.par d).H) m G (av B (cz B a.az e).H) c/\VR G (av B (cz B a.az e).H) c (pv B (kR (cz B a.az e).E)) Q:=λH au D=>by
   obtain⟨aD,H1,ak,⟨q,o,rfl,rfl⟩,F,ai⟩:=D;rw[hM au] at o;obtain⟨vs,aA,Y,am⟩:=H4 U o;obtain⟨u,aa,az,ao⟩:=am ak fn.ntmps p c F;obtain⟨z,J,E,af,ar,ab⟩:=EK U Y F.m;injection J with J
   subst J;have w:∃f:List (TV B.D),f.length=rs.length/\(cz B a.az z).E=fi 0 f:=by
    unfold cz nI;exact GW X
   obtain⟨f,C,w⟩:=w;have N:∀(i:Nat) (x:TV B.D) (v:Value),f[i]?=c5 x->u[i]?=c5 v->VR E (av B (cz B a.az z).H) c (pv B x) v:=λi x v j K=>by
    have T:i<vs.length:=by have:=c9 j;omega
    have y:=ao i _ v (c4 T) K;have l:=ab i v (by
     rw[Jz,if_pos (l2 _),s5,c4 T];exact y)
    rw[w] at l;have t:=Dz f 0 i;rw[e6] at t;rw[t,j] at l;exact l
   have L:∃v,(results fn p.tmps).run P c= .ok v c/\VR E (av B (cz B a.az z).H) c (pv B (kR (cz B a.az z).E)) v:=by
    have al:(fn.results.mapM (yR p.tmps)).run P c= .ok u.toArray c:=by
     rw[ad,Array.mapM_eq_mapM_toList];simp only[Sem.run_map,aa,h7]
    rw[ND,kh,al,h7,w]
    by_cases y:u.length=1
    .obtain⟨d,rfl⟩:=ng.1 y;obtain⟨h,rfl⟩:=ng.1 (show f.length=1 by omega);exact⟨d,rfl,N 0 h d rfl rfl⟩
    .refine⟨.tuple u.toArray,?_,?_⟩
     .rw[m0]
      congr 1
      exact dif_neg (by simpa using y)
     .have:kR (fi 0 f)= .bu f:=by
       match f,C with
       |[],_=>rfl
       |[h],C=>simp at C;omega
       |Z::b::V,_=>exact congrArg TV.bu (GN (Z::b::V) 0)
      rw[this];refine .bu _ u (by rw[db,l3];omega) λi x v j K=>?_
      rw[db,ec] at j;cases A:f[i]? with
      |none=>rw[A] at j;cases j
      |some h=>
       rw[A] at j;injection j with j
       subst j;exact N i h v A K
   obtain⟨v,ax,ae⟩:=L;exact⟨F.e.defers,v,ax,v,E,rfl,af,ai.trans ar,ae⟩
  cases t with
  |normal=>exact O 0 (by omega) n
  |ret=>exact O 1 (by omega) n
  |exit aB=>
   obtain⟨_,_,_,⟨q,o,_⟩,_⟩:=n;have o:(ea:Option (bi B.D a.az.bX))=c5 e:=o;cases o
  |goto V=>
   obtain⟨_,_,_,D,_⟩:=n;exact D.elim
  |panic a=>exact n.elim
  |outgrown=>exact n.elim
def FA(h:P.follows .mixedOrders=true)(e:cU P B){L:Lp}{c:List (aq B)}(q:∀a,a∈c->Fits P B a){a:aq B}{fn:Func}{code:Code}{rs:List ResultVar}{hs:List (Nat×Hn)}(o:P.funcs[a.cO]?=c5 fn)(k:fn.body=c5 code)(l:(fn.name== "runtime.NumGoroutine")=false)
 (m:fn.results=rs.toArray) (g:m5 a.na fn.ntmps=true) (f:gB fn.ntmps code=true) (j:m5 a.low (len a.par.dF)=true) (i:lY 0 rs.length a.az.dE=true) (s:∀b,gl L B P c a rs code hs b=a.F b):Fits P B a:=by
 refine ti e o k l m g i λb t n=>?_
 have d:=s b;rw[n] at d;have p:a.low<=(cz B a.par b).H.length:=by
  rw[A7, <-eu];exact e4 j
 exact(gO h e q code 1 _ _ _ d f p).mono nP
end
end Go.X
namespace Go.Bml
open Go Go.ChangeShapes Go.WideShapes Go.RowKit
def jG:Option Bool->List PV->PV
 |some true,p=>.agg p
 |_,[v]=>v
 |_,p=>.agg p
def OY:TypeDesc->Bool
 | .bool | .int _ | .string | .slice _ | .struct _ | .array _ _=>true
 |_=>false
inductive TP (P:Program):TypeId->List PV->Prop
 |bool (t:TypeId) (b:Bool) (h:P.underlying t=c5 .bool):TP P t [.bool b]
 |int (t:TypeId) (k:IntKind) (n:Int) (h:P.underlying t=c5 (.int k)) (hw:(s7 k n).wf=true):TP P t [.int k n]
 |str (t:TypeId) (s:ByteArray) (h:P.underlying t=c5 .string) (hs:s.size<=maxLen):TP P t [.str s]
 |slice (t e:TypeId) (ess:List (List PV)) (h:P.underlying t=c5 (.slice e)) (hl:ess.length<=maxLen) (he:∀p,p∈ess->p.length=P.cellsOf e) (hp:∀p,p∈ess->TP P e p):TP P t [.vs (P.cellsOf e) (ess.map (jG (dP P e)))]
 |struct (t:TypeId) (fs:Array Field) (ps:List (List PV)) (h:P.underlying t=c5 (.struct fs)) (hl:ps.length=fs.size) (hp:∀(i:Nat) (f:Field) (p:List PV),fs[i]?=c5 f->ps[i]?=c5 p->TP P f.type p):TP P t ps.flatten
 |array (t e:TypeId) (n:Nat) (ps:List (List PV)) (h:P.underlying t=c5 (.array n e)) (hl:ps.length=n) (hp:∀p,p∈ps->TP P e p):TP P t ps.flatten
 |other (t:TypeId) (d:TypeDesc) (h:P.underlying t=c5 d) (hd:OY d=false):TP P t [.any]
def jE(e:Nat->Prop)(w:World)(d:List PV)(b:List Value):Prop:=
 d.length=b.length/\∀(i:Nat) (c:PV) (a:Value),d[i]?=c5 c->b[i]?=c5 a->VI e w c a/\a.oneCell'=true
def jE.one{F:Nat->Prop}{w:World}{c:PV}{x:Value}(h:VI F w c x)(j:x.oneCell'=true):jE F w [c] [x]:=by
 refine⟨rfl,λi a b d e=>?_⟩
 match i,d,e with
 |0,d,e=>simp at d e;subst d;subst e;exact⟨h,j⟩
 |i+1,d,e=>simp at d
def jE.append{F:Nat->Prop}{w:World}{p q:List PV}{c d:List Value}(h:jE F w p c)(k:jE F w q d):jE F w (p++q) (c++d):=by
 refine⟨by simp[h.1,k.1],λi a b j e=>?_⟩
 by_cases hi:i<p.length
 .rw[dt hi] at j;rw[dt (by have:=h.1;omega)] at e;exact h.2 i a b j e
 .rw[dk (by omega)] at j;rw[dk (by have:=h.1;omega)] at e;rw[<-h.1] at e;exact k.2 _ a b j e
def jE.flatten{F:Nat->Prop}{w:World}:∀(d:List (List PV)) (e:List (List Value)),d.length=e.length->(∀(i:Nat) (p:List PV) (c:List Value),d[i]?=c5 p->e[i]?=c5 c->jE F w p c)->jE F w d.flatten e.flatten
 |[],[],_,_=>⟨rfl,by simp⟩
 |[],_::_,h,_=>by simp at h
 |_::_,[],h,_=>by simp at h
 |p::d,c::e,h,j=>by
  rw[kl,kl];exact(j 0 p c rfl rfl).append (jE.flatten d e (by simpa using h) λi a b k l=>j (i+1) a b (by simpa using k) (by simpa using l))
def w4:Nat->List (Nat×Nat)->Nat->Bool
 |a,[],b=>fe a b
 |a,(d,c)::r,b=>fe d a&&w4 (a+c) r b
def Ry(c:List Value):∀(d:List (Nat×Nat)) (b:Nat),w4 b d c.length=true->c.drop b=(d.map λp=>(c.drop p.1).take p.2).flatten
 |[],b,a=>by
  have:=l0 a;simp[this]
 |(g,e)::d,b,a=>by
  simp only[w4,j2] at a;have f:=l0 a.1;subst f;rw[hz,kl, <-Ry c d (g+e) a.2];rw[<-r3,gx]
def xA(P:Program):Bool:=(gv P.types.size).all λb=>
 match P.underlying b with
 |some (.struct c)=>w4 0 (c.toList.map λf=>(f.offset,P.cellsOf f.type)) (P.cellsOf b)&&c.toList.all λf=>j8 f.type P.types.size
 |some (.array d a)=>fe (d*P.cellsOf a) (P.cellsOf b)&&j8 a P.types.size
 |some (.slice a)=>j8 0 (P.cellsOf a)&&j8 a P.types.size
 |_=>true
def Gj{P:Program}(h:xA P=true){b:TypeId}(j:b<P.types.size){c:TypeDesc}(i:P.underlying b=c5 c):(match c with
 | .struct d=>w4 0 (d.toList.map λf=>(f.offset,P.cellsOf f.type)) (P.cellsOf b)=true/\∀f,f∈d->f.type<P.types.size
 | .array e a=>e*P.cellsOf a=P.cellsOf b/\a<P.types.size
 | .slice a=>0<P.cellsOf a/\a<P.types.size
 |_=>True):=by
 have:=n0.1 h b (hL.2 j);rw[i] at this;cases c with
 |struct d=>
  simp only[j2] at this;exact⟨this.1,λf g=>e4 (n0.1 this.2 f (hX.2 g))⟩
 |array e a=>
  simp only[j2] at this;exact⟨l0 this.1,e4 this.2⟩
 |slice a=>
  simp only[j2] at this;exact⟨e4 this.1,e4 this.2⟩
 |_=>trivial
def Tx{P:Program}{f:TypeId}{p:List PV}(e:¬dP P f=c5 true)(a:TP P f p):∃v,p=[v]/\v.cells=[v]:=by
 cases a with
 |bool _ b a=>exact⟨_,rfl,rfl⟩
 |int _ o h a k=>exact⟨_,rfl,rfl⟩
 |str _ m a s=>exact⟨_,rfl,rfl⟩
 |slice _ i r a d n c=>exact⟨_,rfl,rfl⟩
 |struct _ q g a d c=>exact absurd (by simp[dP,a]) e
 |array _ i h g a d c=>exact absurd (by simp[dP,a]) e
 |other _ l a j=>exact⟨_,rfl,rfl⟩
def Vn{P:Program}{c:TypeId}{p:List PV}(e:TP P c p):(jG (dP P c) p).cells=p:=by
 by_cases a:dP P c=c5 true
 .rw[a];rfl
 .obtain⟨v,rfl,d⟩:=Tx a e;generalize dP P c=f at a;cases f with
  |none=>exact d
  |some b=>cases b with
   |false=>exact d
   |true=>exact absurd rfl a
section
variable {H:Type}{enc:TypeId×Value->H}{P:Program}{w:World}{base:Nat}{spare:Nat->Bool}{held:Bool}
def abB(O:xA P=true):∀(A:Nat) (o:TypeId) (q:List Value) (Y:DataW H×List MemPlace),o<P.types.size->o1 enc P w base spare held A o q=c5 Y->
 ∃C,TP P o C/\jE (λb=>b<w.heap.size) w C q:=by
 intro A
 induction A using o7 with
 |_ A W=>
  intro o q Y N m;cases l:P.underlying o with
  |none=>
   cases A with
   |zero=>simp[o1] at m
   |succ g=>simp[o1,l] at m
  |some R=>
   have other:OY R=false->(∃v,q=[v]/\v.oneCell'=true)->∃C,TP P o C/\jE (λb=>b<w.heap.size) w C q:=by
    rintro ad ⟨v,rfl,X⟩;exact⟨[.any],.other o R l ad,.one (.any v) X⟩
   cases R with
   |bool=>
    obtain⟨b,rfl,_⟩:=DataW.trod_bool l m;exact⟨[.bool b],.bool o b l,.one (.bool b) rfl⟩
   |int n=>
    obtain⟨g,rfl,_,aj⟩:=DataW.trod_int l m;exact⟨[.int n g],.int o n g l aj,.one (.int n g) rfl⟩
   |string=>
    obtain⟨V,rfl,_,ao⟩:=DataW.trod_string l m;exact⟨[.str V],.str o V l ao,.one (.str V) rfl⟩
   |slice a=>
    obtain⟨ay,Q⟩:=Gj O N l;rcases DataW.trod_slice l m with⟨rfl,_⟩ |⟨I,len,cap,rn,aA,g,rfl,rfl,_,_,aq,au,ax,D,_,_⟩
    .exact⟨[.vs (P.cellsOf a) (([]:List (List PV)).map (jG (dP P a)))],.slice o a [] l (l2 _) (by simp) (by simp),.one (.eX _ _ _) rfl⟩
    .have E:∀i:Nat,∃p:List PV,i<len->TP P a p/\p.length=P.cellsOf a/\∀(d:Nat) (h:PV),p[d]?=c5 h->∃y,w.cell? (I.add (i*P.cellsOf a+d))=c5 y/\VI (λb=>b<w.heap.size) w h y/\y.oneCell'=true:=λi=>by
      by_cases c:i<len
      .have r:=D i c;rw[c4 (by omega)] at r;cases e:w.cells? base (I.add (i*P.cellsOf a)) (P.cellsOf a) with
       |none=>simp[e] at r
       |some S=>
        simp[e] at r;obtain⟨p,B,u⟩:=W g (by omega) a S _ Q r;obtain⟨_,G,ag⟩:=World.cells?_some e;refine⟨p,λ_=>⟨B,u.1.trans G,λd h L=>?_⟩⟩
        have Z:d<S.length:=by
         have:=(e0.1 L).1;have:=u.1;omega
        refine⟨S[d],?_,u.2 d h _ L (c4 Z)⟩
        rw[<-Go.Deep.add_add,ag d (by omega),c4 Z]
      .exact⟨[],λm=>absurd m c⟩
     obtain⟨f,j⟩:=kd E;refine⟨[.vs (P.cellsOf a) (((gv len).map f).map (jG (dP P a)))],.slice o a _ l (by simp;omega) ?_ ?_,?_⟩
     .intro p k;obtain⟨i,c,rfl⟩:=ey.1 k;exact(j i (hL.1 c)).2.1
     .intro p k;obtain⟨i,c,rfl⟩:=ey.1 k;exact(j i (hL.1 c)).1
     .by_cases h0:len=0
      .subst h0;exact .one (.eX _ _ _) rfl
      .have ab:∀i,i<len->(jG (dP P a) (f i)).cells=f i:=λi c=>Vn (j i c).1
       have ah:∀i d h,abk (((gv len).map f).map (jG (dP P a))) i d=c5 h->i<len/\(f i)[d]?=c5 h:=λi d h e=>by
        unfold abk at e
        by_cases c:i<len
        .rw[ec,ec,ie c] at e;simp only[l4,my,ab i c] at e;exact⟨c,e⟩
        .rw[ga (by simp;omega)] at e;simp at e
       have ac:I.spot=ea:=by
        obtain⟨_,al,T⟩:=j 0 (by omega);obtain⟨y,s,_⟩:=T 0 _ (c4 (by omega));simp only[s8,hS] at s;rw[Addr.add_zero'] at s;exact World.cell?_spot s
       obtain⟨b,z,aw⟩:=I;simp only at ac;subst ac;have aa:(((gv len).map f).map (jG (dP P a))).length=len:=by simp
       have ai:b<w.heap.size:=by
        obtain⟨_,al,T⟩:=j 0 (by omega);obtain⟨y,s,_⟩:=T 0 _ (c4 (by omega));rw[sa] at s;exact World.block_lt_of_cell? w _ s
       have U:∀i d h,abk (((gv len).map f).map (jG (dP P a))) i d=c5 h->w.cell? ⟨b,z+(i*P.cellsOf a+d),ea⟩=c5 ((w.cell? ⟨b,z+(i*P.cellsOf a+d),ea⟩).getD undef)/\((w.cell? ⟨b,z+(i*P.cellsOf a+d),ea⟩).getD undef).oneCell'=true/\VI (λb=>b<w.heap.size) w h ((w.cell? ⟨b,z+(i*P.cellsOf a+d),ea⟩).getD undef):=λi d h e=>by
        obtain⟨c,L⟩:=ah i d h e;obtain⟨y,s,X,r⟩:=(j i c).2.2 d h L;rw[sa] at s;rw[s];exact⟨rfl,r,X⟩
       have:=VI.vs (F:=λb=>b<w.heap.size) (w:=w) (P.cellsOf a) (((gv len).map f).map (jG (dP P a))) b z cap (λi d=>(w.cell? ⟨b,z+(i*P.cellsOf a+d),ea⟩).getD undef) (by rw[aa];exact aq) ai
        (λi az K=>by
         have c:i<len:=by
          have:=(e0.1 K).1;simpa using this
         rw[ec,ec,ie c] at K;simp at K;subst K;rw[ab i c];exact(j i c).2.1)
        (λi d h e=>(U i d h e).1) (λi d h e=>(U i d h e).2.1) (λi d h e=>(U i d h e).2.2)
       rw[aa] at this;exact .one this rfl
   |struct x=>
    obtain⟨am,g,rfl,_,G,af,D⟩:=DataW.trod_struct l m;obtain⟨J,ar⟩:=Gj O N l;rw[<-G] at J;have M:=Ry q _ 0 J;rw[m2,n2] at M;have E:∀i:Nat,∃p:List PV,∀f,x[i]?=c5 f->TP P f.type p/\jE (λb=>b<w.heap.size) w p ((q.drop f.offset).take (P.cellsOf f.type)):=λi=>by
     by_cases c:i<x.size
     .have r:=D i x[i] (h9 c);rw[c4 (by omega)] at r;obtain⟨p,B,u⟩:=W g (by omega) _ _ _ (ar _ (q2 c)) r;exact⟨p,λf j=>by rw[h9 c] at j;injection j with j;subst j;exact⟨B,u⟩⟩
     .exact⟨[],λf j=>by rw[j4 (by omega)] at j;cases j⟩
    obtain⟨f,j⟩:=kd E;refine⟨((gv x.size).map f).flatten,.struct o x _ l (by simp) λi ae p c k=>?_,?_⟩
    .have t:i<x.size:=(Array.getElem?_eq_some_iff.1 c).1;rw[ec,ie t] at k;simp at k;subst k;exact(j i ae c).1
    .rw[M];refine jE.flatten _ _ (by simp) λi p h k e=>?_
     have t:i<x.size:=by
      have:=(e0.1 k).1;simpa using this
     rw[ec,ie t] at k;simp at k;subst k;rw[ec,j6,h9 t] at e;simp at e;subst e;exact(j i _ (h9 t)).2
   |array g a=>
    obtain⟨am,an,rfl,_,G,af,D⟩:=DataW.trod_array l m;obtain⟨J,Q⟩:=Gj O N l;have M:q=((gv g).map λi=>(q.drop (i*P.cellsOf a)).take (P.cellsOf a)).flatten:=by
     have ak:∀n,n<=g->q.drop ((g -n)*P.cellsOf a)=((o9 (g -n) n).map λi=>(q.drop (i*P.cellsOf a)).take (P.cellsOf a)).flatten:=by
      intro n
      induction n with
      |zero=>
       intro _;simp[J, <-G]
      |succ n ap=>
       intro av;rw[q7,hz,kl];have:=ap (by omega);rw[show g - (n+1)+1=g -n by omega, <-this];rw[show(g -n)*P.cellsOf a=(g - (n+1))*P.cellsOf a+P.cellsOf a by rw[<-Nat.succ_mul];congr 1;omega];rw[<-r3,gx]
     have:=ak g (ef _);rw[s6,s8,m2, <-List.range_eq_range'] at this;exact this
    have E:∀i:Nat,∃p:List PV,i<g->TP P a p/\jE (λb=>b<w.heap.size) w p ((q.drop (i*P.cellsOf a)).take (P.cellsOf a)):=λi=>by
     by_cases c:i<g
     .have r:=D i c;rw[c4 (by omega)] at r;obtain⟨p,B,u⟩:=W an (by omega) _ _ _ Q r;exact⟨p,λ_=>⟨B,u⟩⟩
     .exact⟨[],λm=>absurd m c⟩
    obtain⟨f,j⟩:=kd E;refine⟨((gv g).map f).flatten,.array o a g _ l (by simp) λp k=>?_,?_⟩
    .obtain⟨i,c,rfl⟩:=ey.1 k;exact(j i (hL.1 c)).1
    .rw[M];refine jE.flatten _ _ (by simp) λi p h k e=>?_
     have t:i<g:=by
      have:=(e0.1 k).1;simpa using this
     rw[ec,ie t] at k e;simp at k e;subst k;subst e;exact(j i t).2
   |_=>
    refine other rfl ?_
    cases A with
    |zero=>simp[o1] at m
    |succ g=>
     simp only[o1,l] at m
     first |(cases m;done) |(split at m <;> first |exact⟨_,rfl,rfl⟩ |(cases m;done) |(exfalso;simp_all;done))
def PM{f:World}{r:Reach}{b:Nat}{c:TypeId}{v:Value}(a:sn P f r b c v):v.cells.toList=[v]:=by
 unfold sn Cell.ok at a;generalize P.underlying c=e at a;cases v <;> first |rfl |skip
 all_goals
  cases e with
  |none=>exact a.elim
  |some d=>cases d <;> exact False.elim a
def NL(D:xA P=true){r:Reach}{M:Nat}:∀(k:List TypeId) (vs:List Value) (x:List (DataW H)) (C:List MemPlace),mx enc P w base spare held k vs x C->(∀a,a∈k->a<P.types.size)->
 (∀(s:Nat) a v,k[s]?=c5 a->vs[s]?=c5 v->q5 P w r M a v)->
 ∃m:List PV,m.length=vs.length/\vs.length=k.length/\(∀(i:Nat) (a:TypeId) (f:PV),k[i]?=c5 a->m[i]?=c5 f->∃p,TP P a p/\f=jG (dP P a) p)/\∀(i:Nat) (f:PV) (l:Value),m[i]?=c5 f->vs[i]?=c5 l->VI (λb=>b<w.heap.size) w f l
 |[],[],[],_,_,_,_=>⟨[],rfl,rfl,by simp,by simp⟩
 |[],[],_::_,_,d,_,_=>d.elim
 |[],_::_,[],_,d,_,_=>d.elim
 |[],_::_,_::_,_,d,_,_=>d.elim
 |_::_,[],[],_,d,_,_=>d.elim
 |_::_,[],_::_,_,d,_,_=>d.elim
 |_::_,_::_,[],_,d,_,_=>d.elim
 |a::k,v::vs,X::x,C,d,A,E=>by
  obtain⟨p,q,⟨S,N⟩,I,_⟩:=d;obtain⟨m,G,T,L,V⟩:=NL D k vs x q I (λa g=>A a (by simp[g])) λs a v g U=>E (s+1) a v (by simpa using g) (by simpa using U)
  obtain⟨y,B,t⟩:=abB D S a _ _ (A a (by simp)) N;have j:=E 0 a v rfl rfl;refine⟨jG (dP P a) y::m,by simp[G],by simp[T],λi J f g c=>?_,λi f l c h=>?_⟩
  .match i,g,c with
   |0,g,c=>simp at g c;subst g;subst c;exact⟨y,B,rfl⟩
   |i+1,g,c=>exact L i J f (by simpa using g) (by simpa using c)
  .match i,c,h with
   |0,c,h=>
    simp at c h;subst c;subst h;unfold q5 at j
    by_cases e:dP P a=c5 true
    .have:∃n,v= .agg n:=by
      unfold dP at e;cases o:P.underlying a with
      |none=>simp[o] at e
      |some z=>
       rw[o] at e j;cases z <;> simp at e <;> (obtain⟨n,Q,_⟩:=j;exact⟨n,Q⟩)
     obtain⟨n,rfl⟩:=this;rw[e];have:=VI.agg (F:=λb=>b<w.heap.size) (w:=w) y n.toList (by simpa[sp] using t.1) λi f l c h=>(t.2 i f l c (by simpa[sp] using h)).1
     simpa[jG] using this
    .obtain⟨u,rfl,W⟩:=Tx e B;have Y:=t.1;have R:jG (dP P a) [u]=u:=by
      generalize dP P a=K at e;cases K with
      |none=>rfl
      |some b=>cases b with
       |false=>rfl
       |true=>exact absurd rfl e
     rw[R];have O:v.cells.toList=[v]:=by
      unfold dP at e;cases o:P.underlying a with
      |none=>rw[o] at j;exact PM j
      |some z=>
       rw[o] at e j;cases z <;> first |exact PM j |(exfalso;simp at e;done)
     exact(t.2 0 u v rfl (by rw[O];rfl)).1
   |i+1,c,h=>exact V i f l (by simpa using c) (by simpa using h)
end
end Go.Bml
namespace Go.X
open Go Go.Aml Go.Bml Go.ChangeShapes Go.WideShapes Go.RowKit Go.ChangeAt
def Typed(P:Program)(ts:List TypeId)(pcs:List PV):Prop:=
 pcs.length=ts.length/\∀(i:Nat) (t:TypeId) (c:PV),ts[i]?=c5 t->pcs[i]?=c5 c->∃p,TP P t p/\c=jG (dP P t) p
def G8(P:Program){B:Tb}(c:aq B)(ts:List TypeId):Prop:=
 ∀pcs,Typed P ts pcs->∃x y,c.F x=c5 y/\(cz B c.par x).H=[]/\(∀t,pv B (lk (cz B c.par x).E t)=pcs.getD t .any)/\pv B (kR (cz B c.az y).E)= .bool true
section
variable {H:Type}{enc:TypeId×Value->H}{P:Program}{B:Tb}{c:aq B}
def aqj{args:Array Value}{W:World}{ts:List TypeId}{ds:List (DataW H)}{ps:List MemPlace}{base:Nat}(hT:xA P=true)(hA:mx enc P W 0 (λ_=>true) true ts args.toList ds ps)(hlt:∀t,t∈ts->t<P.types.size)
 (hok:∀(j:Nat) t v,ts[j]?=c5 t->args.toList[j]?=c5 v->q5 P W .any base t v) (hna:c.na=ts.length) (hf:Fits P B c) (hc:G8 P c ts):
 Calls P c.cO args W λe w'=>e= .returned (.bool true)/\Below W.heap.size W w':=by
 obtain⟨pcs,k1,k2,k3,k4⟩:=NL hT ts args.toList ds ps hA hlt hok;obtain⟨x,y,hF,hH,hE,hR⟩:=hc pcs ⟨k1.trans k2,k3⟩;have h:=hf.calls x y hF ⟨λb=>b<W.heap.size,λ_=>ea⟩ W args.toList (by rw[hna,k2])
  (by
   rw[hH];exact⟨λb h=>h,λr r' b C C' h=>by simp at h,λr b C h=>by simp at h,λr o h=>by simp[av] at h⟩)
  (λt=>by
   rw[hE,hH]
   by_cases ht:t<pcs.length
   .have ht2:t<args.toList.length:=by omega
    rw[h8,h8,c4 ht,c4 ht2];exact .aW (k4 t _ _ (c4 ht) (c4 ht2))
   .rw[h8,ga (by omega)];exact .aW (.any _))
 rw[hU] at h;refine Calls.mono h λe w' hh=>?_
 obtain⟨v,g',he,_,hst,hv⟩:=hh;rw[hR] at hv;have hb:=hv.n5;rw[he,hb];refine⟨rfl,hst.os,hst.tape,hst.output,hst.size,λk hk=>hst.jh k hk⟩
def OZ(hl:laidOutB P=true){W W':World}(hb:Below W.heap.size W W'):∀(ts:List TypeId) (vs:List Value) (ds:List (DataW H)) (ps:List MemPlace),(∀t,t∈ts->P.readableRec t=true/\t<P.types.size)->mx enc P W 0 (λ_=>true) true ts vs ds ps->
 mx enc P W' 0 (λb=>c3 (b<W.heap.size)) true ts vs ds ps/\ds.length=ts.length
 |[],[],[],_,_,h=>⟨h,rfl⟩
 |[],[],_::_,_,_,h=>h.elim
 |[],_::_,[],_,_,h=>h.elim
 |[],_::_,_::_,_,_,h=>h.elim
 |_::_,[],[],_,_,h=>h.elim
 |_::_,[],_::_,_,_,h=>h.elim
 |_::_,_::_,[],_,_,h=>h.elim
 |t::ts,v::vs,d::ds,ps,hr,h=>by
  obtain⟨p,q,h1,h2,he⟩:=h;have hx:∀x∈p,x.block<W.heap.size:=by obtain⟨m,hm⟩:=h1;exact DataW.trod_lt m _ _ _ hm
  obtain⟨i1,i2⟩:=OZ hl hb ts vs ds q (λt ht=>hr t (by simp[ht])) h2;exact⟨⟨p,q,Below.trod hl (hr t (by simp)).1 (hr t (by simp)).2 h1 hb hx,i1,he⟩,by simp[i2]⟩
def ahF{C:Checked}{c:aq B}{os:Os}{fn:Func}{s:ChangeSpec}{conds:List PathCond}{tb:TypeId}(own:ownKnob C.prog.godebug=ea)(started:os.Started)(noInit:C.prog.inits.idxOf? c.cO=ea)(hfn:C.prog.funcs[c.cO]?=c5 fn)
 (witness:∃(w:World) (tape:Tape) (i:Input),w.os=os/\(w.forCall tape i).Shaped C.prog/\i.vars=[]/\Input.okWide C.prog (w.forCall tape i) .any w.heap.size c.cO i/\
  s.pre6 enc C.prog fn conds false (w.forCall tape i).memory i.args/\({}:Assume).holds C.prog (lone (Frame.enter C.prog c.cO i.args .normal) [] (w.forCall tape i)))
 (hT:xA C.prog=true) (hl:laidOutB C.prog=true) (eZ:fn.params.toList.all (λt=>C.prog.readableRec t&&j8 t C.prog.types.size)=true) (hvars:s.vars=[]) (hres:fn.resultTypes=#[tb]) (htb:C.prog.underlying tb=c5 .bool)
 (hs:∀ds:List (DataW H),ds.length=fn.params.toList.length->s.fn H ds={results:=[.lit (.bool true)],args:=ds}) (hna:c.na=fn.params.toList.length) (hf:Fits C.prog B c) (hc:G8 C.prog c fn.params.toList):
 ReturnsInHanded {} C os c.cO .any (s.pre6 enc C.prog fn conds false) (s.post enc C.prog fn false true false false):=by
 have hrd':∀t,t∈fn.params.toList->C.prog.readableRec t=true/\t<C.prog.types.size:=λt ht=>by
  have:=(n0.1 eZ) t ht;rw[j2] at this;exact⟨this.1,e4 this.2⟩
 refine returnsInHanded_of_change own started noInit hfn witness ?_
 intro W base args ds gs before hval hW hcnd _;have hW':=hW;obtain⟨p,q,hA,hV,rfl,hfz,hnd⟩:=hW;rw[hvars] at hV;obtain⟨rfl,rfl⟩:=trodVars_none hV;refine(aqj (base:=base) hT hA (λt ht=>(hrd' t ht).2) (λj t v ht hv=>hval j t v (by simpa using ht) (by simpa using hv)) hna hf hc).mono λe W' ⟨he,hZ⟩=>?_
 subst he;obtain⟨b1,b2⟩:=OZ hl hZ fn.params.toList args.toList ds p hrd' hA;have hsd:s.fn H (ds++[])={results:=[.lit (.bool true)],args:=ds}:=by rw[ft];exact hs ds b2
 refine⟨_,rfl,ds,[],_,[],p,[],hW',?_,?_,?_,hZ.frame _,λh=>by cases h⟩
 .rw[hsd,hres];exact trodAll_mk1 (shut_bool htb _)
 .rw[hsd];exact b1
 .rw[hsd,hvars];rfl
end
def ahG{h:Program}{g:TypeId}{k:IntKind}{p:List PV}(c:h.underlying g=c5 (.int k))(a:TP h g p):∃d:Int,p=[.int k d]/\(s7 k d).wf=true:=by
 cases a with
 |int _ u d a j=>rw[c] at a;cases a;exact⟨d,rfl,j⟩
 |bool _ b a=>rw[c] at a;cases a
 |str _ o a t=>rw[c] at a;cases a
 |slice _ m s a f q e=>rw[c] at a;cases a
 |struct _ r l a f e=>rw[c] at a;cases a
 |array _ m d l a f e=>rw[c] at a;cases a
 |other _ n a i=>rw[c] at a;cases a;cases i
def PX{e:Program}{d:TypeId}{f:IntKind}(j:e.underlying d=c5 (.int f))(i:dP e d=c5 false):∀a:List (List PV),(∀p,p∈a->TP e d p)->∃b:List Int,a.map (jG (dP e d))=b.map (.int f)/\b.length=a.length/\∀c,c∈b->(s7 f c).wf=true
 |[],_=>⟨[],rfl,rfl,by simp⟩
 |p::a,h=>by
  obtain⟨b,o,n,r⟩:=PX j i a λq m=>h q (c7 _ m)
  obtain⟨l,rfl,k⟩:=ahG j (h p (j3 ..));refine⟨l::b,?_,by simp[n],λc g=>?_⟩
  .rw[hz,hz,o,i];rfl
  .rcases dd.1 g with rfl |g
   .exact k
   .exact r c g
def aeB{f:Program}{j e:TypeId}{k:IntKind}{p:List PV}(c:f.underlying j=c5 (.slice e))(q:f.underlying e=c5 (.int k))(t:dP f e=c5 false)(u:f.cellsOf e=1)(a:TP f j p):
 ∃d:List Int,p=[.vs 1 (d.map (.int k))]/\d.length<=maxLen/\∀h,h∈d->(s7 k h).wf=true:=by
 cases a with
 |int _ x o a z=>rw[c] at a;cases a
 |bool _ b a=>rw[c] at a;cases a
 |str _ C a B=>rw[c] at a;cases a
 |slice _ w s a i D g=>
  rw[c] at a;cases a;obtain⟨d,n,v,r⟩:=PX q t s g;exact⟨d,by rw[n,u],by omega,r⟩
 |struct _ A m a i g=>rw[c] at a;cases a
 |array _ e o m a i g=>rw[c] at a;cases a
 |other _ y a l=>rw[c] at a;cases a;cases l
def ajJ{c:Program}{b:TypeId}{f:List TypeId}{e:List PV}(h:Typed c (b::f) e):∃p q,TP c b p/\e=jG (dP c b) p::q/\Typed c f q:=by
 obtain⟨d,a⟩:=h
 match e,d,a with
 |l::q,d,a=>
  obtain⟨p,g,rfl⟩:=a 0 b l rfl rfl;exact⟨p,q,g,rfl,by simpa using d,λi k j m n=>a (i+1) k j (by simpa using m) (by simpa using n)⟩
def adH{c:Program}{a:List PV}(b:Typed c [] a):a=[]:=List.length_eq_zero_iff.1 b.1
end Go.X
namespace Go.X
open Go Go.Aml Go.Bml
def asg:Option Nat->PV
 |none=>.dB
 |some f=>.fn f [] []
def mM(a:Int):List Int->List Int
 |[]=>[a]
 |b::c=>bif c3 (a<=b) then a::b::c else b::mM a c
def dQ:List Int->List Int
 |[]=>[]
 |a::b=>mM a (dQ b)
def rC(a:List Int):Option (List Int):=bif m5 a.length 140737488355328 then c5 (dQ a) else ea
def Ct(a:Nat)(n:Int):Option (List Int):=bif c3 (0<=n) then(gP a (0:Int) n).bind λ_=>c5 [] else ea
def B2{c:Type}(d:Nat)(a:List c)(i:Int)(b:List c):Option (List c):=if 0<=i/\i<=(a.length:Int)/\b.length=1 then(bj d a b).bind λ_=>c5 (a.take i.toNat++b++a.drop i.toNat) else ea
universe u
def px{a:Type u}:List (List a)->Nat->List a
 |[],_=>[]
 |b::_,0=>b
 |_::c,n+1=>px c n
def Br:List (Nat×Ty)->Nat->Ty
 |[],_=>⟨Empty,λ_=>.any⟩
 |p::r,n=>bif fe p.1 n then p.2 else Br r n
structure xz where
 sz:Nat
 fl:Bool
 el:Nat
def Eu:List (Nat×xz)->Nat->xz
 |[],_=>⟨1,false,0⟩
 |p::r,n=>bif fe p.1 n then p.2 else Eu r n
structure Ev (D:Nat->Type) (n:Nat) where
 tv:D n->TV D
 up:TV D->Option (D n)
def ev0(D:Nat->Type)(n:Nat):Ev D n:=⟨λ_=>.any,λ_=>ea⟩
def Jq(D:Nat->Type):List (Σ n,Ev D n)->(n:Nat)->Ev D n
 |[],n=>ev0 D n
 |p::r,n=>if a:p.1=n then a▸p.2 else Jq D r n
section
variable (D:Nat->Type)
def dA{b a:Type}(d:b=a)(c:b):a:=cast d c
def fA{n:Nat}(b:IntKind)(a:D n=Int):Ev D n:=⟨λc=>.int b (dA a c),λ| .int e d=>bif fV e b then c5 (dA a.symm d) else ea |_=>ea⟩
def nE{n:Nat}(a:D n=Bool):Ev D n:=⟨λc=>.bool (dA a c),λ| .bool b=>c5 (dA a.symm b) |_=>ea⟩
def iR{n:Nat}(a:D n=Option Nat):Ev D n:=⟨λb=>.jC (dA a b),λ| .jC c=>c5 (dA a.symm c) | .dB=>c5 (dA a.symm ea) | .fn f [] []=>c5 (dA a.symm (c5 f)) |_=>ea⟩
def bJ{n:Nat}(b:Nat)(a:D n=List (D b)):Ev D n:=⟨λc=>.row b (dA a c),λ| .row d e=>if f:d=b then c5 (dA a.symm (f▸e)) else ea | .bg=>c5 (dA a.symm []) | .z0=>c5 (dA a.symm []) |_=>ea⟩
def uO(a:Nat):List (TV D)->Option (List (List (D a)))
 |[]=>c5 []
 | .row c b::e=>if d:c=a then(match uO a e with |some r=>c5 ((d▸b)::r) |none=>ea) else ea
 |_=>ea
def pM{n:Nat}(b d:Nat)(a:D n=List (D b))(f:D b=List (D d)):TV D->Option (D n)
 | .row c g=>if h:c=b then c5 (dA a.symm (h▸g)) else ea
 | .bg=>c5 (dA a.symm [])
 | .z0=>c5 (dA a.symm [])
 | .rv c e=>bif fe c b then(match uO D d e with
  |some i=>c5 (dA a.symm (i.map (dA f.symm)))
  |none=>ea) else ea
 |_=>ea
def lx{n:Nat}(a c:Nat)(b:D n=List (D a))(e:D a=List (D c)):Ev D n:=⟨λd=>.row a (dA b d),pM D a c b e⟩
variable (lf:(n:Nat)->Ev D n)
def E6:(ns:List Nat)->bi D ns->List (TV D)
 |[],_=>[]
 |[n],a=>[(lf n).tv a]
 |n::b::ns,a=>(lf n).tv a.1::E6 (b::ns) a.2
def CL{b a:Type}:Option b->Option a->Option (b×a)
 |some d,c5 c=>c5 (d,c)
 |_,_=>ea
def aid{e c:Type}{a:Option e}{b:Option c}{p:e×c}(d:CL a b=c5 p):a=c5 p.1/\b=c5 p.2:=by
 cases a <;> cases b <;> simp[CL] at d
 subst d;exact⟨rfl,rfl⟩
def Au:(ns:List Nat)->List (TV D)->Option (bi D ns)
 |[],[]=>c5 ()
 |[n],[a]=>(lf n).up a
 |n::c::ns,a::b=>CL ((lf n).up a) (Au (c::ns) b)
 |_,_=>ea
def cw{n:Nat}{a:Type}(ns:List Nat)(mk:bi D ns->a)(e:a->bi D ns)(b:D n=a):Ev D n:=
 ⟨λd=>.agg (E6 D lf ns (e (dA b d))),λ
  | .agg f=>(match Au D lf ns f with
   |some c=>c5 (dA b.symm (mk c))
   |none=>ea)
  |_=>ea⟩
end
end Go.X
namespace Go.X
open Go Go.Aml
def lK(a:Int):Option Nat:=bif c3 (1<=a) then(bif c3 (a<=13) then c5 (102+a.toNat) else ea) else ea
end Go.X
