/- For TopWhole, part 1. -/
import Derived.WalkKit
import Derived.Maps.AppendAt
import Derived.Orders
import Derived.Deep.LoopGhost
import Derived.Laws.MakeOwn
import Derived.Laws.BytesArg
import Derived.Laws.StructEq
import Derived.Laws.Slices
set_option linter.defProp false
set_option linter.unusedVariables false
set_option linter.unusedSimpArgs false
open Decidable renaming decide → c3
open Option renaming some → c4, none → c6, bind_eq_some_iff → ec, bind_some → hU, map_none → ie, isSome_iff_exists → m6, map_some → o1
open List renaming getElem?_eq_getElem → c5, getElem?_eq_some_iff → c7, length_map → dk, getElem?_append_right → dt, getElem?_append_left → dv, mem_of_getElem? → dT, getElem?_take_of_lt → e0, eq_nil_of_length_eq_zero → e5, getElem?_map → e6, getElem?_drop → ea, getElem?_set_self → ee, getElem_of_mem → ej, getElem?_set_ne → ey, append_assoc → eE, length_append → eH, length_take → ft, getElem?_take → h6, all_eq_true → h7, getElem?_range → h9, replicate → hB, getElem?_eq_none → hI, eq_of_mem_replicate → hQ, take_of_length_le → hY, length_drop → j5, map_drop → j7, map_take → j8, mem_singleton → k0, size_toArray → kc, getElem?_toArray → kd, mem_cons_of_mem → km, length_nil → l0, extract_eq_take_drop → m0, flatMap_cons → m5, map_cons → ma, mem_cons → mb, length_cons → my, range → n2, mem_map → ng, nil_append → o2, length_set → o3, take_zero → o7, length_pos_iff → o9, map_replicate → oo, append_nil → q4, map_set → r0
open Go.Op renaming operands → dd, equalIn → j9, binOp → la, equal → mx, intArith → o4, call → o8, eqFields → q2
open Nat renaming beq → e4, le_refl → ef, le_of_ble_eq_true → ei, add_mul → eo, mul_le_mul_right → ev, le_mul_of_pos_right → ga, zero_add → gx, eq_of_beq_eq_true → h5, le_trans → hq, ble → hK, succ_eq_add_one → hS, one_mul → hX, add_assoc → j1, add_sub_cancel_left → k6, beq_refl → k7, add_zero → l1, mul_comm → l2, succ_pos → l3, lt_of_lt_of_le → l4, blt → m1, lt_or_ge → oq, mod_eq_of_lt → p0, lt_succ_self → p7, zero_le → pc, mul_add_mod → q3, mod_lt → q5, zero_mul → qq
open Go.Result renaming andThen_ok → ez
open Array renaming getElem?_toList → fe, length_toList → gy, mem_toList_iff → hM, getD_eq_getD_getElem? → j2, toArray_toList → j4, getElem?_eq_none → k8, size_append → oS
open Go.Sem renaming run_bind → gb, run_pure → hz
open Go.RowKit.Below renaming heap_alloc → gv
open Go.Addr renaming add_lit → h8
open Go.Instr renaming sureAddr → hD, sliceBounds → j3, sliceAt → j6, sliceBound → kh, fill → kl, slice → m3, loadAt → n1, indexAt → oi, buildSlice → p6, fieldAt → q7, field → r3
open Go.Builtin renaming append_ → hL, zeroCells → m2
open Go.Call renaming operands → hP
open Go.Region renaming wanted → ih
open Option.some renaming injEq → m4
open Go.Oper renaming wp → n0
open Go.Value renaming cells → o6, ownBlock → q6
open Bool renaming false_eq_true → oj, and_eq_true → p4
open Go.Program renaming built → q8
open Go.Exit renaming inBlock → qa
open Ne renaming symm → qb
open Go.Act renaming put → r4
namespace Go.Aml
open Go
def qQ{e a:Type}{d:Option e}{c:e->Option a}{r:a}(f:d.bind c=c4 r):∃b,d=c4 b/\c b=c4 r:=ec.1 f
def aj{a:Type}(b:List a)(i:Int):Option a:=if 0<=i then b[i.toNat]? else c6
def xd{b:Type}{c:List b}{i:Int}{d:b}(a:aj c i=c4 d):i=(i.toNat:Int)/\c[i.toNat]?=c4 d:=by
 unfold aj at a
 split at a
 .exact⟨by omega,a⟩
 .cases a
def eG{d:Type}(c:List d)(a b:Int):Option (List d):=if 0<=a/\a<=b/\b<=(c.length:Int) then c4 ((c.take b.toNat).drop a.toNat) else c6
def Kt{d:Type}{l:List d}{a b:Int}{e:List d}(h:eG l a b=c4 e):0<=a/\a<=b/\b<=(l.length:Int)/\(l.take b.toNat).drop a.toNat=e:=by
 unfold eG at h
 split at h
 .rename_i c;exact⟨c.1,c.2.1,c.2.2,by injection h⟩
 .cases h
def ph(c:IntKind)(a b:Int):Option Int:=if b=0 then c6 else c4 (c.wrap (a.tdiv b))
def agK{d:IntKind}{c b r:Int}(a:ph d c b=c4 r):b≠0/\d.wrap (c.tdiv b)=r:=by
 unfold ph at a
 split at a
 .cases a
 .rename_i e;exact⟨e,by injection a⟩
def nG(a b:Int):Option Int:=if b=0 then c6 else c4 (a.tmod b)
def Yg{c b r:Int}(a:nG c b=c4 r):b≠0/\c.tmod b=r:=by
 unfold nG at a
 split at a
 .cases a
 .rename_i d;exact⟨d,by injection a⟩
def uU(a:IntKind)(c b:Int):Option Int:=if 0<=b then c4 (a.wrap (c*2^ (min b.toNat a.bits))) else c6
def alN{c:IntKind}{d b r:Int}(a:uU c d b=c4 r):0<=b/\c.wrap (d*2^ (min b.toNat c.bits))=r:=by
 unfold uU at a
 split at a
 .rename_i e;exact⟨e,by injection a⟩
 .cases a
def iN(c:IntKind)(a b:Int):Option Int:=if 0<=b then c4 (a.fdiv (2^ (min b.toNat c.bits))) else c6
def adR{d:IntKind}{c b r:Int}(a:iN d c b=c4 r):0<=b/\c.fdiv (2^ (min b.toNat d.bits))=r:=by
 unfold iN at a
 split at a
 .rename_i e;exact⟨e,by injection a⟩
 .cases a
def bj{a:Type}(d:Nat)(b c:List a):Option (List a):=if(b.length+c.length)*d<=140737488355328 then c4 (b++c) else c6
def AN{g:Type}{e:Nat}{c b d:List g}(a:bj e c b=c4 d):(c.length+b.length)*e<=140737488355328/\c++b=d:=by
 unfold bj at a
 split at a
 .rename_i f;exact⟨f,by injection a⟩
 .cases a
def gP{b:Type}(c:Nat)(z:b)(a:Int):Option (List b):=if 0<=a/\a.toNat*c<=140737488355328 then c4 (hB a.toNat z) else c6
def SF{c:Type}{d:Nat}{z:c}{a:Int}{e:List c}(b:gP d z a=c4 e):a=(a.toNat:Int)/\a.toNat*d<=140737488355328/\hB a.toNat z=e:=by
 unfold gP at b
 split at b
 .rename_i f;exact⟨by omega,f.2,by injection b⟩
 .cases b
def fY{a b:Type}(f:a->Option (a⊕b)):Nat->a->Option b
 |0,_=>c6
 |c+1,d=>(f d).bind λe=>e.elim (fY f c) c4
def RC{d e:Type}{f:d->Option (d⊕e)}:∀{n:Nat} {c:d} {b:e},fY f n c=c4 b->fY f (n+1) c=c4 b
 |0,_,_,a=>by simp[fY] at a
 |n+1,c,b,a=>by
  unfold fY at a⊢;obtain⟨i,h,g⟩:=qQ a;rw[h];cases i with
  |inl j=>exact RC (n:=n) g
  |inr k=>exact g
def Sn{a c:Type}{f:a->Option (a⊕c)}{d e:Nat}{g:a}{b:c}(j:fY f d g=c4 b)(h:d<=e):fY f e g=c4 b:=by
 induction h with
 |refl=>exact j
 |step _ i=>exact RC i
noncomputable def bO{a b:Type}(f:a->Option (a⊕b))(c:a):Option b:=
 open Classical in if e:∃d,(fY f d c).isSome then fY f e.choose c else c6
def Cd{c e:Type}{f:c->Option (c⊕e)}{n:Nat}{d:c}{b:e}(h:fY f n d=c4 b):bO f d=c4 b:=by
 have a:∃n,(fY f n d).isSome:=⟨n,by rw[h];rfl⟩;unfold bO;rw[dif_pos a];obtain⟨k,g⟩:=m6.1 a.choose_spec;rw[g];have j:=Sn h (Nat.le_max_left n a.choose);have i:=Sn g (Nat.le_max_right n a.choose);rw[j] at i;exact i.symm
def zR{c d:Type}{f:c->Option (c⊕d)}{e:c}{b:d}(a:bO f e=c4 b):∃g,fY f g e=c4 b:=by
 unfold bO at a
 split at a
 .exact⟨_,a⟩
 .cases a
def Qk{i l:Type}(f:i->Option (i⊕l))(e:i):bO f e=(f e).bind λa=>a.elim (bO f) c4:=by
 have j:∀b,bO f e=c4 b↔((f e).bind λa=>a.elim (bO f) c4)=c4 b:=by
  intro b
  constructor
  .intro c;obtain⟨n,g⟩:=zR c;cases n with
   |zero=>simp[fY] at g
   |succ n=>
    unfold fY at g;obtain⟨a,h,d⟩:=qQ g;rw[h];cases a with
    |inl k=>exact Cd (n:=n) d
    |inr m=>exact d
  .intro c;obtain⟨a,h,d⟩:=qQ c;cases a with
   |inl k=>
    obtain⟨n,g⟩:=zR (show bO f k=c4 b from d);refine Cd (n:=n+1) ?_
    unfold fY;rw[h];exact g
   |inr m=>
    refine Cd (n:=1) ?_
    unfold fY;rw[h];exact d
 cases c:bO f e with
 |none=>
  cases d:(f e).bind λa=>a.elim (bO f) c4 with
  |none=>rfl
  |some b=>rw[(j b).2 d] at c;cases c
 |some b=>exact((j b).1 c).symm
structure Lp where
 loop:{α β:Type}->(α->Option (α⊕β))->α->Option β
 ok:∀{α β:Type} (f:α->Option (α⊕β)) (a:α) (b:β),loop f a=c4 b->∃n,fY f n a=c4 b
@[reducible] noncomputable def LC:Lp:=⟨bO,λ_ _ _ a=>zR a⟩
@[reducible] def LN(a:Nat):Lp:=⟨λf c=>fY f a c,λ_ _ _ b=>⟨a,b⟩⟩
end Go.Aml
namespace Go.Bml
open Go
inductive PV:Type where
 |any
 |bool (b:Bool)
 |int (k:IntKind) (n:Int)
 |str (s:ByteArray)
 |fS
 |ptr (r v i j:Nat)
 |dw (cs:List PV) (j:Nat)
 |bg
 |z0
 |vs (sz:Nat) (es:List PV)
 |sl (r v off len:Nat)
 |fl (r v:Nat)
 |agg (cs:List PV)
 |bu (vs:List PV)
 |fn (f:Nat) (first cap:List PV)
 |dB
 deriving Inhabited
def PV.cells:PV->List PV
 | .agg a=>a
 |v=>[v]
def abk(c:List PV)(i a:Nat):Option PV:=(c[i]?).bind λb=>b.cells[a]?
structure aO where
 ty:Nat
 sz:Nat
 es:List PV
 aF:Nat
structure Gh where
 F:Nat->Prop
 β:Nat->Option (Nat×Nat)
inductive VI (F:Nat->Prop) (w:World):PV->Value->Prop
 |any (x:Value):VI F w .any x
 |bool (b:Bool):VI F w (.bool b) (.bool b)
 |int (k:IntKind) (n:Int):VI F w (.int k n) (.int k n)
 |str (s:ByteArray):VI F w (.str s) (.string s)
 |fS:VI F w .fS (.pointer c6)
 |bg:VI F w .bg (.slice c6 0 0)
 |z0 (a:Option Addr):VI F w .z0 (.slice a 0 0)
 |dB:VI F w .dB .nilFunc
 |dw (cs:List PV) (j b off:Nat) (u:Nat->Value) (hF:F b)
  (hc:∀(i:Nat) (c:PV),cs[i]?=c4 c->w.cell? ⟨b,off+i,c6⟩=c4 (u i))
  (h1:∀(i:Nat) (c:PV),cs[i]?=c4 c->(u i).oneCell'=true)
  (hv:∀(i:Nat) (c:PV),cs[i]?=c4 c->VI F w c (u i)):VI F w (.dw cs j) (.pointer (c4 ⟨b,off+j,c6⟩))
 |eX (sz:Nat) (a:Option Addr) (cap:Nat):VI F w (.vs sz []) (.slice a 0 cap)
 |vs (sz:Nat) (es:List PV) (b off cap:Nat) (u:Nat->Nat->Value) (hl:es.length<=cap) (hF:F b)
  (hsz:∀(i:Nat) (e:PV),es[i]?=c4 e->e.cells.length=sz)
  (hc:∀(i j:Nat) (c:PV),abk es i j=c4 c->w.cell? ⟨b,off+(i*sz+j),c6⟩=c4 (u i j))
  (h1:∀(i j:Nat) (c:PV),abk es i j=c4 c->(u i j).oneCell'=true)
  (hv:∀(i j:Nat) (c:PV),abk es i j=c4 c->VI F w c (u i j)):VI F w (.vs sz es) (.slice (c4 ⟨b,off,c6⟩) es.length cap)
 |agg (cs:List PV) (xs:List Value) (hl:cs.length=xs.length) (hv:∀(i:Nat) (c:PV) (x:Value),cs[i]?=c4 c->xs[i]?=c4 x->VI F w c x):VI F w (.agg cs) (.agg xs.toArray)
 |bu (cs:List PV) (xs:List Value) (hl:cs.length=xs.length) (hv:∀(i:Nat) (c:PV) (x:Value),cs[i]?=c4 c->xs[i]?=c4 x->VI F w c x):VI F w (.bu cs) (.tuple xs.toArray)
 |fn (f:Nat) (cs ds:List PV) (xs ys:List Value) (hl:cs.length=xs.length) (hv:∀(i:Nat) (c:PV) (x:Value),cs[i]?=c4 c->xs[i]?=c4 x->VI F w c x)
  (hl2:ds.length=ys.length) (hv2:∀(i:Nat) (c:PV) (x:Value),ds[i]?=c4 c->ys[i]?=c4 x->VI F w c x):VI F w (.fn f cs ds) (.func (.func f) xs.toArray ys.toArray)
def SL(g:Gh)(e:aO)(r c len:Nat)(d:Value):Prop:=
 c+len<=e.es.length/\
 match g.β r with
 |none=>c=0/\len=0/\∃a,d= .slice a 0 0
 |some (b,f)=>∃cap a,d= .slice a len cap/\len<=cap/\(len≠0->a=c4 ⟨b,c*e.sz,c6⟩)/\(c=0->a=c4 ⟨b,0,c6⟩/\cap=f)
inductive VR (g:Gh) (H:List aO) (w:World):PV->Value->Prop
 |aW {c:PV} {x:Value} (h:VI g.F w c x):VR g H w c x
 |ptr (r v i j:Nat) (o:aO) (a:Addr) (ho:H[r]?=c4 o) (hv:v<=o.aF)
  (ha:v=o.aF->i<o.es.length/\∃b C,g.β r=c4 (b,C)/\a=⟨b,i*o.sz+j,c6⟩):VR g H w (.ptr r v i j) (.pointer (c4 a))
 |sl (r v off len:Nat) (o:aO) (x:Value) (ho:H[r]?=c4 o) (hv:v<=o.aF) (h1:x.oneCell'=true) (hx:v=o.aF->SL g o r off len x):VR g H w (.sl r v off len) x
 |fl (r v:Nat) (o:aO) (x:Value) (ho:H[r]?=c4 o) (hv:v<=o.aF) (h1:x.oneCell'=true) (hx:v=o.aF->SL g o r 0 o.es.length x):VR g H w (.fl r v) x
 |agg (cs:List PV) (xs:List Value) (hl:cs.length=xs.length) (hv:∀(i:Nat) (c:PV) (x:Value),cs[i]?=c4 c->xs[i]?=c4 x->VR g H w c x):VR g H w (.agg cs) (.agg xs.toArray)
 |bu (cs:List PV) (xs:List Value) (hl:cs.length=xs.length) (hv:∀(i:Nat) (c:PV) (x:Value),cs[i]?=c4 c->xs[i]?=c4 x->VR g H w c x):VR g H w (.bu cs) (.tuple xs.toArray)
 |fn (f:Nat) (cs ds:List PV) (xs ys:List Value) (hl:cs.length=xs.length) (hv:∀(i:Nat) (c:PV) (x:Value),cs[i]?=c4 c->xs[i]?=c4 x->VR g H w c x)
  (hl2:ds.length=ys.length) (hv2:∀(i:Nat) (c:PV) (x:Value),ds[i]?=c4 c->ys[i]?=c4 x->VR g H w c x):VR g H w (.fn f cs ds) (.func (.func f) xs.toArray ys.toArray)
inductive cE (n:Nat):PV->Prop
 |any:cE n .any
 |bool (b:Bool):cE n (.bool b)
 |int (k:IntKind) (m:Int):cE n (.int k m)
 |str (s:ByteArray):cE n (.str s)
 |fS:cE n .fS
 |bg:cE n .bg
 |z0:cE n .z0
 |dB:cE n .dB
 |dw (cs:List PV) (j:Nat):cE n (.dw cs j)
 |vs (sz:Nat) (es:List PV):cE n (.vs sz es)
 |ptr (r v i j:Nat) (h:r<n):cE n (.ptr r v i j)
 |sl (r v off len:Nat) (h:r<n):cE n (.sl r v off len)
 |fl (r v:Nat) (h:r<n):cE n (.fl r v)
 |agg (cs:List PV) (h:∀c,c∈cs->cE n c):cE n (.agg cs)
 |bu (cs:List PV) (h:∀c,c∈cs->cE n c):cE n (.bu cs)
 |fn (f:Nat) (cs ds:List PV) (h:∀c,c∈cs->cE n c) (h2:∀c,c∈ds->cE n c):cE n (.fn f cs ds)
structure qT (g:Gh) (H:List aO) (w:World) (r:Nat) (o:aO):Prop where
 pos:0<o.sz
 width:∀(i:Nat) (e:PV),o.es[i]?=c4 e->e.cells.length=o.sz
 mem:match g.β r with
  |none=>o.es=[]
  |some (b,C)=>¬g.F b/\∃cells,w.heap[b]?=c4 (.cells cells o.ty (0,0))/\cells.size=C*o.sz/\C<=maxLen/\o.es.length<=C/\
   ∀(i j:Nat) (c:PV),abk o.es i j=c4 c->∃u,cells[i*o.sz+j]?=c4 u/\u.oneCell'=true/\VR g H w c u
structure bF (g:Gh) (H:List aO) (w:World):Prop where
 fb:∀b,g.F b->b<w.heap.size
 inj:∀r r' b C C',g.β r=c4 (b,C)->g.β r'=c4 (b,C')->r=r'
 m8:∀r b C,g.β r=c4 (b,C)->r<H.length
 obj:∀r o,H[r]?=c4 o->qT g H w r o
abbrev Env:=List (Nat×PV)
def look:Env->Nat->PV
 |[],_=>.any
 |(b,v)::r,a=>bif e4 b a then v else look r a
def jq:Value->PV
 | .bool b=>.bool b
 | .int d a=>.int d a
 | .string c=>.str c
 | .pointer c6=>.fS
 | .slice c6 0 0=>.bg
 | .nilFunc=>.dB
 |_=>.any
def kP:Value->PV
 | .agg a=>.agg (a.toList.map jq)
 |v=>jq v
def PE(a:Env):Operand->PV
 | .tmp b=>look a b
 | .const v=>kP v
 | .global _=>.any
 | .func f=>.fn f [] []
structure fI (g:Gh) (H:List aO) (w:World) (nt:Nat) (E:Env) (a:Act):Prop where
 defers:a.defers=[]
 size:a.tmps.size=nt
 at_:∀t,VR g H w (look E t) (a.tmps.getD t undef)
structure Rel (g:Gh) (nt:Nat) (E:Env) (H:List aO) (a:Act) (w:World):Prop where
 m:bF g H w
 e:fI g H w nt E a
structure GStep (n:Nat) (g:Gh) (H:List aO) (w:World) (g':Gh) (H':List aO) (w':World):Prop where
 os:w'.os=w.os
 tape:w'.tape=w.tape
 output:w'.output=w.output
 size:w.heap.size<=w'.heap.size
 F:∀b,g.F b->g'.F b
 jh:∀b,g.F b->w'.heap[b]?=w.heap[b]?
 rest:∀b,b<w.heap.size->(∀r C,g.β r≠c4 (b,C))->w'.heap[b]?=w.heap[b]?
 oY:∀b,g'.F b->g.F b\/w.heap.size<=b\/∃r C,g.β r=c4 (b,C)
 oZ:∀r b C,g'.β r=c4 (b,C)->w.heap.size<=b\/∃r' C',g.β r'=c4 (b,C')
 dF:∀r o,r<n->H[r]?=c4 o->∃o',H'[r]?=c4 o'/\o.aF<=o'.aF/\(o'.aF=o.aF->o'.sz=o.sz/\o'.es.length=o.es.length/\g'.β r=g.β r)
def GStep.refl(n:Nat)(g:Gh)(H:List aO)(w:World):GStep n g H w g H w:=
 ⟨rfl,rfl,rfl,ef _,λ_ h=>h,λ_ _=>rfl,λ_ _ _=>rfl,λ_ h=>.inl h,λr _ C h=>.inr ⟨r,C,h⟩,λ_ a _ h=>⟨a,h,ef _,λ_=>⟨rfl,rfl,rfl⟩⟩⟩
def GStep.trans{n:Nat}{g m o:Gh}{H A t:List aO}{w w' x:World}(h:GStep n g H w m A w')(k:GStep n m A w' o t x):GStep n g H w o t x:=by
 refine⟨k.os.trans h.os,k.tape.trans h.tape,k.output.trans h.output,hq h.size k.size,λb c=>k.F b (h.F b c),λb c=>(k.jh b (h.F b c)).trans (h.jh b c),λb c y=>?_,λb c=>?_,λr b C c=>?_,?_⟩
 .refine(k.rest b (l4 c h.size) λr C R=>?_).trans (h.rest b c y)
  rcases h.oZ r b C R with a |⟨j,e,a⟩
  .omega
  .exact y _ _ a
 .rcases k.oY b c with a |a |⟨r,C,a⟩
  .exact h.oY b a
  .exact .inr (.inl (hq h.size a))
  .exact .inr (h.oZ r b C a)
 .rcases k.oZ r b C c with a |⟨j,e,a⟩
  .exact .inl (hq h.size a)
  .exact h.oZ j b e a
 intro r l s J;obtain⟨d,L,P,N⟩:=h.dF r l s J;obtain⟨u,K,F,D⟩:=k.dF r d s L;refine⟨u,K,hq P F,λhe=>?_⟩
 have O:d.aF=l.aF:=by omega
 have I:u.aF=d.aF:=by omega
 obtain⟨a1,Q,G⟩:=N O;obtain⟨B,M,E⟩:=D I;exact⟨B.trans a1,M.trans Q,E.trans G⟩
def GStep.less{n m:Nat}{g c:Gh}{H a:List aO}{w w':World}(h:GStep n g H w c a w')(j:m<=n):GStep m g H w c a w':=
 ⟨h.os,h.tape,h.output,h.size,h.F,h.jh,h.rest,h.oY,h.oZ,λr e k d=>h.dF r e (by omega) d⟩
def GStep.every{n:Nat}{g a:Gh}{H c:List aO}{w w':World}(h:GStep H.length g H w a c w'):GStep n g H w a c w':=
 ⟨h.os,h.tape,h.output,h.size,h.F,h.jh,h.rest,h.oY,h.oZ,λr e _ d=>h.dF r e (c7.1 d).1 d⟩
def oW{e:Nat->Prop}{f d:World}(g:∀b,e b->d.heap[b]?=f.heap[b]?){b c:Nat}(h:e b):d.cell? ⟨b,c,c6⟩=f.cell? ⟨b,c,c6⟩:=
 World.cell?_of_block (a:=⟨b,c,c6⟩) (g b h)
def VI.mono{F D:Nat->Prop}{w B:World}(E:∀b,F b->D b)(C:∀b,F b->B.heap[b]?=w.heap[b]?){c:PV}{x:Value}(h:VI F w c x):VI D B c x:=by
 induction h with
 |any x=>exact .any x
 |bool b=>exact .bool b
 |int k n=>exact .int k n
 |str s=>exact .str s
 |fS=>exact .fS
 |bg=>exact .bg
 |z0 a=>exact .z0 a
 |dB=>exact .dB
 |dw e t b off y l A u o d=>exact .dw e t b off y (E b l) (λi c hi=>(oW C l).trans (A i c hi)) u d
 |eX sz a cap=>exact .eX sz a cap
 |vs sz es b off cap y j l I A u o d=>exact .vs sz es b off cap y j (E b l) I (λi t c hi=>(oW C l).trans (A i t c hi)) u d
 |agg e m j o d=>exact .agg e m j d
 |bu e m j o d=>exact .bu e m j d
 |fn f e H m K j o G L d J=>exact .fn f e H m K j d G J
def SL.step{g d:Gh}{a c:aO}{r off len:Nat}{x:Value}(h:SL g a r off len x)(k:c.sz=a.sz)(e:c.es.length=a.es.length)(j:d.β r=g.β r):SL d c r off len x:=by
 unfold SL at*;rw[k,e,j];exact h
def VR.step{n:Nat}{g g':Gh}{H O:List aO}{w N:World}(J:GStep n g H w g' O N){c:PV}{x:Value}(h:VR g H w c x)(l:cE n c):VR g' O N c x:=by
 induction h with
 |aW h=>exact .aW (h.mono J.F J.jh)
 |ptr r v i Q m a B k X=>
  cases l with
  |ptr _ _ _ _ F=>
   obtain⟨o,I,s,t⟩:=J.dF r m F B;refine .ptr r v i Q o a I (hq k s) λe=>?_
   have V:o.aF=m.aF:=by omega
   obtain⟨u,L,A⟩:=t V;obtain⟨hi,b,C,P,rfl⟩:=X (by omega);exact⟨by omega,b,C,A.trans P,by rw[u]⟩
 |sl r v off len m x B k M d=>
  cases l with
  |sl _ _ _ _ F=>
   obtain⟨o,I,s,t⟩:=J.dF r m F B;refine .sl r v off len o x I (hq k s) M λe=>?_
   obtain⟨u,L,A⟩:=t (by omega);exact(d (by omega)).step u L A
 |fl r v m x B k M d=>
  cases l with
  |fl _ _ F=>
   obtain⟨o,I,s,t⟩:=J.dF r m F B;refine .fl r v o x I (hq k s) M λe=>?_
   obtain⟨u,L,A⟩:=t (by omega);rw[L];exact(d (by omega)).step u L A
 |agg y G D k K=>
  cases l with
  |agg _ E=>exact .agg y G D λi c x j d=>K i c x j d (E c (dT j))
 |bu y G D k K=>
  cases l with
  |bu _ E=>exact .bu y G D λi c x j d=>K i c x j d (E c (dT j))
 |fn f y T G W D k R Y K U=>
  cases l with
  |fn _ _ _ E S=>exact .fn f y T G W D (λi c x j d=>K i c x j d (E c (dT j))) R (λi c x j d=>U i c x j d (S c (dT j)))
def VR.ltN{g:Gh}{H:List aO}{w:World}{c:PV}{x:Value}(h:VR g H w c x):cE H.length c:=by
 induction h with
 |aW h=>
  induction h with
  |any x=>exact .any
  |bool b=>exact .bool b
  |int k n=>exact .int k n
  |str s=>exact .str s
  |fS=>exact .fS
  |bg=>exact .bg
  |z0 a=>exact .z0
  |dB=>exact .dB
  |dw e u b off I D d y l j=>exact .dw e u
  |eX sz a cap=>exact .vs sz []
  |vs sz es b off cap I m D K d y l j=>exact .vs sz es
  |agg e t m l j=>
   refine .agg e λc d=>?_
   obtain⟨i,hi,rfl⟩:=ej d;exact j i _ _ (c5 hi) (c5 (by omega))
  |bu e t m l j=>
   refine .bu e λc d=>?_
   obtain⟨i,hi,rfl⟩:=ej d;exact j i _ _ (c5 hi) (c5 (by omega))
  |fn f e A t J m l F E j B=>
   refine .fn f e A (λc d=>?_) (λc d=>?_)
   .obtain⟨i,hi,rfl⟩:=ej d;exact j i _ _ (c5 hi) (c5 (by omega))
   .obtain⟨i,hi,rfl⟩:=ej d;exact B i _ _ (c5 hi) (c5 (by omega))
 |ptr r v i u C a o l L=>exact .ptr r v i u (c7.1 o).1
 |sl r v off len C x o l y G=>exact .sl r v off len (c7.1 o).1
 |fl r v C x o l y G=>exact .fl r v (c7.1 o).1
 |agg e t m l j=>
  refine .agg e λc d=>?_
  obtain⟨i,hi,rfl⟩:=ej d;exact j i _ _ (c5 hi) (c5 (by omega))
 |bu e t m l j=>
  refine .bu e λc d=>?_
  obtain⟨i,hi,rfl⟩:=ej d;exact j i _ _ (c5 hi) (c5 (by omega))
 |fn f e A t J m l F E j B=>
  refine .fn f e A (λc d=>?_) (λc d=>?_)
  .obtain⟨i,hi,rfl⟩:=ej d;exact j i _ _ (c5 hi) (c5 (by omega))
  .obtain⟨i,hi,rfl⟩:=ej d;exact B i _ _ (c5 hi) (c5 (by omega))
def VR.nZ{g g':Gh}{H d:List aO}{w a:World}(e:GStep H.length g H w g' d a){c:PV}{x:Value}(h:VR g H w c x):VR g' d a c x:=h.step e h.ltN
def fI.step{g j:Gh}{H d:List aO}{w c:World}{e:Nat}{E:Env}{a:Act}(k:GStep H.length g H w j d c)(h:fI g H w e E a):fI j d c e E a:=
 ⟨h.defers,h.size,λt=>(h.at_ t).nZ k⟩
def VR.any{g:Gh}{H:List aO}{w:World}(x:Value):VR g H w .any x:=.aW (.any x)
def KQ(a:Nat->Prop)(b:World)(v:Value):VI a b (jq v) v:=by
 unfold jq
 split <;> first |exact .bool _ |exact .int _ _ |exact .str _ |exact .fS |exact .bg |exact .dB |exact .any _
def AE(F:Nat->Prop)(w:World)(v:Value):VI F w (kP v) v:=by
 unfold kP
 split
 .rename_i b;have:=VI.agg (F:=F) (w:=w) (b.toList.map jq) b.toList (by simp) (λi e c a d=>by
   rw[e6,d] at a;simp at a;subst a;exact KQ F w c)
  simpa using this
 .exact KQ F w v
def fI.eval{g:Gh}{H:List aO}{w:World}{c:Nat}{E:Env}{a:Act}(h:fI g H w c E a)(x:Operand):VR g H w (PE E x) (a.eval x):=by
 cases x with
 |tmp t=>exact h.at_ t
 |const v=>exact .aW (AE _ _ _)
 |global b=>exact .any _
 |func f=>exact .aW (.fn f [] [] [] [] rfl (λ_ _ _ h=>by simp at h) rfl (λ_ _ _ h=>by simp at h))
def ni(a:Nat)(v:PV)(b:Env):look ((a,v)::b) a=v:=by simp[look]
def Ar{b a:Nat}(v:PV)(c:Env)(d:b≠a):look ((b,v)::c) a=look c a:=by
 have:e4 b a=false:=by
  cases e:e4 b a with
  |false=>rfl
  |true=>exact absurd (h5 e) d
 simp[look,this]
def fI.put{g:Gh}{H:List aO}{w:World}{c:Nat}{E:Env}{a:Act}(h:fI g H w c E a){d:Nat}(e:d<c){v:PV}{x:Value}(j:VR g H w v x):fI g H w c ((d,v)::E) (a.put (c4 d) x):=by
 refine⟨h.defers,by simp[r4,h.size],λt=>?_⟩
 by_cases ht:d=t
 .subst ht;rw[ni];have k:d<a.tmps.size:=by rw[h.size];exact e
  simpa[r4,k] using j
 .rw[Ar v E ht];have:=h.at_ t;simpa[r4,Array.getElem?_setIfInBounds_ne ht] using this
def li(a:Env):Option Nat->PV->Env
 |some b,v=>(b,v)::a
 |none,_=>a
def fL(b:Nat):Option Nat->Bool
 |some a=>m1 a b
 |none=>true
def fI.tn{g:Gh}{H:List aO}{w:World}{c:Nat}{E:Env}{a:Act}(h:fI g H w c E a){d:Option Nat}(e:fL c d=true){v:PV}{x:Value}(j:VR g H w v x):fI g H w c (li E d v) (a.put d x):=by
 cases d with
 |none=>exact h
 |some d=>exact h.put (by simpa[fL] using e) j
def vo:Env->Env->Prop
 |[],_=>True
 |(b,v)::r,a=>look a b=v/\vo r a
def vo.look{a E:Env}(h:vo a E)(t:Nat):look a t= .any\/look a t=look E t:=by
 induction a with
 |nil=>exact .inl rfl
 |cons p r e=>
  obtain⟨d,v⟩:=p
  by_cases c:d=t
  .subst c;rw[ni];exact .inr h.1.symm
  .rw[Ar v r c];exact e h.2
def fI.sub{g:Gh}{H:List aO}{w:World}{c:Nat}{E d:Env}{a:Act}(h:fI g H w c E a)(j:vo d E):fI g H w c d a:=
 ⟨h.defers,h.size,λt=>by
  rcases j.look t with e |e
  .rw[e];exact .any _
  .rw[e];exact h.at_ t⟩
abbrev qk:=Env->List aO->Prop
abbrev fE:=Exit->qk
def iX(nt n:Nat)(c:Gh)(H0:List aO)(d:World)(b:qk)(e:Act)(a:World):Prop:=
 ∃E H g,b E H/\Rel g nt E H e a/\GStep n c H0 d g H a
def eI(nt n:Nat)(c:Gh)(H0:List aO)(d:World)(Q:fE):Exit->Act->World->Prop
 | .panic _,_,_=>False
 | .outgrown,_,_=>False
 | .normal,a,b=>iX nt n c H0 d (Q .normal) a b
 | .ret,a,b=>iX nt n c H0 d (Q .ret) a b
 | .exit e,a,b=>iX nt n c H0 d (Q (.exit e)) a b
 | .goto f,a,b=>iX nt n c H0 d (Q (.goto f)) a b
def iX.trans{nt n:Nat}{j e:Gh}{H0 H1:List aO}{k c:World}{d:qk}{a:Act}{w:World}(s:GStep n j H0 k e H1 c)(h:iX nt n e H1 c d a w):iX nt n j H0 k d a w:=by
 obtain⟨E,H,g,m,o,l⟩:=h;exact⟨E,H,g,m,o,s.trans l⟩
def eI.trans{nt n:Nat}{j d:Gh}{H0 H1:List aO}{k c:World}{Q:fE}{e:Exit}{a:Act}{w:World}(l:GStep n j H0 k d H1 c)(h:eI nt n d H1 c Q e a w):eI nt n j H0 k Q e a w:=by
 cases e <;> first |exact iX.trans l h |exact h
def iX.mono{nt n:Nat}{d:Gh}{H0:List aO}{e:World}{c j:qk}{a:Act}{w:World}(m:∀E H,c E H->j E H)(h:iX nt n d H0 e c a w):iX nt n d H0 e j a w:=by
 obtain⟨E,H,g,l,o,k⟩:=h;exact⟨E,H,g,m _ _ l,o,k⟩
def eT(P:Program)(nt n:Nat)(h:Code)(Q:fE)(E:Env)(H:List aO):Prop:=
 ∀g e a,Rel g nt E H e a->∀c:Exit->Act->World->Prop,(∀f d b,eI nt n g H a Q f d b->c f d b)->h.wp P c e a
def gp(P:Program)(nt n:Nat)(h:Array Oper)(i:List Oper)(Q:fE)(E:Env)(H:List aO):Prop:=
 ∀g e a,Rel g nt E H e a->∀c:Exit->Act->World->Prop,(∀f d b,eI nt n g H a Q f d b->c f d b)->wpList P h c i e a
@[reducible] def Ce(b:qk)(Q:fE):fE
 | .normal=>b
 | .exit a=>Q (.exit a)
 | .goto c=>Q (.goto c)
 | .ret=>Q .ret
 | .panic d=>Q (.panic d)
 | .outgrown=>Q .outgrown
@[reducible] def EY(b:Nat)(Q:fE):fE
 | .exit a=>bif e4 a b then Q .normal else Q (.exit a)
 | .normal=>Q .normal
 | .goto c=>Q (.goto c)
 | .ret=>Q .ret
 | .panic d=>Q (.panic d)
 | .outgrown=>Q .outgrown
section
variable {P:Program}{nt n:Nat}{Q:fE}{E:Env}{H:List aO}
def eT.mono{c:Code}{d:fE}(k:∀e E H,Q e E H->d e E H)(h:eT P nt n c Q E H):eT P nt n c d E H:=
 λg a w s m t=>h g a w s m λe o l j=>t e o l (by cases e <;> first |exact iX.mono (k _) j |exact j)
def rN{d e:Code}(t:eT P nt n d (Ce (eT P nt n e Q) Q) E H):eT P nt n (.seq d e) Q E H:=by
 intro g i u q p b;refine wp_seq (t g i u q _ ?_)
 intro c l h a;cases c with
 |normal=>
  obtain⟨v,y,m,k,o,j⟩:=a;exact k m l h o p λc f s r=>b c f s (eI.trans j r)
 |exit w=>exact b _ _ _ a
 |goto z=>exact b _ _ _ a
 |ret=>exact b _ _ _ a
 |panic x=>exact a.elim
 |outgrown=>exact a.elim
def amF(b:Q .normal E H):eT P nt n .skip Q E H:=
 λg _ _ c _ a=>wp_skip (a .normal _ _ ⟨E,H,g,b,c,GStep.refl _ _ _ _⟩)
def apz(b:Q .ret E H):eT P nt n .ret Q E H:=
 λg _ _ c _ a=>wp_ret (a .ret _ _ ⟨E,H,g,b,c,GStep.refl _ _ _ _⟩)
def V4{a:Nat}(c:Q (.exit a) E H):eT P nt n (.exit a) Q E H:=
 λg _ _ d _ b=>wp_exit (b (.exit a) _ _ ⟨E,H,g,c,d,GStep.refl _ _ _ _⟩)
def agH{b:Nat}(c:Q .normal E H):eT P nt n (.label b) Q E H:=
 λg _ _ d _ a=>wp_label (a .normal _ _ ⟨E,H,g,c,d,GStep.refl _ _ _ _⟩)
def aht{c:Code}(a:Env)(h:vo a E)(d:eT P nt n c Q a H):eT P nt n c Q E H:=
 λg f j b e i=>d g f j ⟨b.m,b.e.sub h⟩ e i
def Ta{b:Nat}{f:Code}(l:eT P nt n f (EY b Q) E H):eT P nt n (.block b f) Q E H:=by
 intro g m o k q d;refine wp_block (l g m o k _ ?_)
 intro i r p a;cases i with
 |exit c=>
  simp only[eI,EY] at a
  by_cases e:c=b
  .have h:e4 c b=true:=by rw[e];exact k7 b
   rw[h] at a;simp only[qa,e,if_true];exact d .normal _ _ a
  .have h:e4 c b=false:=by
    cases j:e4 c b with
    |false=>rfl
    |true=>exact absurd (h5 j) e
   rw[h] at a;simp only[qa,e,if_false];exact d (.exit c) _ _ a
 |normal=>exact d _ _ _ a
 |goto s=>exact d _ _ _ a
 |ret=>exact d _ _ _ a
 |panic f=>exact a.elim
 |outgrown=>exact a.elim
def adk{a:Operand}{i h:Code}{b:Bool}(r:PE E a= .bool b)(q:b=true->eT P nt n i Q E H)(m:b=false->eT P nt n h Q E H):eT P nt n (.cond a i h) Q E H:=by
 intro g c l f j k;have e:=f.e.eval a;rw[r] at e;have o:c.eval a= .bool b:=by
  generalize c.eval a=z at e;cases e with
  |aW p=>cases p;rfl
 exact wp_cond_split o (λd=>q d g c l f j k) (λd=>m d g c l f j k)
def Lc{id:Nat}{a:List Oper}(b:gp P nt n a.toArray a Q E H):eT P nt n (.region id a.toArray false) Q E H:=
 λg e h d c f=>wp_region_lit (b g e h d c f)
def Of{a:Array Oper}(b:Q .normal E H):gp P nt n a [] Q E H:=
 λg d f c _ e=>wpList_nil (e .normal d f ⟨E,H,g,b,c,GStep.refl _ _ _ _⟩)
def Hk(P:Program)(nt n:Nat)(i:Oper)(f:qk)(E:Env)(H:List aO):Prop:=
 ∀g e a,Rel g nt E H e a->∀(d:Act->World->Prop) (h:Exit->Act->World->Prop),(∀c b,iX nt n g H a f c b->d c b)->i.wp P e a d h
def KR{h:Array Oper}{i:List Oper}{c:Oper}{K:qk}(l:c.guard=c6)(x:Hk P nt n c K E H)(p:∀a b,K a b->gp P nt n h i Q a b):gp P nt n h (c::i) Q E H:=by
 intro g k A v f m;refine wpList_plain l λy t=>x g k A v y f ?_
 rintro e d ⟨a,b,r,q,s,o⟩;exact t e d (p a b q r e d s f λz j w u=>m z j w (eI.trans o u))
def cM(P:Program)(d:Oper)(E:Env)(H:List aO)(v:PV):Prop:=
 ∀g nt b a,Rel g nt E H b a->∃c,(execOp b.eval d).run P a= .ok (.value c) a/\VR g H a v c
def aiu{a:Oper}{v:PV}(c:fL nt a.dst=true)(f:cM P a E H v):Hk P nt n a (λd i=>d=li E a.dst v/\i=H) E H:=by
 intro g j k b p o h;obtain⟨m,l,e⟩:=f g nt j k b;unfold n0;rw[l];exact h _ _ ⟨_,H,g,⟨rfl,rfl⟩,⟨b.m,b.e.tn c e⟩,GStep.refl _ _ _ _⟩
def aae{d:Array Oper}{f:List Oper}{a:Option Nat}{c:Op}{e:TypeId}{b:String}{g:Array Edge}{v:PV}(j:cM P ⟨a,c,e,b,g,c6⟩ E H v)(h:fL nt a=true)
 (i:gp P nt n d f Q (li E a v) H):gp P nt n d (⟨a,c,e,b,g,c6⟩::f) Q E H:=
 KR rfl (aiu h j) (by rintro k l ⟨rfl,rfl⟩;exact i)
def Sk{d:Array Oper}{s:List Oper}{f:Option Nat}{o:Op}{m:TypeId}{p:String}{l:Array Edge}{e:Nat}{h b:Bool}{a:Nat}
 (F:(d[e]?).bind (·.dst)=c4 a) (v:look E a= .bool b) (w:b≠h) (u:fL nt f=true)
 (y:gp P nt n d s Q (li E f (.bu [])) H):gp P nt n d (⟨f,o,m,p,l,c4 (e,h)⟩::s) Q E H:=by
 intro g c G i C x;have q:=i.e.at_ a;rw[v] at q;have j:c.tmps.getD a undef= .bool b:=by
  cases q with
  |aW r=>generalize c.tmps.getD a undef=z at r;cases r;rfl
 have D:yielded d c.tmps e=c4 b:=by
  unfold yielded;rw[F];simp only[hU];rcases oq a c.tmps.size with k |t
  .simp[k] at j;simp[k,j]
  .simp[k8 t,undef] at j
 refine wpList_step λI A=>?_
 have B:ih (⟨f,o,m,p,l,c4 (e,h)⟩:Oper) (yielded d c.tmps)=false:=by
  simp[ih,D];exact w
 rw[B];simp only[oj,if_false];exact A _ _ (y g _ G ⟨i.m,i.e.tn u (.aW (.bu [] [] rfl (by simp)))⟩ C x)
def MO{c:Array Oper}{s:List Oper}{e:Option Nat}{p:Op}{o:TypeId}{q:String}{m:Array Edge}{d:Nat}{l:Bool}{a:Nat}
 (F:(c[d]?).bind (·.dst)=c4 a) (v:look E a= .bu []) (u:fL nt e=true)
 (x:gp P nt n c s Q (li E e (.bu [])) H):gp P nt n c (⟨e,p,o,q,m,c4 (d,l)⟩::s) Q E H:=by
 intro g b G h B w;have j:=h.e.at_ a;rw[v] at j;have r:b.tmps.getD a undef= .tuple #[]:=by
  generalize b.tmps.getD a undef=z at j;cases j with
  |aW D=>
   cases D with
   |bu _ i f _=>
    have:i=[]:=e5 (by rw[<-f];rfl);rw[this]
  |bu _ i f _=>
   have:i=[]:=e5 (by rw[<-f];rfl);rw[this]
 have C:yielded c b.tmps d=c6:=by
  unfold yielded;rw[F];simp only[hU];rcases oq a b.tmps.size with k |t
  .simp[k] at r;simp[k,r]
  .simp[k8 t]
 refine wpList_step λI y=>?_
 have A:ih (⟨e,p,o,q,m,c4 (d,l)⟩:Oper) (yielded c b.tmps)=false:=by
  simp[ih,C]
 rw[A];simp only[oj,if_false];exact y _ _ (x g _ G ⟨h.m,h.e.tn u (.aW (.bu [] [] rfl (by simp)))⟩ B w)
def S7{d:Array Oper}{r:List Oper}{h:Option Nat}{j:Op}{i:TypeId}{k:String}{f:Array Edge}{e:Nat}{c:Bool}{b:Nat}
 (A:(d[e]?).bind (·.dst)=c4 b) (t:look E b= .bool c)
 (v:gp P nt n d (⟨h,j,i,k,f,c6⟩::r) Q E H):gp P nt n d (⟨h,j,i,k,f,c4 (e,c)⟩::r) Q E H:=by
 intro g a B o x u;have p:=o.e.at_ b;rw[t] at p;have l:a.tmps.getD b undef= .bool c:=by
  cases p with
  |aW q=>generalize a.tmps.getD b undef=z at q;cases q;rfl
 have y:yielded d a.tmps e=c4 c:=by
  unfold yielded;rw[A];simp only[hU];rcases oq b a.tmps.size with m |s
  .simp[m] at l;simp[m,l]
  .simp[k8 s,undef] at l
 have w:ih (⟨h,j,i,k,f,c4 (e,c)⟩:Oper) (yielded d a.tmps)=true:=by
  simp[ih,y]
 have:=v g a B o x u;unfold wpList at this⊢;rw[w];simp only[ih,if_true] at this⊢;exact this
def fJ(P:Program)(i:Oper)(E:Env)(H:List aO)(j:PV->List aO->Prop):Prop:=
 ∀g nt c e,Rel g nt E H c e->∀(h:Act->World->Prop) (k:Exit->Act->World->Prop),
  (∀f a d v b,j v b->VR d b a v f->bF d b a->GStep H.length g H e d b a->h (c.put i.dst f) a)->i.wp P c e h k
def Sz{k:Array Oper}{l:List Oper}{a:Option Nat}{i:Op}{f:TypeId}{j:String}{d:Array Edge}{K:PV->List aO->Prop}(c:fJ P ⟨a,i,f,j,d,c6⟩ E H K)(m:fL nt a=true)
 (p:∀v b,K v b->gp P nt n k l Q (li E a v) b):gp P nt n k (⟨a,i,f,j,d,c6⟩::l) Q E H:=by
 refine KR (K:=λy H1=>∃v,y=li E a v/\K v H1) rfl ?_ (by rintro _ _ ⟨v,rfl,c⟩;exact p _ _ c)
 intro g o z e x t q;refine c g nt o z e x t ?_
 intro B A s v b r w u h;exact q _ _ ⟨_,b,s,⟨v,rfl,r⟩,⟨u,(e.e.step h).tn m w⟩,h.every⟩
end
section
variable {g:Gh}{H:List aO}{w:World}{x:Value}
def VR.n5{b:Bool}(h:VR g H w (.bool b) x):x= .bool b:=by cases h with |aW h=>cases h;rfl
def VR.fQ{k:IntKind}{n:Int}(h:VR g H w (.int k n) x):x= .int k n:=by cases h with |aW h=>cases h;rfl
def VR.pF(h:VR g H w .bg x):x= .slice c6 0 0:=by cases h with |aW h=>cases h;rfl
def VR.rh(h:VR g H w .z0 x):∃a,x= .slice a 0 0:=by cases h with |aW h=>cases h;exact⟨_,rfl⟩
def VR.ky{l:List PV}(h:VR g H w (.agg l) x):∃a:List Value,x= .agg a.toArray/\l.length=a.length/\∀(i:Nat) (c:PV) (y:Value),l[i]?=c4 c->a[i]?=c4 y->VR g H w c y:=by
 cases h with
 |aW h=>cases h with |agg _ a j e=>exact⟨a,rfl,j,λi c y s o=>.aW (e i c y s o)⟩
 |agg _ a j e=>exact⟨a,rfl,j,e⟩
def VR.Db{l:List PV}(h:VR g H w (.bu l) x):∃a:List Value,x= .tuple a.toArray/\l.length=a.length/\∀(i:Nat) (c:PV) (y:Value),l[i]?=c4 c->a[i]?=c4 y->VR g H w c y:=by
 cases h with
 |aW h=>cases h with |bu _ a j e=>exact⟨a,rfl,j,λi c y s o=>.aW (e i c y s o)⟩
 |bu _ a j e=>exact⟨a,rfl,j,e⟩
def VR.bool(b:Bool):VR g H w (.bool b) (.bool b):=.aW (.bool b)
def VR.int(k:IntKind)(n:Int):VR g H w (.int k n) (.int k n):=.aW (.int k n)
end
def dP(P:Program)(t:TypeId):Option Bool:=(P.underlying t).map λ| .struct _ | .array _ _=>true |_=>false
def cH(P:Program)(t:TypeId):Option Nat:=(P.info? t).map (·.size)
def nU(P:Program)(t:TypeId)(f:Nat):Option (TypeId×Nat):=match P.underlying t with |some (.struct a)=>(a[f]?).map λx=>(x.type,x.offset) |_=>c6
def dU(P:Program)(t:TypeId):Option TypeId:=match P.underlying t with |some (.slice a)=>c4 a |_=>c6
def pk(P:Program)(t:TypeId):Option (Nat×TypeId):=match P.underlying t with |some (.array n a)=>c4 (n,a) |_=>c6
def dV(P:Program)(t:TypeId):Option Value:=(P.info? t).bind (·.zero)
def yi(P:Program)(t:TypeId):Option IntKind:=match P.underlying t with |some (.int k)=>c4 k |_=>c6
def sr(P:Program)(t:TypeId):Bool:=match P.underlying t with |some .bool=>true |_=>false
section
variable {P:Program}{w:World}
def o5{t:TypeId}{b:Bool}(a:dP P t=c4 b):(isAgg t).run P w= .ok b w:=by
 unfold dP at a;cases c:P.underlying t with
 |none=>simp[c] at a
 |some d=>
  rw[c] at a;unfold isAgg;rw[gb,run_underlying c];cases d <;> simp at a <;> subst a <;> rfl
def run_sizeOf{t:TypeId}{n:Nat}(a:cH P t=c4 n):(sizeOf t).run P w= .ok n w:=by
 unfold cH at a;cases b:P.info? t with
 |none=>simp[b] at a
 |some i=>
  simp[b] at a;simp[sizeOf,typeInfo,b,a]
def Ey{t:TypeId}{v:Value}(a:dV P t=c4 v):(zeroValue t).run P w= .ok v w:=by
 unfold dV at a;cases b:P.info? t with
 |none=>simp[b] at a
 |some i=>
  simp[b] at a;simp[zeroValue,typeInfo,b,a]
def gD{t a:TypeId}(b:dU P t=c4 a):P.underlying t=c4 (.slice a):=by
 unfold dU at b
 split at b <;> simp_all
def anQ{t:TypeId}{k:IntKind}(a:yi P t=c4 k):P.underlying t=c4 (.int k):=by
 unfold yi at a
 split at a <;> simp_all
def Kn{t a:TypeId}{n:Nat}(b:pk P t=c4 (n,a)):P.underlying t=c4 (.array n a):=by
 unfold pk at b
 split at b <;> simp_all
def aiw{t:TypeId}(a:sr P t=true):P.underlying t=c4 .bool:=by
 unfold sr at a
 split at a <;> simp_all
def E4{t:TypeId}{f:Nat}{h i:Nat}(a:nU P t f=c4 (h,i)):∃(c:Array Field) (b:Field),P.underlying t=c4 (.struct c)/\c[f]?=c4 b/\b.type=h/\b.offset=i:=by
 unfold nU at a
 split at a
 .rename_i c j;cases e:c[f]? with
  |none=>simp[e] at a
  |some b=>
   simp[e] at a;exact⟨c,b,j,e,a.1,a.2⟩
 .simp at a
end
def ek(H:List aO)(r:Nat)(a:aO):Prop:=H[r]?=c4 a
section
variable {P:Program}{E:Env}{H:List aO}{d:Option Nat}{ty:TypeId}{pos:String}{aft:Array Edge}{gd:Option (Nat×Bool)}{x y z:Operand}{t:TypeId}
def Pt:cM P ⟨d,.move x,ty,pos,aft,gd⟩ E H (PE E x):=λ_ _ a _ b=>⟨a.eval x,rfl,b.e.eval x⟩
def aks:cM P ⟨d,.assign x,ty,pos,aft,gd⟩ E H (PE E x):=λ_ _ a _ b=>⟨a.eval x,rfl,b.e.eval x⟩
def aik{v:PV}(a:PE E x=v):cM P ⟨d,.move x,ty,pos,aft,gd⟩ E H v:=a▸Pt
def ak6{v:PV}(a:PE E x=v):cM P ⟨d,.assign x,ty,pos,aft,gd⟩ E H v:=a▸aks
def Zu{b:Bool}(f:PE E z= .bool b):cM P ⟨d,.pick z x y,ty,pos,aft,gd⟩ E H (bif b then PE E x else PE E y):=by
 intro g h c w a;have e:=(f▸a.e.eval z).n5;cases b
 .exact⟨c.eval y,by simp[execOp,e,asBool],a.e.eval y⟩
 .exact⟨c.eval x,by simp[execOp,e,asBool],a.e.eval x⟩
def yw{a:BinOp}{yt:TypeId}{e v:PV}{c b rv:Value}{p:PV}(A:PE E x=e)(l:PE E y=v)(s:∀(g:Gh) (H:List aO) (w:World) (z:Value),VR g H w e z->z=c)(j:∀(g:Gh) (H:List aO) (w:World) (z:Value),VR g H w v z->z=b)
 (u:eqGuard a t x y c b=pure ()) (i:∀w,(binOp a t c b).run P w= .ok rv w) (h:∀(g:Gh) (H:List aO) (w:World),VR g H w p rv):cM P ⟨d,.binOp a t x y yt,ty,pos,aft,gd⟩ E H p:=by
 intro g C B w f;have o:=s _ _ _ _ (A▸f.e.eval x);have q:=j _ _ _ _ (l▸f.e.eval y);exact⟨rv,by simp[execOp,o,q,u,i],h _ _ _⟩
section ints
variable {yt:TypeId}{k:IntKind}{m n r:Int}
def ka{a:BinOp}{rv:Value}{p:PV}(h:PE E x= .int k m)(f:PE E y= .int k n)(e:∀w,(binOp a t (.int k m) (.int k n)).run P w= .ok rv w)(c:∀(g:Gh) (H:List aO) (w:World),VR g H w p rv):
 cM P ⟨d,.binOp a t x y yt,ty,pos,aft,gd⟩ E H p:=
 yw h f (λ_ _ _ _ b=>b.fQ) (λ_ _ _ _ b=>b.fQ) (eqGuard_at_int a t x y _ k m) e c
def Vz(c:PE E x= .int k m)(b:PE E y= .int k n)(a:k.wrap (m+n)=r):cM P ⟨d,.binOp .add t x y yt,ty,pos,aft,gd⟩ E H (.int k r):=
 ka c b (λw=>by simp[binOp,o4,a]) λ_ _ _=>.int k r
def Zh(c:PE E x= .int k m)(b:PE E y= .int k n)(a:k.wrap (m -n)=r):cM P ⟨d,.binOp .sub t x y yt,ty,pos,aft,gd⟩ E H (.int k r):=
 ka c b (λw=>by simp[binOp,o4,a]) λ_ _ _=>.int k r
def acd(c:PE E x= .int k m)(b:PE E y= .int k n)(a:k.wrap (m*n)=r):cM P ⟨d,.binOp .mul t x y yt,ty,pos,aft,gd⟩ E H (.int k r):=
 ka c b (λw=>by simp[binOp,o4,a]) λ_ _ _=>.int k r
def ae6(c:PE E x= .int k m)(b:PE E y= .int k n)(h0:n≠0)(a:k.wrap (m.tdiv n)=r):cM P ⟨d,.binOp .quo t x y yt,ty,pos,aft,gd⟩ E H (.int k r):=
 ka c b (λw=>by simp[binOp,Op.intDiv,h0,a]) λ_ _ _=>.int k r
def ahN(c:PE E x= .int k m)(b:PE E y= .int k n)(h0:n≠0)(a:m.tmod n=r):cM P ⟨d,.binOp .rem t x y yt,ty,pos,aft,gd⟩ E H (.int k r):=
 ka c b (λw=>by simp[binOp,Op.intDiv,h0,a]) λ_ _ _=>.int k r
def akz(c:PE E x= .int k m)(b:PE E y= .int k n)(a:bits .and k m n=r):cM P ⟨d,.binOp .and t x y yt,ty,pos,aft,gd⟩ E H (.int k r):=
 ka c b (λw=>by rw[binOp_and,intBits_and,a];rfl) λ_ _ _=>.int k r
def YI(c:PE E x= .int k m)(b:PE E y= .int k n)(a:bits .or k m n=r):cM P ⟨d,.binOp .or t x y yt,ty,pos,aft,gd⟩ E H (.int k r):=
 ka c b (λw=>by rw[binOp_or,intBits_or,a];rfl) λ_ _ _=>.int k r
def abR(c:PE E x= .int k m)(b:PE E y= .int k n)(a:bits .xor k m n=r):cM P ⟨d,.binOp .xor t x y yt,ty,pos,aft,gd⟩ E H (.int k r):=
 ka c b (λw=>by rw[binOp_xor,intBits_xor,a];rfl) λ_ _ _=>.int k r
def aeA(c:PE E x= .int k m)(b:PE E y= .int k n)(a:bits .andNot k m n=r):cM P ⟨d,.binOp .andNot t x y yt,ty,pos,aft,gd⟩ E H (.int k r):=
 ka c b (λw=>by rw[binOp_andNot,intBits_andNot,a];rfl) λ_ _ _=>.int k r
def ahs(b:PE E x= .int k m)(a:PE E y= .int k n):cM P ⟨d,.binOp .lss t x y yt,ty,pos,aft,gd⟩ E H (.bool (c3 (m<n))):=
 ka b a (λw=>by rw[binOp_lss];rfl) λ_ _ _=>.bool _
def aj5(b:PE E x= .int k m)(a:PE E y= .int k n):cM P ⟨d,.binOp .leq t x y yt,ty,pos,aft,gd⟩ E H (.bool (c3 (m<=n))):=
 ka b a (λw=>by rw[binOp_leq];rfl) λ_ _ _=>.bool _
def amQ(b:PE E x= .int k m)(a:PE E y= .int k n):cM P ⟨d,.binOp .gtr t x y yt,ty,pos,aft,gd⟩ E H (.bool (c3 (n<m))):=
 ka b a (λw=>by rw[binOp_gtr];rfl) λ_ _ _=>.bool _
def abe(b:PE E x= .int k m)(a:PE E y= .int k n):cM P ⟨d,.binOp .geq t x y yt,ty,pos,aft,gd⟩ E H (.bool (c3 (n<=m))):=
 ka b a (λw=>by rw[binOp_geq];rfl) λ_ _ _=>.bool _
def aea(c:PE E x= .int k m)(b:PE E y= .int k n):cM P ⟨d,.binOp .eql t x y yt,ty,pos,aft,gd⟩ E H (.bool (c3 (m=n))):=
 ka c b (λw=>by rw[binOp_eql,hz]) λg H w=>by
  have:(m==n)=c3 (m=n):=by by_cases a:m=n <;> simp[a]
  rw[this];exact .bool _
def ajI(c:PE E x= .int k m)(b:PE E y= .int k n):cM P ⟨d,.binOp .neq t x y yt,ty,pos,aft,gd⟩ E H (.bool (c3 (m≠n))):=
 ka c b (λw=>by rw[binOp_neq,hz]) λg H w=>by
  have:(m != n)=c3 (m≠n):=by by_cases a:m=n <;> simp[a,bne]
  rw[this];exact .bool _
def apg{c:IntKind}(f:PE E x= .int k m)(e:PE E y= .int c n)(h0:0<=n)(b:k.wrap (m*2^ (min n.toNat k.bits))=r):cM P ⟨d,.binOp .shl t x y yt,ty,pos,aft,gd⟩ E H (.int k r):=
 yw f e (λ_ _ _ _ a=>a.fQ) (λ_ _ _ _ a=>a.fQ) (eqGuard_at_int _ t x y _ k m)
  (λw=>by rw[binOp_shl];unfold Op.shift;rw[if_neg (by omega)];simp only[b];rfl) λ_ _ _=>.int k r
def abz{c:IntKind}(f:PE E x= .int k m)(e:PE E y= .int c n)(h0:0<=n)(b:m.fdiv (2^ (min n.toNat k.bits))=r):cM P ⟨d,.binOp .shr t x y yt,ty,pos,aft,gd⟩ E H (.int k r):=
 yw f e (λ_ _ _ _ a=>a.fQ) (λ_ _ _ _ a=>a.fQ) (eqGuard_at_int _ t x y _ k m)
  (λw=>by rw[binOp_shr];unfold Op.shift;rw[if_neg (by omega)];simp only[b];rfl) λ_ _ _=>.int k r
def ajc(e:PE E x= .int k m)(a:k.wrap (0 -m)=r):cM P ⟨d,.unOp .neg t x,ty,pos,aft,gd⟩ E H (.int k r):=by
 intro g h f w b;have c:=(e▸b.e.eval x).fQ;exact⟨.int k r,by simp only[execOp,c,Op.unary,o4,a];rfl,.int k r⟩
def aoQ{c b:TypeId}{j:IntKind}(l:PE E x= .int j m)(a:(P.underlying c).isSome=true)(e:yi P b=c4 k)(f:k.wrap m=r):cM P ⟨d,.convert c b x,ty,pos,aft,gd⟩ E H (.int k r):=by
 intro g p o w h;have i:=(l▸h.e.eval x).fQ;obtain⟨q,a⟩:=m6.1 a;refine⟨.int k r,?_,.int k r⟩
 simp[execOp,i,convert,run_underlying a,run_underlying (anQ e),Conv.intToInt,f]
end ints
def rd_not{b:Bool}(e:PE E x= .bool b):cM P ⟨d,.unOp .not t x,ty,pos,aft,gd⟩ E H (.bool (!b)):=by
 intro g h f w a;have c:=(e▸a.e.eval x).n5;exact⟨.bool !b,by simp only[execOp,c,Op.unary];rfl,.bool _⟩
def run_equal_bool{t:TypeId}(e:sr P t=true)(w:World)(b a:Bool):(mx t (.bool b) (.bool a)).run P w= .ok (b==a) w:=by
 have c:∀n,(j9 (n+1) t (.bool b) (.bool a)).run P w= .ok (b==a) w:=λn=>by simp[j9,run_underlying (aiw e)]
 exact c 9999
def abj{yt:TypeId}{b c:Bool}(h:PE E x= .bool b)(e:PE E y= .bool c)(f:sr P t=true):cM P ⟨d,.binOp .eql t x y yt,ty,pos,aft,gd⟩ E H (.bool (b==c)):=
 yw h e (λ_ _ _ _ a=>a.n5) (λ_ _ _ _ a=>a.n5) (eqGuard_at_bool _ t x y _ b)
  (λw=>by simp only[binOp];simp[run_equal_bool f w b c]) λ_ _ _=>.bool _
def ai2{yt:TypeId}{b c:Bool}(h:PE E x= .bool b)(e:PE E y= .bool c)(f:sr P t=true):cM P ⟨d,.binOp .neq t x y yt,ty,pos,aft,gd⟩ E H (.bool (b != c)):=
 yw h e (λ_ _ _ _ a=>a.n5) (λ_ _ _ _ a=>a.n5) (eqGuard_at_bool _ t x y _ b)
  (λw=>by simp only[binOp];simp only[gb,run_equal_bool f w b c,ez,hz];rfl) λ_ _ _=>.bool _
def aiG{vs:List PV}{i:Nat}{v:PV}(l:PE E x= .bu vs)(a:vs[i]?=c4 v):cM P ⟨d,.extract x i,ty,pos,aft,gd⟩ E H v:=by
 intro g p o w h;obtain⟨b,j,e,f⟩:=(l▸h.e.eval x).Db;have c:i<b.length:=by rw[<-e];exact(c7.1 a).1
 refine⟨b[i],?_,f i v _ a (c5 c)⟩
 simp[execOp,j,Instr.extract,c]
def aam{c:List PV}{f:Nat}{b e:Nat}{v:PV}(A:PE E x= .agg c)(l:nU P t f=c4 (b,e))(B:dP P b=c4 false)(j:c[e]?=c4 v):
 cM P ⟨d,.field t x f,ty,pos,aft,gd⟩ E H v:=by
 intro g F D w q;obtain⟨h,s,o,p⟩:=(A▸q.e.eval x).ky;obtain⟨G,a,u,C,rfl,rfl⟩:=E4 l;have i:a.offset<h.length:=by rw[<-o];exact(c7.1 j).1
 refine⟨h[a.offset],?_,p _ v _ j (c5 i)⟩
 simp[execOp,s,r3,run_underlying u,C,asAgg,part,o5 B,i]
def T8{e:List PV}{f:Nat}{c j n:Nat}{h:List PV}(D:PE E x= .agg e)(o:nU P t f=c4 (c,j))(G:dP P c=c4 true)(B:cH P c=c4 n)(F:(e.drop j).take n=h):
 cM P ⟨d,.field t x f,ty,pos,aft,gd⟩ E H (.agg h):=by
 intro g L K w s;obtain⟨v,u,p,q⟩:=(D▸s.e.eval x).ky;obtain⟨M,l,A,J,rfl,rfl⟩:=E4 o;subst F;refine⟨.agg ((v.drop l.offset).take n).toArray,?_,.agg _ _ (by simp[p]) λi I y a b=>?_⟩
 .simp[execOp,u,r3,run_underlying A,J,asAgg,part,o5 G,run_sizeOf B,m0,k6]
 .rw[h6] at a b
  split at a
  .rename_i C;rw[if_pos C] at b;rw[ea] at a b;exact q _ I y a b
  .simp at a
def adb{r v i b:Nat}(p:PE E x= .ptr r v i b):cM P ⟨d,.nilCheck x,ty,pos,aft,gd⟩ E H (.ptr r v i b):=by
 intro g s j w h;have a:=p▸h.e.eval x;generalize q:j.eval x=z at a;cases a with
 |aW a=>cases a
 |ptr _ _ _ _ o l c e f=>exact⟨_,by simp only[execOp,q];rfl,.ptr r v i b o l c e f⟩
def ZL{c:List PV}{e:Nat}(q:PE E x= .dw c e):cM P ⟨d,.nilCheck x,ty,pos,aft,gd⟩ E H (.dw c e):=by
 intro g v o w j;have a:=q▸j.e.eval x;generalize u:o.eval x=z at a;cases a with
 |aW a=>
  cases a with
  |dw _ _ b i f s p l h=>exact⟨_,by simp only[execOp,u];rfl,.aW (.dw c e b i f s p l h)⟩
def VJ{f:Nat}{b c:List PV}(u:PE E x= .fn f b c):cM P ⟨d,.nilCheck x,ty,pos,aft,gd⟩ E H (.fn f b c):=by
 intro g v s w q;have a:=u▸q.e.eval x;generalize p:s.eval x=z at a;cases a with
 |aW a=>cases a with |fn _ _ _ o i j l h e=>exact⟨_,by simp only[execOp,p];rfl,.aW (.fn f b c o i j l h e)⟩
 |fn _ _ _ o i j l h e=>exact⟨_,by simp only[execOp,p];rfl,.fn f b c o i j l h e⟩
def Qi{P:Program}{w:World}{a:Addr}{f:Field}{n:Nat}(b:cH P f.type=c4 n)(c:n≠0):(fieldPlace a f).run P w= .ok (a.add f.offset) w:=by
 simp[fieldPlace,run_sizeOf b,c]
def apD{r v i c:Nat}{f:Nat}{h j n:Nat}(I:PE E x= .ptr r v i c)(A:nU P t f=c4 (h,j))(F:cH P h=c4 n)(J:n≠0):
 cM P ⟨d,.fieldAddr t x f,ty,pos,aft,gd⟩ E H (.ptr r v i (c+j)):=by
 intro g O l w C;have a:=I▸C.e.eval x;generalize s:l.eval x=z at a;obtain⟨Q,e,D,N,rfl,rfl⟩:=E4 A;cases a with
 |aW a=>cases a
 |ptr _ _ _ _ p u B K L=>
  refine⟨.pointer (c4 (u.add e.offset)),?_,.ptr r v i (c+e.offset) p _ B K λM=>?_⟩
  .simp[execOp,s,q7,run_underlying D,N,hD,Qi F J]
  .obtain⟨G,b,q,o,rfl⟩:=L M;exact⟨G,b,q,o,by rw[h8,j1]⟩
def Ze{e:List PV}{a:Nat}{f:Nat}{i l n:Nat}(C:PE E x= .dw e a)(u:nU P t f=c4 (i,l))(B:cH P i=c4 n)(D:n≠0):
 cM P ⟨d,.fieldAddr t x f,ty,pos,aft,gd⟩ E H (.dw e (a+l)):=by
 intro g K o w v;have c:=C▸v.e.eval x;generalize s:o.eval x=z at c;obtain⟨L,h,A,J,rfl,rfl⟩:=E4 u;cases c with
 |aW c=>
  cases c with
  |dw _ _ b j F q I p G=>
   refine⟨.pointer (c4 ((⟨b,j+a,c6⟩:Addr).add h.offset)),?_,?_⟩
   .simp[execOp,s,q7,run_underlying A,J,hD,Qi B D]
   .rw[h8,j1];exact .aW (.dw e (a+h.offset) b j F q I p G)
def Dc{g:Gh}{w:World}{r v i c:Nat}{a:aO}{q:Value}(F:bF g H w)(l:VR g H w (.ptr r v i c) q)(h:ek H r a)(I:a.aF=v):
 ∃b e cells,q= .pointer (c4 ⟨b,i*a.sz+c,c6⟩)/\g.β r=c4 (b,e)/\i<a.es.length/\w.heap[b]?=c4 (.cells cells a.ty (0,0))/\cells.size=e*a.sz/\a.es.length<=e/\
  ∀i c s,abk a.es i c=c4 s->∃j,cells[i*a.sz+c]?=c4 j/\j.oneCell'=true/\VR g H w s j:=by
 cases l with
 |aW l=>cases l
 |ptr _ _ _ _ L K f J G=>
  unfold ek at h;rw[h] at f;injection f with f
  subst f;obtain⟨D,b,e,o,rfl⟩:=G I.symm;have p:=(F.obj r a h).mem;rw[o] at p;obtain⟨_,cells,B,u,_,A,C⟩:=p;exact⟨b,e,cells,rfl,o,D,B,u,A,C⟩
def AT{r v i j:Nat}{a:aO}{c:PV}(D:PE E x= .ptr r v i j)(h:ek H r a)(l:a.aF=v)(o:dP P t=c4 false)(B:abk a.es i j=c4 c):
 cM P ⟨d,.load t x,ty,pos,aft,gd⟩ E H c:=by
 intro g G F w f;obtain⟨b,I,cells,q,_,_,u,_,_,C⟩:=Dc f.m (D▸f.e.eval x) h l;obtain⟨e,s,_,A⟩:=C i j c B;refine⟨e,?_,A⟩
 have p:w.cell? ⟨b,i*a.sz+j,c6⟩=c4 e:=by rw[cell_of_row w b _ cells a.ty (0,0) u];exact s
 simp[execOp,q,n1,hD,loadVar,o5 o,p]
def gw{c:List PV}{i f:Nat}{h:PV}(a:abk c i f=c4 h):∃b,c[i]?=c4 b/\f<b.cells.length:=by
 unfold abk at a;cases e:c[i]? with
 |none=>simp[e] at a
 |some b=>
  simp[e] at a;exact⟨b,rfl,(c7.1 a).1⟩
def Ig{r v i a n:Nat}{c:aO}{e:PV}{p:List PV}(R:PE E x= .ptr r v i a)(M:ek H r c)(T:c.aF=v)(U:dP P t=c4 true)(O:cH P t=c4 n)(V:c.es[i]?=c4 e)
 (D:(e.cells.drop a).take n=p) (C:p.length=n):cM P ⟨d,.load t x,ty,pos,aft,gd⟩ E H (.agg p):=by
 intro g aa Y w B;obtain⟨b,Z,cells,L,_,_,G,W,ab,Q⟩:=Dc B.m (R▸B.e.eval x) M T;subst D;have F:∀k (h:k<n),∃j,abk c.es i (a+k)=c4 j/\((e.cells.drop a).take n)[k]?=c4 j:=λk h=>by
  have u:k<((e.cells.drop a).take n).length:=by rw[C];exact h
  refine⟨_,?_,c5 u⟩
  unfold abk;rw[V];simp only[hU];rw[<-ea, <-e0 h];exact c5 u
 have I:∃f:Nat->Value,∀k,k<n->cells[i*c.sz+a+k]?=c4 (f k)/\(∀j,((e.cells.drop a).take n)[k]?=c4 j->VR g H w j (f k)):=by
  refine⟨λk=>cells.getD (i*c.sz+a+k) undef,λk h=>?_⟩
  obtain⟨j,o,J⟩:=F k h;obtain⟨S,s,_,K⟩:=Q i (a+k) j o;rw[<-j1] at s;have:cells.getD (i*c.sz+a+k) undef=S:=by simp[j2,s]
  refine⟨s.trans (congrArg c4 this.symm),λX l=>?_⟩
  rw[J] at l;injection l with l
  subst l;show VR g H w j (cells.getD (i*c.sz+a+k) undef)
  rw[this];exact K
 obtain⟨f,A⟩:=I;refine⟨.agg ((n2 n).map f).toArray,?_,.agg _ _ (by simp[C]) λk j y o q=>?_⟩
 .have N:=run_loadCells (P:=P) w ⟨b,i*c.sz+a,c6⟩ n f (λk h=>by
   rw[h8,cell_of_row w b _ cells c.ty (0,0) G];exact(A k h).1)
  simp[execOp,L,n1,hD,loadVar,o5 U,run_sizeOf O,N]
 .have h:k<n:=by
   have:=(c7.1 o).1;omega
  rw[e6,h9 h] at q;simp at q;subst q;exact(A k h).2 j o
def acR{f:List PV}{a:Nat}{e:PV}(s:PE E x= .dw f a)(o:dP P t=c4 false)(h:f[a]?=c4 e):
 cM P ⟨d,.load t x,ty,pos,aft,gd⟩ E H e:=by
 intro g B q w p;have c:=s▸p.e.eval x;generalize u:q.eval x=z at c;cases c with
 |aW c=>
  cases c with
  |dw _ _ b v j C i A l=>
   refine⟨j a,?_,.aW (l a e h)⟩
   simp[execOp,u,n1,hD,loadVar,o5 o,i a e h]
def Z6{e:List PV}{a n:Nat}{o:List PV}(K:PE E x= .dw e a)(M:dP P t=c4 true)(J:cH P t=c4 n)(v:(e.drop a).take n=o)(s:o.length=n):
 cM P ⟨d,.load t x,ty,pos,aft,gd⟩ E H (.agg o):=by
 intro g Q A w I;have i:=K▸I.e.eval x;generalize D:A.eval x=z at i;cases i with
 |aW i=>
  cases i with
  |dw _ _ b F u O B l L=>
   subst v;have q:∀k (c:k<n),∃f,e[a+k]?=c4 f/\((e.drop a).take n)[k]?=c4 f:=λk c=>by
    have l:k<((e.drop a).take n).length:=by rw[s];exact c
    refine⟨_,?_,c5 l⟩
    rw[<-ea, <-e0 c];exact c5 l
   refine⟨.agg ((n2 n).map λk=>u (a+k)).toArray,?_,.aW (.agg _ _ (by simp[s]) λk f y j p=>?_)⟩
   .have G:=run_loadCells (P:=P) w ⟨b,F+a,c6⟩ n (λk=>u (a+k)) (λk c=>by
     obtain⟨f,j,_⟩:=q k c;rw[h8,j1];exact B _ f j)
    simp[execOp,D,n1,hD,loadVar,o5 M,run_sizeOf J,G]
   .have c:k<n:=by
     have:=(c7.1 j).1;omega
    rw[e6,h9 c] at p;simp at p;subst p;obtain⟨N,C,h⟩:=q k c;rw[j] at h;injection h with h
    subst h;exact L _ _ C
def Zx{ix:Operand}{h:Nat}{o:List PV}{e:PV}{k:IntKind}{m:Int}{i:Nat}{p:TypeId}(K:PE E x= .vs h o)(J:PE E ix= .int k m)(L:m=(i:Int))(l:o[i]?=c4 e)
 (A:dU P t=c4 p) (I:cH P p=c4 h):cM P ⟨d,.indexAddr t x ix,ty,pos,aft,gd⟩ E H (.dw e.cells 0):=by
 intro g S v w s;have j:=K▸s.e.eval x;have G:=(J▸s.e.eval ix).fQ;generalize D:v.eval x=z at j;subst L;have u:i<o.length:=(c7.1 l).1;cases j with
 |aW j=>
  cases j with
  |eX=>simp at u
  |vs _ _ b q cap M R C Q O B N=>
   refine⟨.pointer (c4 ⟨b,q+i*h,c6⟩),?_,?_⟩
   .simp[execOp,D,G,oi,asIntOf,run_underlying (gD A),run_sizeOf I,u,h8]
   .have:=VI.dw (F:=g.F) (w:=w) e.cells 0 b (q+i*h) (M i) C
     (λa f c=>by
      have:=O i a f (by unfold abk;rw[l];exact c);rw[<-j1] at this;exact this)
     (λa f c=>B i a f (by unfold abk;rw[l];exact c))
     (λa f c=>N i a f (by unfold abk;rw[l];exact c))
    exact .aW this
def lh{g:Gh}{w:World}{r v f len:Nat}{o:aO}{c:Value}(b:VR g H w (.sl r v f len) c)(e:ek H r o)(h:o.aF=v):SL g o r f len c:=by
 cases b with
 |aW b=>cases b
 |sl _ _ _ _ p _ a j l i=>
  unfold ek at e;rw[e] at a;injection a with a
  subst a;exact i h.symm
def Hm{ix:Operand}{r v e len:Nat}{a:aO}{k:IntKind}{m:Int}{i:Nat}{f:TypeId}(D:PE E x= .sl r v e len)(C:PE E ix= .int k m)(F:m=(i:Int))(B:i<len)(h:ek H r a)(G:a.aF=v)
 (o:dU P t=c4 f) (A:cH P f=c4 a.sz):cM P ⟨d,.indexAddr t x ix,ty,pos,aft,gd⟩ E H (.ptr r v (e+i) 0):=by
 intro g M I w j;have c:=lh (D▸j.e.eval x) h G;have u:=(C▸j.e.eval ix).fQ;subst F;unfold SL at c;obtain⟨K,c⟩:=c
 split at c
 .obtain⟨_,rfl,_⟩:=c;omega
 .rename_i b q p;obtain⟨cap,L,s,J,l,_⟩:=c;obtain rfl:=l (by omega);refine⟨.pointer (c4 ⟨b,e*a.sz+i*a.sz,c6⟩),?_,.ptr r v (e+i) 0 a _ h (by omega) λ_=>⟨by omega,b,q,p,by rw[l1,eo]⟩⟩
  simp[execOp,s,u,oi,asIntOf,run_underlying (gD o),run_sizeOf A,B,h8]
def aqx{e:Operand}{r v i h n c:Nat}{k:IntKind}{m:Int}{q:Nat}{j:TypeId}(J:PE E x= .ptr r v i h)(f:PE E e= .int k m)(K:m=(q:Int))(B:q<n)
 (p:pk P t=c4 (n,j)) (I:cH P j=c4 c):cM P ⟨d,.indexAddr t x e,ty,pos,aft,gd⟩ E H (.ptr r v i (h+q*c)):=by
 intro g O o w l;have a:=J▸l.e.eval x;have G:=(f▸l.e.eval e).fQ;generalize C:o.eval x=z at a;subst K;cases a with
 |aW a=>cases a
 |ptr _ _ _ _ u D F L M=>
  refine⟨.pointer (c4 (D.add (q*c))),?_,.ptr r v i _ u _ F L λN=>?_⟩
  .simp[execOp,C,G,oi,hD,asIntOf,run_underlying (Kn p),run_sizeOf I,B]
  .obtain⟨f,b,A,s,rfl⟩:=M N;exact⟨f,b,A,s,by rw[h8,j1]⟩
def ac0{b:Operand}{e:List PV}{n:Nat}{k:IntKind}{m:Int}{q:Nat}{a:TypeId}{c:PV}(C:PE E x= .agg e)(B:PE E b= .int k m)(D:m=(q:Int))(o:q<n)
 (l:pk P t=c4 (n,a)) (A:cH P a=c4 1) (F:dP P a=c4 false) (i:e[q]?=c4 c):cM P ⟨d,.index t x b,ty,pos,aft,gd⟩ E H c:=by
 intro g I G w f;obtain⟨h,u,p,s⟩:=(C▸f.e.eval x).ky;have v:=(B▸f.e.eval b).fQ;subst D;have j:q<h.length:=by rw[<-p];exact(c7.1 i).1
 refine⟨h[q],?_,s q c _ i (c5 j)⟩
 simp[execOp,u,v,Instr.index,asIntOf,run_underlying (Kn l),run_sizeOf A,o,part,o5 F,j]
def Gi{n:Nat}{ci:Array TypeId}(c:∃e,dU P t=c4 e)(j:ci=#[t])(l:∀(g:Gh) (b:Nat) (a:Act) (w:World),Rel g b E H a w->∃f cap,a.eval x= .slice f n cap):
 cM P ⟨d,.call {callee:=.builtin .len,args:=#[x],argTypes:=ci},ty,pos,aft,gd⟩ E H (.int .i64 (n:Int)):=by
 intro g b a w i;obtain⟨e,c⟩:=c;obtain⟨f,cap,h⟩:=l g b a w i;subst j;refine⟨.int .i64 (n:Int),?_,.int _ _⟩
 simp[execOp,resolve,invoke,builtin,h,Builtin.len_,run_underlying (gD c),goInt]
def ap9{a:TypeId}{b:Array TypeId}(h:PE E x= .bg)(f:b=#[t])(e:dU P t=c4 a):
 cM P ⟨d,.call {callee:=.builtin .len,args:=#[x],argTypes:=b},ty,pos,aft,gd⟩ E H (.int .i64 0):=
 Gi (n:=0) ⟨a,e⟩ f λ_ _ _ _ c=>⟨c6,0,(h▸c.e.eval x).pF⟩
def acm{a:TypeId}{b:Array TypeId}(i:PE E x= .z0)(h:b=#[t])(f:dU P t=c4 a):
 cM P ⟨d,.call {callee:=.builtin .len,args:=#[x],argTypes:=b},ty,pos,aft,gd⟩ E H (.int .i64 0):=
 Gi (n:=0) ⟨a,f⟩ h λ_ _ _ _ e=>let ⟨j,c⟩:=(i▸e.e.eval x).rh;⟨j,0,c⟩
def akg{k:IntKind}{m n:Int}{f:Array TypeId}(i:PE E x= .int k m)(b:PE E y= .int k n):
 cM P ⟨d,.call {callee:=.builtin .min,args:=#[x,y],argTypes:=f},ty,pos,aft,gd⟩ E H (.int k (min m n)):=by
 intro g l j w a;have c:=(i▸a.e.eval x).fQ;have e:=(b▸a.e.eval y).fQ;have h:(if n<m then n else m)=min m n:=by split <;> omega
 refine⟨.int k (min m n),?_,.int _ _⟩
 simp[execOp,resolve,invoke,builtin,c,e,Builtin.min_,Builtin.min2,h]
def ae4{k:IntKind}{m n:Int}{f:Array TypeId}(i:PE E x= .int k m)(b:PE E y= .int k n):
 cM P ⟨d,.call {callee:=.builtin .max,args:=#[x,y],argTypes:=f},ty,pos,aft,gd⟩ E H (.int k (max m n)):=by
 intro g l j w a;have c:=(i▸a.e.eval x).fQ;have e:=(b▸a.e.eval y).fQ;have h:(if m<n then n else m)=max m n:=by split <;> omega
 refine⟨.int k (max m n),?_,.int _ _⟩
 simp[execOp,resolve,invoke,builtin,c,e,Builtin.max_,Builtin.max2,h]
end
end Go.Bml
namespace Go.Bml
open Go
open Go.RowKit (Below)
def gI(g:Gh)(H:List aO)(w:World)(b:Nat)(d:List PV)(c:List Value):Prop:=
 c.length=d.length*b/\∀i f e,abk d i f=c4 e->∃a,c[i*b+f]?=c4 a/\a.oneCell'=true/\VR g H w e a
def nN{w:World}{b:Nat}{c:Obj}(a:w.heap[b]?=c4 c):b<w.heap.size:=(Array.getElem?_eq_some_iff.1 a).1
section
variable {g:Gh}{H:List aO}{w:World}
def bF.qD(h:bF g H w){r b C:Nat}(c:g.β r=c4 (b,C)):b<w.heap.size:=by
 have e:=h.m8 r b C c;have a:=(h.obj r _ (c5 e)).mem;rw[c] at a;obtain⟨_,cells,d,_⟩:=a;exact nN d
def Gh.push(g:Gh)(r:Nat)(p:Option (Nat×Nat)):Gh:={F:=g.F,β:=λq=>if q=r then p else g.β q}
def Gh.kg(g:Gh)(r:Nat)(p:Option (Nat×Nat)):(g.push r p).β r=p:=by simp[Gh.push]
def Gh.kS(g:Gh){r q:Nat}(p:Option (Nat×Nat))(h:q≠r):(g.push r p).β q=g.β q:=by simp[Gh.push,h]
def bF.T6(h:bF g H w)(ty sz:Nat)(I:0<sz):
 GStep H.length g H w (g.push H.length c6) (H++[⟨ty,sz,[],0⟩]) w/\bF (g.push H.length c6) (H++[⟨ty,sz,[],0⟩]) w:=by
 have x:GStep H.length g H w (g.push H.length c6) (H++[⟨ty,sz,[],0⟩]) w:=
  ⟨rfl,rfl,rfl,ef _,λ_ a=>a,λ_ _=>rfl,λ_ _ _=>rfl,λ_ a=>.inl a,λq b C a=>by
   by_cases e:q=H.length
   .subst e;rw[Gh.kg] at a;cases a
   .rw[Gh.kS g _ e] at a;exact .inr ⟨q,C,a⟩,λr n o d=>⟨n,by rw[dv o];exact d,ef _,λ_=>⟨rfl,rfl,Gh.kS g _ (by omega)⟩⟩⟩
 refine⟨x,⟨h.fb,?_,?_,?_⟩⟩
 .intro r t b C1 C2 l k
  by_cases j:r=H.length
  .subst j;rw[Gh.kg] at l;cases l
  .by_cases u:t=H.length
   .subst u;rw[Gh.kg] at k;cases k
   .rw[Gh.kS g _ j] at l;rw[Gh.kS g _ u] at k;exact h.inj r t b C1 C2 l k
 .intro r b s a
  by_cases j:r=H.length
  .subst j;simp
  .rw[Gh.kS g _ j] at a;have:=h.m8 r b s a;simp;omega
 .intro r n d
  by_cases j:r=H.length
  .subst j;rw[dt (ef _)] at d;simp at d;subst d;exact⟨I,by simp,by rw[Gh.kg]⟩
  .have o:r<H.length:=by
    have:=(c7.1 d).1;simp at this;omega
   rw[dv o] at d;obtain⟨a1,M,m⟩:=h.obj r n d;refine⟨a1,M,?_⟩
   rw[Gh.kS g _ j];cases a:g.β r with
   |none=>rw[a] at m;exact m
   |some p=>
    obtain⟨b,s⟩:=p;rw[a] at m;obtain⟨E,A,N,F,J,G,D⟩:=m;refine⟨E,A,N,F,J,G,λi y c B=>?_⟩
    obtain⟨L,l,k,K⟩:=D i y c B;exact⟨L,l,k,K.nZ x⟩
def wG(g:Gh)(H:List aO)(w h:World)(a:aO):Option (Nat×Nat)->Prop
 |none=>a.es=[]
 |some (b,d)=>∃cells,h.heap[b]?=c4 (.cells cells a.ty (0,0))/\cells.size=d*a.sz/\d<=maxLen/\a.es.length<=d/\∀i f e,abk a.es i f=c4 e->∃c,cells[i*a.sz+f]?=c4 c/\c.oneCell'=true/\VR g H w e c
def bF.set(h:bF g H w){r:Nat}{o o':aO}{w':World}{p:Option (Nat×Nat)}(I:H[r]?=c4 o)(ah:w'.os=w.os)(Z:w'.tape=w.tape)(af:w'.output=w.output)(Q:w.heap.size<=w'.heap.size)
 (P:∀b,b<w.heap.size->(∀C,g.β r≠c4 (b,C))->w'.heap[b]?=w.heap[b]?)
 (aj:o.aF<=o'.aF) (ad:o'.aF=o.aF->o'.sz=o.sz/\o'.es.length=o.es.length/\p=g.β r)
 (u:∀b C,p=c4 (b,C)->(∃d,g.β r=c4 (b,d))\/w.heap.size<=b)
 (ab:0<o'.sz) (V:∀(i:Nat) (e:PV),o'.es[i]?=c4 e->e.cells.length=o'.sz)
 (T:wG g H w w' o' p)
 :
  GStep H.length g H w (g.push r p) (H.set r o') w'/\bF (g.push r p) (H.set r o') w':=by
  have K:r<H.length:=(c7.1 I).1;have Y:=h.obj r o I;have R:∀b C,g.β r=c4 (b,C)->¬g.F b:=λb C a=>by
   have:=Y.mem;rw[a] at this;exact this.1
  have M:GStep H.length g H w (g.push r p) (H.set r o') w':=by
   refine⟨ah,Z,af,Q,λ_ a=>a,λb a=>P b (h.fb b a) λC j=>R b C j a,λb a ae=>P b a λC=>ae r C,λ_ a=>.inl a,λq b C a=>?_,λq O al n=>?_⟩
   .by_cases e:q=r
    .subst e;rw[Gh.kg] at a;rcases u b C a with⟨d,j⟩ |s
     .exact .inr ⟨q,d,j⟩
     .exact .inl s
    .rw[Gh.kS g _ e] at a;exact .inr ⟨q,C,a⟩
   by_cases e:q=r
   .subst e;rw[I] at n;injection n with n
    subst n;refine⟨o',by simp[K],aj,λak=>?_⟩
    obtain⟨ac,X,ag⟩:=ad ak;exact⟨ac,X,by rw[Gh.kg];exact ag⟩
   .exact⟨O,by rw[ey (qb e)];exact n,ef _,λ_=>⟨rfl,rfl,Gh.kS g _ e⟩⟩
  refine⟨M,⟨λb a=>l4 (h.fb b a) Q,?_,?_,?_⟩⟩
  .intro q U b C1 C2 l k
   by_cases m:q=r <;> by_cases F:U=r
   .omega
   .subst m;rw[Gh.kg] at l;rw[Gh.kS g _ F] at k;rcases u b C1 l with⟨d,j⟩ |s
    .exact h.inj _ _ b d C2 j k
    .have:=h.qD k;omega
   .subst F;rw[Gh.kg] at k;rw[Gh.kS g _ m] at l;rcases u b C2 k with⟨d,j⟩ |s
    .exact h.inj _ _ b C1 d l j
    .have:=h.qD l;omega
   .rw[Gh.kS g _ m] at l;rw[Gh.kS g _ F] at k;exact h.inj q U b C1 C2 l k
  .intro q b d a
   by_cases m:q=r
   .subst m;simpa using K
   .rw[Gh.kS g _ m] at a;simpa using h.m8 q b d a
  .intro q O n
   by_cases m:q=r
   .subst m;simp[K] at n;subst n;refine⟨ab,V,?_⟩
    rw[Gh.kg];cases p with
    |none=>exact T
    |some E=>
     obtain⟨b,C⟩:=E;obtain⟨cells,x,D,J,G,B⟩:=T;refine⟨λS=>?_,cells,x,D,J,G,λi y c A=>?_⟩
     .rcases u b C rfl with⟨d,j⟩ |s
      .exact R b d j S
      .have:=h.fb b S;omega
     .obtain⟨N,l,k,L⟩:=B i y c A;exact⟨N,l,k,L.nZ M⟩
   .rw[ey (qb m)] at n;obtain⟨a1,ai,t⟩:=h.obj q O n;refine⟨a1,ai,?_⟩
    rw[Gh.kS g _ m];cases a:g.β q with
    |none=>rw[a] at t;exact t
    |some E=>
     obtain⟨b,d⟩:=E;rw[a] at t;obtain⟨aa,W,x,D,J,G,B⟩:=t;refine⟨aa,W,(P b (nN x) λC j=>m (h.inj _ _ b _ _ a j)).trans x,D,J,G,λi y c A=>?_⟩
     obtain⟨N,l,k,L⟩:=B i y c A;exact⟨N,l,k,L.nZ M⟩
end
def Ez{g:Gh}{m:Nat}{H:List aO}{w:World}(d:bF g H w):GStep m g H w g H w.drew/\bF g H w.drew:=by
 have k:∀m,GStep m g H w g H w.drew:=λm=>⟨rfl,rfl,rfl,ef _,λ_ a=>a,λ_ _=>rfl,λ_ _ _=>rfl,λ_ a=>.inl a,λr _ j a=>.inr ⟨r,j,a⟩,λr e _ f=>⟨e,f,ef _,λ_=>⟨rfl,rfl,rfl⟩⟩⟩
 refine⟨k m,d.fb,d.inj,d.m8,λr e f=>?_⟩
 obtain⟨B,C,c⟩:=d.obj r e f;refine⟨B,C,?_⟩
 cases h:g.β r with
 |none=>rw[h] at c;exact c
 |some v=>
  obtain⟨b,j⟩:=v;rw[h] at c;obtain⟨s,o,E,u,y,x,q⟩:=c;exact⟨s,o,E,u,y,x,λi n D p=>let ⟨A,t,l,z⟩:=q i n D p;⟨A,t,l,z.nZ (k _)⟩⟩
def PV.one:PV->Bool
 | .agg _ | .bu _ | .any=>false
 |_=>true
def VR.M8{g:Gh}{H:List aO}{w:World}{c:PV}{x:Value}(h:VR g H w c x)(e:c.one=true):x.oneCell'=true:=by
 cases h with
 |aW h=>cases h <;> first |rfl |(simp[PV.one] at e;done)
 |ptr=>rfl
 |sl r v off len n x j a d o=>exact d
 |fl r v n x j a d o=>exact d
 |agg l m k a=>simp[PV.one] at e
 |bu l m k a=>simp[PV.one] at e
 |fn=>rfl
end Go.Bml
namespace Go.Bml
open Go
section
variable {g:Gh}{H:List aO}{w:World}
def VR.tZ{v:PV}{x:Value}(h:VR g H w v x)(j:v.cells.all PV.one=true)(ht:∀vs,v≠ .bu vs):x.cells.toList.length=v.cells.length/\
 ∀(e:Nat) (c:PV),v.cells[e]?=c4 c->∃k,x.cells[e]?=c4 k/\k.oneCell'=true/\VR g H w c k:=by
 by_cases n:∃s,v= .agg s
 .obtain⟨s,rfl⟩:=n;obtain⟨u,rfl,m,C⟩:=h.ky;refine⟨by simp[o6,PV.cells,m],λe c a=>?_⟩
  simp only[PV.cells] at a j;have l:e<u.length:=by rw[<-m];exact(c7.1 a).1
  have o:=C e c _ a (c5 l);refine⟨u[e],by simp[o6,l],o.M8 ?_,o⟩
  exact h7.1 j c (dT a)
 .have A:v.cells=[v]:=by cases v <;> first |rfl |exact absurd ⟨_,rfl⟩ n
  have D:v.one=true:=by rw[A] at j;simpa using j
  have B:=h.M8 D;have F:x.cells=#[x]:=by cases x <;> first |rfl |(simp[Value.oneCell'] at B;done)
  rw[A,F];refine⟨rfl,λe c a=>?_⟩
  match e,a with
  |0,a=>
   simp at a;subst a;exact⟨x,rfl,B,h⟩
def Rk{v:PV}{i b:Nat}{c:PV}(a:abk [v] i b=c4 c):i=0/\v.cells[b]?=c4 c:=by
 unfold abk at a
 match i,a with
 |0,a=>exact⟨rfl,by simpa using a⟩
 |i+1,a=>simp at a
end
section
variable {P:Program}{nt:Nat}{Q:fE}{E:Env}{H:List aO}{d:Option Nat}{ty:TypeId}{pos:String}{aft:Array Edge}{x y z:Operand}{t:TypeId}{all:Array Oper}{rest:List Oper}
def nY(P:Program)(E:Env)(H:List aO)(r:Oper)(elem a:Nat)(b:List PV)(v:Nat->Nat->PV):Prop:=
 ∀g nt (k:Act) w,Rel g nt E H k w->∃(cells:Array Value) (c:Nat) (x:Value) (f:World),(execOp k.eval r).run P w= .ok (.value x) (f.alloc (.cells cells elem))/\(f=w\/f=w.drew)/\
  0<a/\(∀(i:Nat) (h:PV),b[i]?=c4 h->h.cells.length=a)/\cells.size=c*a/\c<=maxLen/\b.length<=c/\
  (∀i n l,abk b i n=c4 l->∃e,cells[i*a+n]?=c4 e/\e.oneCell'=true/\VR g H w l e)/\
  (∀o m p q j,o.β q=c4 (w.heap.size,c)->m[q]?=c4 ⟨elem,a,b,j⟩->VR o m p (v q j) x)
def sX{C:Op}{elem e q S R c:Nat}{f:List PV}{v:Nat->Nat->PV}(o:H[q]?=c4 ⟨S,R,[],c⟩)
 (h:nY P E H ⟨d,C,ty,pos,aft,c6⟩ elem e f v):
 fJ P ⟨d,C,ty,pos,aft,c6⟩ E H λJ af=>J=v q (c+1)/\af=H.set q ⟨elem,e,f,c+1⟩:=by
 intro g nt L w r ak aj O;obtain⟨cells,j,x,a,W,ae,U,V,G,aa,X,D,ad⟩:=h g nt L w r;unfold n0;rw[W];have ag:=(c7.1 o).1;have s:∀a:World,bF g H a->(∀i l n,abk f i l=c4 n->∃k,cells[i*e+l]?=c4 k/\k.oneCell'=true/\VR g H a n k)->
  GStep H.length g H a (g.push q (c4 (a.heap.size,j))) (H.set q ⟨elem,e,f,c+1⟩) (a.alloc (.cells cells elem))/\
  bF (g.push q (c4 (a.heap.size,j))) (H.set q ⟨elem,e,f,c+1⟩) (a.alloc (.cells cells elem)):=λa A K=>by
  have ai:=(A.obj q _ o).mem;refine A.set o rfl rfl rfl (by simp) (λb M _=>gv a _ b M) (by simp) (λh=>absurd h (by simp)) (λb ah h=>?_) U V ?_
  .injection h with h;injection h with p u;subst p;exact .inr (ef _)
  .refine⟨cells,heap_alloc_new a _,G,aa,X,K⟩
 have T:GStep H.length g H w (g.push q (c4 (w.heap.size,j))) (H.set q ⟨elem,e,f,c+1⟩) (a.alloc (.cells cells elem))/\
  bF (g.push q (c4 (w.heap.size,j))) (H.set q ⟨elem,e,f,c+1⟩) (a.alloc (.cells cells elem)):=by
  rcases ae with rfl |rfl
  .exact s _ r.m D
  .obtain⟨B,ab⟩:=Ez (m:=H.length) r.m;obtain⟨F,ac⟩:=s _ ab λi l n N=>let ⟨k,p,u,Y⟩:=D i l n N;⟨k,p,u,Y.nZ B⟩
   exact⟨B.trans F,ac⟩
 obtain⟨Z,I⟩:=T;exact O x _ (g.push q (c4 (w.heap.size,j))) (v q (c+1)) (H.set q ⟨elem,e,f,c+1⟩) ⟨rfl,rfl⟩ (ad _ _ _ _ _ (Gh.kg _ _ _) (by simp[ag])) I Z
def P7{e:Gh}{c:List aO}{j:World}{elem h f b q a:Nat}{v:PV}(k:e.β q=c4 (b,f))(i:c[q]?=c4 ⟨elem,h,[v],a⟩):
 VR e c j (.ptr q a 0 0) (.pointer (c4 ⟨b,0,c6⟩)):=
 .ptr _ a 0 0 _ _ i (ef _) λ_=>⟨by simp,b,f,k,by simp⟩
def FO{g':Gh}{f:List aO}{w':World}{elem h c b q e:Nat}{a:List PV}(k:g'.β q=c4 (b,c))(i:f[q]?=c4 ⟨elem,h,a,e⟩)(j:a.length<=c):
 VR g' f w' (.sl q e 0 a.length) (.slice (c4 ⟨b,0,c6⟩) a.length c):=
 .sl _ e 0 _ _ _ i (ef _) rfl λ_=>by
  refine⟨by simp,?_⟩
  rw[k];exact⟨c,_,rfl,j,λ_=>by simp,λ_=>⟨rfl,rfl⟩⟩
def alO{elem b:Nat}{v:PV}(s:PE E x=v)(o:v.cells.length=b)(m:0<b)(r:v.cells.all PV.one=true)(h:∀vs,v≠ .bu vs):
 nY P E H ⟨d,.box elem x,ty,pos,aft,c6⟩ elem b [v] (λq e=>.ptr q e 0 0):=by
 intro g nt f w p;have A:=s▸p.e.eval x;obtain⟨n,u⟩:=A.tZ r h;refine⟨(f.eval x).cells,1,.pointer (c4 ⟨w.heap.size,0,c6⟩),w,?_,.inl rfl,m,?_,?_,by simp[maxLen],by simp,?_,λD F C q e j l=>P7 j l⟩
 .simp[execOp,Instr.box,newVar,newRow]
 .intro i G a
  match i,a with
  |0,a=>simp at a;subst a;exact o
  |i+1,a=>simp at a
 .simp at n;omega
 .intro i k B c;obtain⟨rfl,c⟩:=Rk c;simpa using u k B c
def Hl(z:Value)(vs:List PV):kP z≠ .bu vs:=by
 unfold kP
 split
 .simp
 .unfold jq
  split <;> simp
def Ug{elem c:Nat}{b:Value}{v:PV}(r:dV P elem=c4 b)(h:kP b=v)(p:v.cells.length=c)(m:0<c)(s:v.cells.all PV.one=true):
 nY P E H ⟨d,.alloc elem,ty,pos,aft,c6⟩ elem c [v] (λq f=>.ptr q f 0 0):=by
 intro g nt C w F;have n:VR g H w v b:=h▸ .aW (AE _ _ _);obtain⟨o,u⟩:=n.tZ s (λvs=>h▸Hl b vs);refine⟨b.cells,1,.pointer (c4 ⟨w.heap.size,0,c6⟩),w,?_,.inl rfl,m,?_,?_,by simp[maxLen],by simp,?_,λD G B q f j l=>P7 j l⟩
 .simp[execOp,Instr.alloc,Ey r,newVar,newRow]
 .intro i I a
  match i,a with
  |0,a=>simp at a;subst a;exact p
  |i+1,a=>simp at a
 .simp at o;omega
 .intro i k A e;obtain⟨rfl,e⟩:=Rk e;simpa using u k A e
def kB(P:Program)(t:TypeId):Option Nat:=(P.info? t).map (·.bytes)
def Rq{b:Nat}{v:PV}{i f:Nat}{e:PV}(a:abk (hB b v) i f=c4 e):i<b/\v.cells[f]?=c4 e:=by
 unfold abk at a
 by_cases c:i<b
 .rw[List.getElem?_replicate_of_lt c] at a;exact⟨c,by simpa using a⟩
 .rw[hI (by simpa using c)] at a;simp at a
def aax{m k:Operand}{elem b l:Nat}{c:Value}{v:PV}{G D:IntKind}{A C:Int}{a:Nat}(Z:PE E m= .int G A)(f:PE E k= .int D C)(af:A=(a:Int))(J:C=(a:Int))(M:dU P t=c4 elem)(o:cH P elem=c4 b)(Y:kB P elem=c4 l)
 (ap:a*l<=281474976710656) (ao:a<=9223372036854775807) (X:dV P elem=c4 c) (F:kP c=v) (r:v.cells.length=b) (T:0<b) (ab:v.cells.all PV.one=true):
 nY P E H ⟨d,.makeSlice t m k,ty,pos,aft,c6⟩ elem b (hB a v) (λq s=>.sl q s 0 a):=by
 intro g nt al w u;have U:VR g H w v c:=F▸ .aW (AE _ _ _);obtain⟨W,ac⟩:=U.tZ ab (λvs=>F▸Hl c vs);have K:=(Z▸u.e.eval m).fQ;have O:=(f▸u.e.eval k).fQ;subst af;subst J;cases j:P.info? elem with
 |none=>simp[cH,j] at o
 |some e=>
  have aj:e.zero=c4 c:=by simpa[dV,j] using X
  have n:e.size=b:=by simpa[cH,j] using o
  have ag:e.bytes=l:=by simpa[kB,j] using Y
  have ak:(e.bytes:Int)*(a:Int)<=281474976710656:=by
   have:((e.bytes*a:Nat):Int)<=281474976710656:=by rw[ag,l2];omega
   rwa [Int.natCast_mul] at this
  have B:=run_make (P:=P) w t elem e c (gD M) j aj G D a a (by omega) (by omega) ak (by omega);simp only[Int.toNat_natCast] at B;have ad:c.cells.size=b:=by simp at W;omega
  refine⟨madeCells c.cells (a*e.size),a,.slice (c4 ⟨w.heap.size,0,c6⟩) a a,w,?_,.inl rfl,T,?_,?_,by unfold maxLen;omega,by simp,?_,λg' aq w' q s N R=>?_⟩
  .simp[execOp,K,O,B]
  .intro i am ah;have p:=(c7.1 ah).2;simp at p;subst p;exact r
  .rw[size_madeCells,n]
  .intro i h k f;obtain⟨an,f⟩:=Rq f;obtain⟨ae,aa,S,L⟩:=ac h k f;have ai:h<b:=by rw[<-r];exact(c7.1 f).1
   refine⟨ae,?_,S,L⟩
   have I:i*b+h<a*b:=by
    have:(i+1)*b<=a*b:=ev _ (by omega);rw[eo,hX] at this;omega
   have V:(i*b+h)%c.cells.size=h:=by
    rw[ad,l2,q3,p0 ai]
   simp only[madeCells,n];rw[Array.getElem?_map,Array.getElem?_range];rw[if_pos I];simp only[o1,V];rw[getElem!_def,aa]
  .have:=FO (g':=g') (w':=w') N R (by simp);simpa using this
end
section
variable {P:Program}{nt:Nat}{Q:fE}{E:Env}{H:List aO}{d:Option Nat}{ty:TypeId}{pos:String}{aft:Array Edge}{x y z:Operand}{t:TypeId}{all:Array Oper}{rest:List Oper}
def WX{e:List PV}{i:Nat}{j f:PV}(h:e[i]?=c4 j)(a b:Nat):abk (e.set i f) a b=if a=i then f.cells[b]? else abk e a b:=by
 unfold abk
 by_cases c:a=i
 .subst c;have g:=(c7.1 h).1;simp[g]
 .simp[c,ey (qb c)]
def QH{r v i a:Nat}{o:aO}{p e e':PV}(an:PE E x= .ptr r v i a)(N:ek H r o)(aB:o.aF=v)(aw:PE E y=p)(aj:cH P t=c4 p.cells.length)
 (al:p.cells.all PV.one=true) (ag:∀vs,p≠ .bu vs) (L:o.es[i]?=c4 e) (aM:a+p.cells.length<=e.cells.length) (W:e'.cells=e.cells.take a++p.cells++e.cells.drop (a+p.cells.length)):
 fJ P ⟨d,.store t x y,ty,pos,aft,c6⟩ E H λai H1=>ai= .any/\H1=H.set r ⟨o.ty,o.sz,o.es.set i e',o.aF⟩:=by
 intro g nt k w J aS aY aC;obtain⟨b,D,aK,ak,K,aG,Y,ad,az,O⟩:=Dc J.m (an▸J.e.eval x) N aB;have av:=aw▸J.e.eval y;obtain⟨B,ac⟩:=av.tZ al ag;have F:=J.m.obj r o N;have aN:=F.width i e L;have I:i*o.sz+a+0+(k.eval y).cells.toList.length<=aK.size:=by
  rw[ad,B];have:(i+1)*o.sz<=D*o.sz:=ev _ (by omega);rw[eo,hX] at this;omega
 have V:∀c∈(k.eval y).cells.toList,c.oneCell'=true:=by
  intro c j;obtain⟨s,ab,rfl⟩:=ej j;have ah:s<p.cells.length:=by omega
  obtain⟨c,j,m,_⟩:=ac s _ (c5 ah);have:(k.eval y).cells.toList[s]=c:=by
   rw[<-fe,c5 ab] at j;injection j
  rw[this];exact m
 have aa:=run_storeCells_at P b (i*o.sz+a) o.ty (k.eval y).cells.toList 0 aK w Y I V;simp only[l1] at aa;have aH:H[r]?=c4 o:=N;have aA:(execOp k.eval ⟨d,.store t x y,ty,pos,aft,c6⟩).run P w= .ok .skip (w.setRow b (aK.toList.take (i*o.sz+a)++(k.eval y).cells.toList++aK.toList.drop (i*o.sz+a+(k.eval y).cells.toList.length)).toArray):=by
  have ay:(k.eval y).cells.size=p.cells.length:=by simpa using B
  simp only[execOp,ak,Instr.storeAt,hD,gb,hz,ez,storeVar,run_sizeOf aj,ay,ne_eq,not_true_eq_false,if_false,aa]
 unfold n0;rw[aA];generalize T:(aK.toList.take (i*o.sz+a)++(k.eval y).cells.toList++aK.toList.drop (i*o.sz+a+(k.eval y).cells.toList.length)).toArray=n;have ao:n.size=aK.size:=by
  rw[<-T];simp only[kc,eH,ft,j5,gy];simp at I⊢;omega
 have aE:∀s,s<p.cells.length->n[i*o.sz+a+s]?=(k.eval y).cells[s]? :=λs ab=>by
  rw[<-T,kd,eE,dt (by simp;omega),dv (by simp at B⊢;omega)];simp
  congr 1
  simp at I;omega
 have R:∀q,q<i*o.sz+a\/i*o.sz+a+p.cells.length<=q->n[q]?=aK[q]? :=λq M=>by
  rw[<-T,kd];simp at I;rcases M with M |M
  .rw[eE,dv (by simp;omega),e0 M];simp
  .rw[dt (by simp at B⊢;omega),ea];simp at B⊢
   congr 1
   omega
 have aQ:i*o.sz+a<=aK.size:=by simp at I;omega
 have aD:=J.m.set (r:=r) (o:=o) (o':=⟨o.ty,o.sz,o.es.set i e',o.aF⟩) (w':=w.setRow b n) (p:=c4 (b,D)) aH rfl rfl rfl (by simp)
  (λZ aR af=>setRow_other w b Z n (λe=>af D (by rw[e];exact K))) (ef _) (λ_=>⟨rfl,by simp,K.symm⟩)
  (λZ aV U=>by injection U with U;injection U with V m;subst V;exact .inl ⟨D,K⟩) F.pos
  (λh S G=>by
   by_cases A:h=i
   .subst A;simp[aG] at G;subst G;rw[W];simp;omega
   .simp only at G;rw[ey (qb A)] at G;exact F.width h S G)
  (by
   have X:=F.mem;rw[K] at X;obtain⟨_,aI,aU,aJ,aF,aT,aP⟩:=X;refine⟨n,setRow_heap w b aK n o.ty (0,0) Y,by rw[ao,ad],aF,by simpa using az,λh l C f=>?_⟩
   show ∃c,n[h*o.sz+l]?=c4 c/\c.oneCell'=true/\VR g H w C c
   simp only at f;rw[WX L] at f
   by_cases A:h=i
   .subst A;rw[if_pos rfl,W,eE] at f
    by_cases ar:l<a
    .rw[dv (by simp;omega),e0 ar] at f;obtain⟨c,j,m,u⟩:=O h l C (by unfold abk;rw[L];exact f);exact⟨c,(R _ (.inl (by omega))).trans j,m,u⟩
    .rw[dt (by simp;omega)] at f;have au:min a e.cells.length=a:=by omega
     simp only[ft,au] at f
     by_cases ae:l -a<p.cells.length
     .rw[dv ae] at f;obtain⟨c,j,m,u⟩:=ac _ C f;refine⟨c,?_,m,u⟩
      have:=aE (l -a) ae;rw[show h*o.sz+a+(l -a)=h*o.sz+l by omega] at this;exact this.trans j
     .rw[dt (by omega),ea] at f;rw[show a+p.cells.length+(l -a -p.cells.length)=l by omega] at f;obtain⟨c,j,m,u⟩:=O h l C (by unfold abk;rw[L];exact f);exact⟨c,(R _ (.inr (by omega))).trans j,m,u⟩
   .rw[if_neg A] at f;obtain⟨c,j,m,u⟩:=O h l C f;refine⟨c,(R _ ?_).trans j,m,u⟩
    obtain⟨S,am,aX⟩:=gw f;have aL:=F.width h S am;rcases Nat.lt_or_gt_of_ne A with ap |jo
    .have:(h+1)*o.sz<=i*o.sz:=ev _ ap;rw[eo,hX] at this;exact .inl (by omega)
    .have:(i+1)*o.sz<=h*o.sz:=ev _ jo;rw[eo,hX] at this;exact .inr (by omega))
 obtain⟨ax,aq⟩:=aD;exact aC undef _ (g.push r (c4 (b,D))) .any _ ⟨rfl,rfl⟩ (.any _) aq ax
def lE(H:List aO)(p:PV)(e:Nat)(b:List PV):Prop:=
 p= .vs e b\/(p= .bg/\b=[])\/(p= .z0/\b=[])\/∃r v c len a,p= .sl r v c len/\ek H r a/\a.aF=v/\a.sz=e/\b=(a.es.drop c).take len
def Jv{b a q:Nat}(c:0<a)(e:q<b*a):q/a<b/\q%a<a/\q/a*a+q%a=q:=by
 refine⟨(Nat.div_lt_iff_lt_mul c).2 e,q5 _ c,?_⟩
 rw[l2];exact Nat.div_add_mod q a
def Gg{a:List PV}{c i b:Nat}(g:∀(i:Nat) (f:PV),a[i]?=c4 f->f.cells.length=c)(j:i<a.length)(k:b<c):∃h,abk a i b=c4 h:=by
 have e:=c5 j;have:=g i _ e;refine⟨a[i].cells[b]'(by omega),?_⟩
 unfold abk;rw[e];exact c5 (by omega)
def gI.one{g:Gh}{H:List aO}{w:World}{sz:Nat}{es:List PV}{k:List Value}(h:gI g H w sz es k)(n:0<sz)(m:∀(i:Nat) (e:PV),es[i]?=c4 e->e.cells.length=sz):∀j∈k,j.oneCell'=true:=by
 intro j A;obtain⟨q,l,rfl⟩:=ej A;obtain⟨u,o,B⟩:=Jv n (h.1▸l);obtain⟨c,C⟩:=Gg m u o;obtain⟨j,a,s,_⟩:=h.2 _ _ _ C;rw[B,c5 l] at a;injection a with a
 rw[a];exact s
def lE.real{g:Gh}{w:World}{p:PV}{sz:Nat}{l:List PV}{v:Value}(ac:bF g H w)(h:lE H p sz l)(s:VR g H w p v)(M:0<sz):
 (∀(i:Nat) (e:PV),l[i]?=c4 e->e.cells.length=sz)/\∃a cap,v= .slice a l.length cap/\(l=[]\/∃L O,a=c4 L/\gI g H w sz l O/\∀k m,O[k]?=c4 m->w.cell? (L.add k)=c4 m):=by
 rcases h with rfl |⟨rfl,rfl⟩ |⟨rfl,rfl⟩ |⟨r,al,off,len,j,rfl,N,ak,B,rfl⟩
 .cases s with
  |aW s=>
   cases s with
   |eX sz a cap=>exact⟨by simp,a,cap,rfl,.inl rfl⟩
   |vs _ _ b off cap m J ap B u I ai=>
    refine⟨B,c4 ⟨b,off,c6⟩,cap,rfl,.inr ⟨⟨b,off,c6⟩,(n2 (l.length*sz)).map λq=>m (q/sz) (q%sz),rfl,⟨by simp,λi k c A=>?_⟩,λq an D=>?_⟩⟩
    .obtain⟨e,he,af⟩:=gw A;have hi:=(c7.1 he).1;have ab:=B i e he;have F:i*sz+k<l.length*sz:=by
      have:(i+1)*sz<=l.length*sz:=ev _ (by omega);rw[eo,hX] at this;omega
     refine⟨m i k,?_,I i k c A,.aW (ai i k c A)⟩
     rw[e6,h9 F];have ae:(i*sz+k)/sz=i:=by rw[l2,Nat.mul_add_div M,Nat.div_eq_of_lt (by omega)];omega
     have aa:(i*sz+k)%sz=k:=by rw[l2,q3,p0 (by omega)]
     simp[ae,aa]
    .have K:q<l.length*sz:=by
      have:=(c7.1 D).1;simpa using this
     rw[e6,h9 K] at D;simp at D;subst D;obtain⟨S,ad,W⟩:=Jv M K;obtain⟨c,A⟩:=Gg B S ad;have:=u _ _ _ A;rw[W] at this;rw[h8];exact this
 .exact⟨by simp,c6,0,s.pF,.inl rfl⟩
 .obtain⟨a,ag⟩:=s.rh;exact⟨by simp,a,0,ag,.inl rfl⟩
 .have o:=lh s N ak;have G:=ac.obj r j N;subst B;unfold SL at o;obtain⟨am,o⟩:=o;have J:((j.es.drop off).take len).length=len:=by simp;omega
  refine⟨λi e he=>?_,?_⟩
  .rw[h6] at he
   split at he
   .rw[ea] at he;exact G.width _ e he
   .cases he
  .rw[J]
   split at o
   .obtain⟨_,rfl,a,rfl⟩:=o;exact⟨a,0,rfl,.inl (by simp)⟩
   .rename_i b C V;obtain⟨cap,a,rfl,_,T,_⟩:=o;refine⟨a,cap,rfl,?_⟩
    by_cases h0:len=0
    .exact .inl (by simp[h0])
    .obtain rfl:=T h0;have R:=G.mem;rw[V] at R;obtain⟨_,cells,aj,Z,aq,ao,X⟩:=R;have ah:(off+len)*j.sz<=C*j.sz:=ev _ (by omega);rw[eo] at ah;refine .inr ⟨⟨b,off*j.sz,c6⟩,(cells.toList.drop (off*j.sz)).take (len*j.sz),rfl,⟨by rw[J,ft,j5,gy,Z];omega,λi k c u=>?_⟩,λq m n=>?_⟩
     .obtain⟨e,he,af⟩:=gw u;rw[h6] at he
      split at he
      .rename_i hi;rw[ea] at he;have ab:=G.width _ e he;have Y:abk j.es (off+i) k=c4 c:=by
        unfold abk at u⊢;rw[e0 hi,ea] at u;exact u
       obtain⟨m,n,I,U⟩:=X _ _ _ Y;refine⟨m,?_,I,U⟩
       have F:i*j.sz+k<len*j.sz:=by
        have:(i+1)*j.sz<=len*j.sz:=ev _ (by omega);rw[eo,hX] at this;omega
       rw[e0 F,ea,fe, <-j1, <-eo];exact n
      .cases he
     .rw[h6] at n
      split at n
      .rw[ea,fe] at n;rw[h8,cell_of_row w b _ cells j.ty (0,0) aj];exact n
      .cases n
end
section
variable {P:Program}{nt:Nat}{Q:fE}{E:Env}{H:List aO}{d:Option Nat}{ty:TypeId}{pos:String}{aft:Array Edge}{x y z:Operand}{t:TypeId}{all:Array Oper}{rest:List Oper}
def xr{e:World}{k f:TypeId}{g a cap h:Nat}{b c:Option Addr}(i:P.underlying t=c4 (.slice f))(l:cH P f=c4 g)(j:a<=cap):
 (hL #[t,t] k #[.slice b a cap,.slice c 0 h]).run P e= .ok (.slice b a cap) e:=by
 cases b <;> cases c <;> simp[hL,run_underlying i,run_sizeOf l,Builtin.lenOf,Builtin.firstCells,j,loadCells,loadCellsFrom,storeCells]
def Ei{b:Operand}{a:Act}{c:World}:(execOp a.eval ⟨d,.call {callee:=.builtin .append,args:=#[b,x],argTypes:=#[t,t]},ty,pos,aft,c6⟩).run P c=
 ((hL #[t,t] ty #[a.eval b,a.eval x]).run P c).andThen λv e=>.ok (.value v) e:=by
 simp[execOp,resolve,invoke,builtin]
def Pb{s:Operand}{r v len by_:Nat}{o:aO}{p:PV}{c:List PV}{K:Value}(bi:PE E s= .sl r v 0 len)(al:ek H r o)(bm:o.aF=v)(a2:PE E x=p)(bv:lE H p o.sz c)
 (L:dU P t=c4 o.ty) (S:cH P o.ty=c4 o.sz) (be:kB P o.ty=c4 by_) (a0:dV P o.ty=c4 K) (aB:K.cells.size=o.sz) (aM:(len+c.length)*by_<=140737488355328) (bl:len+c.length<=9223372036854775807):
 fJ P ⟨d,.call {callee:=.builtin .append,args:=#[s,x],argTypes:=#[t,t]},ty,pos,aft,c6⟩ E H λaV H1=>aV= .sl r (v+1) 0 (len+c.length)/\H1=H.set r ⟨o.ty,o.sz,o.es.take len++c,v+1⟩:=by
 intro g nt ax a Y bz bE bp;have U:=Y.m.obj r o al;have ad:=U.pos;have bd:=lh (bi▸Y.e.eval s) al bm;obtain⟨aE,br,T,bf,aG⟩:=bv.real Y.m (a2▸Y.e.eval x) ad;obtain⟨aZ,ab⟩:=id bd;simp only[gx] at aZ;have aR:H[r]?=c4 o:=al;have ao:len+c.length<=maxLen:=by unfold maxLen;omega
 cases I:P.info? o.ty with
 |none=>simp[cH,I] at S
 |some J=>
 have ap:J.zero=c4 K:=by simpa[dV,I] using a0
 have aH:J.size=o.sz:=by simpa[cH,I] using S
 have W:J.bytes=by_:=by simpa[kB,I] using be
 have ah:(o.es.take len).length=len:=by simp;omega
 have ay:∀(i:Nat) (m:PV),(o.es.take len++c)[i]?=c4 m->m.cells.length=o.sz:=by
  intro i m F
  by_cases aj:i<len
  .rw[dv (by omega),e0 aj] at F;exact U.width i m F
  .rw[dt (by omega)] at F;exact aE _ m F
 have bq:∃(D:Value) (j:World) (q:Option (Nat×Nat)),(hL #[t,t] ty #[ax.eval s,ax.eval x]).run P a= .ok D j/\
  j.os=a.os/\j.tape=a.tape/\j.output=a.output/\a.heap.size<=j.heap.size/\(∀b,b<a.heap.size->(∀e,g.β r≠c4 (b,e))->j.heap[b]?=a.heap[b]?)/\
  (∀b e,q=c4 (b,e)->(∃O,g.β r=c4 (b,O))\/a.heap.size<=b)/\
  wG g H a j ⟨o.ty,o.sz,o.es.take len++c,v+1⟩ q/\
  (match q with
   |none=>len+c.length=0/\∃w,D= .slice w 0 0
   |some (b,e)=>D= .slice (c4 ⟨b,0,c6⟩) (len+c.length) e/\len+c.length<=e):=by
  have ak:∀(V n:List Value) (cells:Array Value),V.length=len*o.sz->gI g H a o.sz c n->(∀i h l,i<len->abk o.es i h=c4 l->∃k,V[i*o.sz+h]?=c4 k/\k.oneCell'=true/\VR g H a l k)->
   cells.toList.take ((len+c.length)*o.sz)=V++n->∀i h l,abk (o.es.take len++c) i h=c4 l->∃k,cells[i*o.sz+h]?=c4 k/\k.oneCell'=true/\VR g H a l k:=by
   intro V n cells M C ai a1 i h l A;obtain⟨m,F,a3⟩:=gw A;have bD:=ay i m F;have aj:=(c7.1 F).1;rw[eH,ah] at aj;have bo:i*o.sz+h<(len+c.length)*o.sz:=by
    have:(i+1)*o.sz<=(len+c.length)*o.sz:=ev _ (by omega);rw[eo,hX] at this;omega
   have a4:cells[i*o.sz+h]?=(V++n)[i*o.sz+h]? :=by rw[<-a1,e0 bo,fe]
   rw[a4]
   by_cases az:i<len
   .have am:abk o.es i h=c4 l:=by
     unfold abk at A⊢;rw[dv (by omega),e0 az] at A;exact A
    obtain⟨k,N,B,G⟩:=ai i h l az am;refine⟨k,?_,B,G⟩
    rw[dv (c7.1 N).1];exact N
   .have am:abk c (i -len) h=c4 l:=by
     unfold abk at A⊢;rw[dt (by omega),ah] at A;exact A
    obtain⟨k,N,B,G⟩:=C.2 _ _ _ am;refine⟨k,?_,B,G⟩
    have aC:i*o.sz=len*o.sz+(i -len)*o.sz:=by rw[<-eo];congr 1;omega
    rw[dt (by rw[M,aC];omega),M,aC];rw[show len*o.sz+(i -len)*o.sz+h -len*o.sz=(i -len)*o.sz+h by omega];exact N
  rw[bf];cases aa:g.β r with
  |none=>
   rw[aa] at ab;obtain⟨_,rfl,aw,an⟩:=ab;rw[an];have bw:o.es=[]:=by have:=U.mem;rw[aa] at this;exact this
   rcases aG with rfl |⟨w,n,rfl,C,ae⟩
   .exact⟨_,a,c6,xr (gD L) S (ef _),rfl,rfl,rfl,ef _,λ_ _ _=>rfl,(λ_ _ f=>by cases f),by simp[wG],by simp⟩
   .by_cases aJ:c=[]
    .subst aJ;exact⟨_,a,c6,xr (gD L) S (ef _),rfl,rfl,rfl,ef _,λ_ _ _=>rfl,(λ_ _ f=>by cases f),by simp[wG],by simp⟩
    .have aU:0<c.length:=o9.2 aJ;have aP:n.length=c.length*J.size:=by rw[aH];exact C.1
     simp only[gx] at aM bl ao;have aX:∃e,(hL #[t,t] ty #[.slice aw 0 0,.slice (c4 w) c.length T]).run P a= .ok (.slice (c4 ⟨a.heap.size,0,c6⟩) c.length e) (a.drew.alloc (.cells (n.toArray++m2 K.cells (e -c.length)) o.ty))/\c.length<=e/\e<=maxLen:=by
      refine⟨grownCap a c.length 0 o.ty,?_,grownCap_ge a _ _ _,grownCap_le_maxLen a _ _ _ ao⟩
      cases aw with
      |none=>exact run_append_nil a t ty o.ty J K (gD L) I ap w c.length T n aP ae aU (by omega) (by rw[W];omega)
      |some a8=>
       have:=run_append_grow (P:=P) a t ty o.ty J K (gD L) I ap a8 0 0 [] (by simp) (by simp) w c.length T n aP ae (by omega) (by omega) (growslice_fits (by omega) (by rw[W,gx];omega));simpa using this
     obtain⟨e,X,aS,ba⟩:=aX;refine⟨_,_,c4 (a.heap.size,e),X,rfl,rfl,rfl,by simp,λb bk _=>gv a.drew _ b bk,λb O f=>by injection f with f;injection f with B G;exact .inr (by omega),?_,by simp,by simpa using aS⟩
     refine⟨_,heap_alloc_new a.drew _,?_,ba,by simpa using aS,?_⟩
     .simp only[oS,kc,size_zeroCells,aB,C.1, <-eo]
      congr 1
      omega
     .refine ak [] n _ (by simp) C (λi h l I=>by omega) ?_
      simp only[Array.toList_append,o2,gx];rw[<-C.1];exact List.take_left
  |some R=>
   obtain⟨b,e⟩:=R;rw[aa] at ab;obtain⟨cap,aw,an,af,_,has⟩:=ab;obtain⟨rfl,rfl⟩:=has rfl;rw[an];have aF:=U.mem;rw[aa] at aF;obtain⟨bx,aK,aL,aA,aQ,bA,bc⟩:=aF;have ai:∀i h l,i<len->abk o.es i h=c4 l->∃k,(aK.toList.take (len*o.sz))[i*o.sz+h]?=c4 k/\k.oneCell'=true/\VR g H a l k:=by
    intro i h l aj A;obtain⟨k,N,B,G⟩:=bc i h l A;refine⟨k,?_,B,G⟩
    obtain⟨m,F,a3⟩:=gw A;have bB:=U.width i m F;have a5:i*o.sz+h<len*o.sz:=by
     have:(i+1)*o.sz<=len*o.sz:=ev _ (by omega);rw[eo,hX] at this;omega
    rw[e0 a5,fe];exact N
   have M:(aK.toList.take (len*o.sz)).length=len*o.sz:=by
    have:len*o.sz<=cap*o.sz:=ev _ af;simp;omega
   have aI:c=[]->∃(D:Value) (j:World) (q:Option (Nat×Nat)),(hL #[t,t] ty #[.slice (c4 ⟨b,0,c6⟩) len cap,.slice br c.length T]).run P a= .ok D j/\
    j.os=a.os/\j.tape=a.tape/\j.output=a.output/\a.heap.size<=j.heap.size/\(∀u,u<a.heap.size->(∀e,c4 (b,cap)≠c4 (u,e))->j.heap[u]?=a.heap[u]?)/\
    (∀u e,q=c4 (u,e)->(∃O,c4 (b,cap)=c4 (u,O))\/a.heap.size<=u)/\
    wG g H a j ⟨o.ty,o.sz,o.es.take len++c,v+1⟩ q/\
    (match q with
     |none=>len+c.length=0/\∃w,D= .slice w 0 0
     |some (b,e)=>D= .slice (c4 ⟨b,0,c6⟩) (len+c.length) e/\len+c.length<=e):=by
    rintro rfl;refine⟨_,a,c4 (b,cap),xr (gD L) S af,rfl,rfl,rfl,ef _,λ_ _ _=>rfl,λu O f=>by injection f with f;injection f with B G;exact .inl ⟨cap,by rw[B]⟩,?_,by simp,by simpa using af⟩
    refine⟨aK,aL,aA,aQ,by simp;omega,ak _ [] aK M ⟨by simp,by simp[abk]⟩ ai (by simp)⟩
   rcases aG with rfl |⟨w,n,rfl,C,ae⟩
   .exact aI rfl
   .have bn:a.ownsRow 0 o.ty o.sz (.slice (c4 ⟨b,0,c6⟩) len cap) len (aK.toList.take (len*o.sz)):=
     ⟨M,.inr ⟨b,cap,aK,rfl,pc _,aL,af,aQ,aA,rfl⟩⟩
    obtain⟨bC,j,X,bt,Z,_,aN⟩:=run_append_own_at (P:=P) a 0 t ty o.ty J K o.sz by_ (gD L) I ap aH W aB ad _ len _ bn w c.length T n C.1 ae (C.one ad aE) ao aM (pc _);rcases bt.2 with⟨rfl,h0⟩ |⟨aY,a7,aD,rfl,_,av,ac,aq,au,ar⟩
    .refine aI ?_
     have:c.length=0:=by omega
     exact e5 this
    .refine⟨_,j,c4 (aY,a7),X,Z.os,Z.tape,Z.output,Z.size,λu W aT=>Z.block u W (λm=>aT cap (by simp[q6] at m;rw[m])),λu O f=>?_,⟨aD,av,au,aq,by rw[eH,ah];exact ac,ak _ n aD M C ai ar⟩,rfl,ac⟩
     injection f with f
     injection f with B G
     subst B;simp only[q6] at aN;rcases aN with f |f
     .injection f with f
      exact .inl ⟨cap,by rw[f]⟩
     .injection f with f
      exact .inr (by omega)
 obtain⟨D,j,q,X,av,ac,aq,au,ar,bs,a9,ag⟩:=bq;unfold n0;rw[Ei,X];obtain⟨bb,a6⟩:=Y.m.set (o':=⟨o.ty,o.sz,o.es.take len++c,v+1⟩) aR av ac aq au ar (by simp;omega) (λm=>absurd m (by simp;omega)) bs ad ay a9;have bh:r<H.length:=(c7.1 aR).1;refine bp D j (g.push r q) _ _ ⟨rfl,rfl⟩ ?_ a6 bb
 refine .sl r (v+1) 0 _ ⟨o.ty,o.sz,o.es.take len++c,v+1⟩ D (by rw[ee bh]) (ef _) ?_ λ_=>?_
 .cases q with
  |none=>obtain⟨_,w,rfl⟩:=ag;rfl
  |some R=>obtain⟨b,e⟩:=R;obtain⟨rfl,_⟩:=ag;rfl
 .refine⟨by simp[ah],?_⟩
  rw[Gh.kg];cases q with
  |none=>
   obtain⟨h0,w,rfl⟩:=ag;exact⟨rfl,h0,w,rfl⟩
  |some R=>
   obtain⟨b,e⟩:=R;obtain⟨rfl,bj⟩:=ag;exact⟨e,_,rfl,bj,λ_=>by simp,λ_=>⟨rfl,rfl⟩⟩
end
section
variable {P:Program}{nt:Nat}{Q:fE}{E:Env}{H:List aO}{d:Option Nat}{ty:TypeId}{pos:String}{aft:Array Edge}{gd:Option (Nat×Bool)}{x y z:Operand}{t:TypeId}{all:Array Oper}{rest:List Oper}
def PO{m:Operand}{c j v:Nat}{p:PV}{a:List PV}{f:Value}(o:PE E m= .bg\/PE E m= .z0)(aj:PE E x=p)(ap:lE H p j a)(D:0<j)
 (B:dU P t=c4 c) (G:cH P c=c4 j) (af:kB P c=c4 v) (ad:dV P c=c4 f) (ak:f.cells.size=j) (ax:a.length*v<=140737488355328) (au:a.length<=9223372036854775807) (J:a≠[]):
 nY P E H ⟨d,.call {callee:=.builtin .append,args:=#[m,x],argTypes:=#[t,t]},ty,pos,aft,c6⟩ c j a (λq I=>.sl q I 0 a.length):=by
 have U:∀g nt (n:Act) b,Rel g nt E H n b->∃s,n.eval m= .slice s 0 0:=λg nt n b k=>by
  rcases o with o |o
  .exact⟨c6,(o▸k.e.eval m).pF⟩
  .exact(o▸k.e.eval m).rh
 have ai:a.length<=maxLen:=by unfold maxLen;omega
 intro g nt n b k;obtain⟨s,ag⟩:=U g nt n b k;obtain⟨V,av,A,ah,am⟩:=ap.real k.m (aj▸k.e.eval x) D;rcases am with rfl |⟨w,r,rfl,u,F⟩
 .exact absurd rfl J
 cases l:P.info? c with
 |none=>simp[cH,l] at G
 |some h=>
 have M:h.zero=c4 f:=by simpa[dV,l] using ad
 have S:h.size=j:=by simpa[cH,l] using G
 have L:h.bytes=v:=by simpa[kB,l] using af
 have C:r.length=a.length*h.size:=by rw[S];exact u.1
 have T:0<a.length:=o9.2 J;have ac:∃e,(hL #[t,t] ty #[.slice s 0 0,.slice (c4 w) a.length A]).run P b= .ok (.slice (c4 ⟨b.heap.size,0,c6⟩) a.length e) (b.drew.alloc (.cells (r.toArray++m2 f.cells (e -a.length)) c))/\a.length<=e/\e<=maxLen:=by
  refine⟨grownCap b a.length 0 c,?_,grownCap_ge b _ _ _,grownCap_le_maxLen b _ _ _ ai⟩
  cases s with
  |none=>exact run_append_nil b t ty c h f (gD B) l M w a.length A r C F T (by omega) (by rw[L];omega)
  |some X=>
   have:=run_append_grow (P:=P) b t ty c h f (gD B) l M X 0 0 [] (by simp) (by simp) w a.length A r C F (by omega) (by omega) (growslice_fits (by omega) (by rw[L,gx];omega));simpa using this
 obtain⟨e,ae,N,Z⟩:=ac;refine⟨r.toArray++m2 f.cells (e -a.length),e,.slice (c4 ⟨b.heap.size,0,c6⟩) a.length e,b.drew,?_,.inr rfl,D,V,?_,Z,N,λi Y an ao=>?_,λar aw aq q I W aa=>FO W aa N⟩
 .rw[Ei,ag,ah,ae]
  rfl
 .simp only[oS,kc,size_zeroCells,ak,u.1, <-eo]
  congr 1
  omega
 .obtain⟨al,K,ab,R⟩:=u.2 i Y an ao;refine⟨al,?_,ab,R⟩
  have O:=(c7.1 K).1;rw[Array.getElem?_append_left (by simpa using O)];simpa using K
def Oh{s:Operand}{b a o q K I f:Nat}{p:PV}{e:List PV}{w:Value}(l:H[q]?=c4 ⟨K,I,[],f⟩)(h:PE E s= .bg\/PE E s= .z0)(v:PE E x=p)(A:lE H p a e)(m:0<a)
 (n:dU P t=c4 b) (r:cH P b=c4 a) (M:kB P b=c4 o) (L:dV P b=c4 w) (R:w.cells.size=a) (U:e.length*o<=140737488355328) (J:e.length<=9223372036854775807):
 fJ P ⟨d,.call {callee:=.builtin .append,args:=#[s,x],argTypes:=#[t,t]},ty,pos,aft,c6⟩ E H λG H1=>G= .sl q (f+1) 0 e.length/\H1=H.set q ⟨b,a,e,f+1⟩:=by
 have C:∀g nt (i:Act) j,Rel g nt E H i j->∃k,i.eval s= .slice k 0 0:=λg nt i j c=>by
  rcases h with h |h
  .exact⟨c6,(h▸c.e.eval s).pF⟩
  .exact(h▸c.e.eval s).rh
 have Y:e.length<=maxLen:=by unfold maxLen;omega
 by_cases u:e=[]
 .subst u;intro g nt i j c Z V F;obtain⟨k,N⟩:=C g nt i j c;obtain⟨_,W,X,O,_⟩:=A.real c.m (v▸c.e.eval x) m;unfold n0;rw[Ei,N,O,l0,xr (gD n) r (ef _)];have T:=(c7.1 l).1;obtain⟨D,B⟩:=c.m.set (o':=⟨b,a,[],f+1⟩) (p:=c6) l rfl rfl rfl (ef _) (λ_ _ _=>rfl) (by simp) (λS=>absurd S (by simp)) (by simp) m (by simp) rfl;refine F (.slice k 0 0) j (g.push q c6) _ _ ⟨rfl,rfl⟩ ?_ B D
  refine .sl _ (f+1) 0 0 ⟨b,a,[],f+1⟩ _ (by simp[T]) (ef _) rfl λ_=>⟨by simp,?_⟩
  rw[Gh.kg];exact⟨rfl,rfl,k,rfl⟩
 .exact sX l (PO h v A m n r M L R U J u)
def mU(E:Env)(c:Nat):Option Operand->Nat->Prop
 |none,a=>a=c
 |some f,a=>∃e b,PE E f= .int e b/\b=(a:Int)
def sQ{p:World}{r s:Nat}{m:Option Addr}{len cap a c:Nat}{h f:Option Operand}{e:Act}{g:Gh}{H:List aO}(w:fI g H p nt E e)(B:dU P t=c4 r)(j:cH P r=c4 s)(u:mU E 0 h a)(v:mU E len f c)(A:a<=c)(q:c<=cap):
 (j6 t (.slice m len cap) (h.map e.eval) (f.map e.eval) (c6:Option Value)).run P p= .ok (.slice (if cap=a then m else m.map (·.add (a*s))) (c -a) (cap -a)) p:=by
 have i:=gD B;have l:h=c6/\a=0\/∃b,h.map e.eval=c4 (.int b (a:Int)):=by
  cases h with
  |none=>exact .inl ⟨rfl,u⟩
  |some n=>
   obtain⟨b,C,o,rfl⟩:=u;exact .inr ⟨b,by simp[(o▸w.eval n).fQ]⟩
 have k:f=c6/\c=len\/∃b,f.map e.eval=c4 (.int b (c:Int)):=by
  cases f with
  |none=>exact .inl ⟨rfl,v⟩
  |some n=>
   obtain⟨b,C,o,rfl⟩:=v;exact .inr ⟨b,by simp[(o▸w.eval n).fQ]⟩
 have D:((c:Nat):Int)<=(cap:Int):=by omega
 have G:((a:Nat):Int)<=(c:Int):=by omega
 rcases l with⟨rfl,rfl⟩ |⟨b,l⟩ <;> rcases k with⟨rfl,rfl⟩ |⟨F,k⟩
 .simp[j6,m3,run_underlying i,j3,run_sizeOf j]
 .simp[j6,m3,run_underlying i,j3,run_sizeOf j,k,kh,asIntOf,q]
 .simp[j6,m3,run_underlying i,j3,run_sizeOf j,l,kh,asIntOf,A]
 .simp[j6,m3,run_underlying i,j3,run_sizeOf j,l,k,kh,asIntOf,A,q]
def FV{f:List PV}{b c i h:Nat}{g:PV}(a:abk ((f.take c).drop b) i h=c4 g):abk f (b+i) h=c4 g/\b+i<c:=by
 unfold abk at*;rw[ea] at a
 by_cases e:b+i<c
 .rw[e0 e] at a;exact⟨a,e⟩
 .rw[hI (by simp;omega)] at a;simp at a
def aaK{a I l h:Nat}{c D:List PV}{K A:Option Operand}(W:PE E x= .vs a c)(q:dU P t=c4 I)(v:cH P I=c4 a)(s:mU E 0 K l)(u:mU E c.length A h)(B:l<=h)(p:h<=c.length)(e:(c.take h).drop l=D):
 cM P ⟨d,.slice t x K A c6,ty,pos,aft,gd⟩ E H (.vs a D):=by
 intro g nt O w n;have o:=W▸n.e.eval x;subst e;have C:((c.take h).drop l).length=h -l:=by simp;omega
 generalize r:O.eval x=ad at o;cases o with
 |aW o=>
  cases o with
  |eX a G cap=>
   simp only[l0,Nat.le_zero] at p;subst p;have M:l=0:=by omega
   subst M;refine⟨.slice (if cap=0 then G else G.map (·.add (0*a))) (0 -0) (cap -0),?_,.aW (.eX a _ _)⟩
   have Y:mU E 0 A 0:=u;simp only[execOp,r,ie,gb,sQ n.e q v s Y B (pc _),ez,hz]
  |vs _ _ b m cap X J U V T S Z=>
   by_cases ab:l<h
   .refine⟨.slice (c4 ⟨b,m+l*a,c6⟩) (h -l) (cap -l),?_,?_⟩
    .have L:¬cap=l:=by omega
     simp only[execOp,r,ie,gb,sQ n.e q v s u B (hq p J),ez,hz,if_neg L,o1,h8]
    .have:=VI.vs (F:=g.F) (w:=w) a ((c.take h).drop l) b (m+l*a) (cap -l) (λi f=>X (l+i) f) (by omega) U
      (λi aa e=>by
       rw[ea] at e
       by_cases R:l+i<h
       .rw[e0 R] at e;exact V _ aa e
       .rw[hI (by simp;omega)] at e;cases e)
      (λi f k j=>by
       have:=T (l+i) f k (FV j).1;rw[eo] at this;rw[<-this]
       congr 2
       omega)
      (λi f k j=>S _ _ k (FV j).1) (λi f k j=>Z _ _ k (FV j).1)
     rw[C] at this;exact .aW this
   .have ac:l=h:=by omega
    have N:(c.take h).drop l=[]:=e5 (by rw[C];omega);rw[N];refine⟨.slice (if cap=l then c4 ⟨b,m,c6⟩ else(c4 ⟨b,m,c6⟩:Option Addr).map (·.add (l*a))) 0 (cap -l),?_,.aW (.eX a _ _)⟩
    simp only[execOp,r,ie,gb,sQ n.e q v s u B (hq p J),ez,hz];rw[show h -l=0 by omega]
def acJ{f a:Nat}{c e:Option Operand}(l:PE E x= .bg)(j:dU P t=c4 a)(k:cH P a=c4 f)(h:mU E 0 c 0)(i:mU E 0 e 0):
 cM P ⟨d,.slice t x c e c6,ty,pos,aft,gd⟩ E H .bg:=by
 intro g nt n o b;have m:=(l▸b.e.eval x).pF;refine⟨.slice c6 0 0,?_,.aW .bg⟩
 simp only[execOp,m,ie,gb,sQ b.e j k h i (ef _) (ef _),ez,hz]
 rfl
def SC{o r v p len l h:Nat}{a:aO}{lo hi:Option Operand}(F:PE E x= .sl r v p len)(j:ek H r a)(J:a.aF=v)(m:dU P t=c4 o)(u:cH P o=c4 a.sz)(q:mU E 0 lo l)(s:mU E len hi h)(I:l<=h)(K:h<=len):
 cM P ⟨d,.slice t x lo hi c6,ty,pos,aft,gd⟩ E H (.sl r v (p+l) (h -l)):=by
 intro g nt M T k;have c:=lh (F▸k.e.eval x) j J;have n:v<=a.aF:=by omega
 unfold SL at c;obtain⟨O,c⟩:=c;cases f:g.β r with
 |none=>
  rw[f] at c;obtain⟨rfl,rfl,e,i⟩:=c;have h0:h=0:=by omega
  have D:l=0:=by omega
  subst h0;subst D;refine⟨.slice e 0 0,?_,.sl r v _ _ a _ j n rfl λ_=>⟨by omega,?_⟩⟩
  .simp only[execOp,i,ie,gb,sQ k.e m u q s (ef _) (ef _),ez,hz]
   rfl
  .rw[f];exact⟨rfl,rfl,e,rfl⟩
 |some C=>
  obtain⟨b,N⟩:=C;rw[f] at c;obtain⟨cap,e,i,G,w,h0⟩:=c;refine⟨.slice (if cap=l then e else e.map (·.add (l*a.sz))) (h -l) (cap -l),?_,.sl r v _ _ a _ j n rfl λ_=>⟨by omega,?_⟩⟩
  .simp only[execOp,i,ie,gb,sQ k.e m u q s I (hq K G),ez,hz]
  .rw[f];refine⟨cap -l,_,rfl,by omega,λR=>?_,λS=>?_⟩
   .rw[if_neg (by omega),w (by omega),o1,h8,eo]
   .obtain⟨B,L⟩:=h0 (by omega);have A:l=0:=by omega
    subst A;subst B;refine⟨?_,by omega⟩
    split
    .rfl
    .simp[Addr.add_zero']
def Zm{c h:Nat}{e b:Operand}{m u:IntKind}{s:List PV}(o:lE H (PE E x) c s)(j:0<c)(i:dU P t=c4 h)(p:cH P h=c4 c)(n:PE E e= .int m 0)(q:PE E b= .int u 0):
 cM P ⟨d,.slice t x c6 (c4 e) (c4 b),ty,pos,aft,gd⟩ E H .z0:=by
 intro g nt v w a;obtain⟨_,f,cap,l,_⟩:=o.real a.m (a.e.eval x) j;refine⟨.slice f 0 0,?_,.aW (.z0 f)⟩
 have r:=(n▸a.e.eval e).fQ;have k:=(q▸a.e.eval b).fQ;simp[execOp,l,r,k,j6,m3,run_underlying (gD i),j3,run_sizeOf p,kh,asIntOf]
end
def MV(b:Nat):∀(e:List Value) (a:Nat) (c:Array Value),b+a+e.length<=c.size->
 (e.zipIdx a).foldl (λc p=>c.setIfInBounds (b+p.2) p.1) c=(c.toList.take (b+a)++e++c.toList.drop (b+a+e.length)).toArray
 |[],a,c,_=>by simp
 |i::e,a,c,g=>by
  rw[List.zipIdx_cons,List.foldl_cons,MV b e (a+1) _ (by simp at g⊢;omega)];simp only[my] at g
  congr 1
  apply List.ext_getElem?
  intro f;simp only[Array.toList_setIfInBounds,my]
  by_cases l:f<b+a
  .rw[eE,eE,dv (by simp;omega),dv (by simp;omega),e0 (by omega),e0 l,ey (by omega)]
  .by_cases k:f=b+a
   .subst k;rw[eE,eE,dv (by simp;omega),e0 (by omega),ee (by simp;omega),dt (by simp;omega)];have:min (b+a) c.size=b+a:=by omega
    simp[this]
   .rw[eE,eE,dt (l₁:=(c.toList.set (b+a) i).take (b+(a+1))) (by simp;omega),dt (l₁:=c.toList.take (b+a)) (by simp;omega)];have j:min (b+(a+1)) c.size=b+(a+1):=by omega
    have m:min (b+a) c.size=b+a:=by omega
    simp only[ft,o3,gy,j,m,List.cons_append];rw[show f - (b+a)=(f - (b+(a+1)))+1 by omega,List.getElem?_cons_succ]
    by_cases h:f - (b+(a+1))<e.length
    .rw[dv h,dv h]
    .rw[dt (by omega),dt (by omega),ea,ea,ey (by omega)]
     congr 1
     omega
def ajC{place:Nat->Option (Nat×Nat)}{cells:Array Value}{i a size:Nat}{v:Value}{rest:List (Nat×Value)}(c:place i=c4 (a,size))(b:v.cells.size=size)(e:a+size<=cells.size):
 kl place cells ((i,v)::rest)=kl place (cells.toList.take a++v.cells.toList++cells.toList.drop (a+size)).toArray rest:=by
 have f:(c3 (v.cells.size≠size)||c3 (a+v.cells.size>cells.size))=false:=by simp[b];omega
 simp only[kl,c];rw[if_neg (by simp[b];omega)]
 congr 1
 have:=MV a v.cells.toList 0 cells (by simp[b];omega);simp only[l1,gy,b] at this;rw[<-this, <-Array.foldl_toList,Array.toList_zipIdx]
def qn(E:Env):List (Nat×Operand)->List (Nat×PV)->Prop
 |[],[]=>True
 |(i,c)::r,(a,v)::b=>i=a/\PE E c=v/\qn E r b
 |_,_=>False
def mE(place:Nat->Option (Nat×Nat))(cells:List PV):List (Nat×PV)->Option (List PV)
 |[]=>c4 cells
 |(i,v)::r=>
  match place i with
  |none=>c6
  |some (a,size)=>bif e4 v.cells.length size&&hK (a+size) cells.length&&v.cells.all PV.one then mE place (cells.take a++v.cells++cells.drop (a+size)) r else c6
def DO(g:Gh)(H:List aO)(h:World)(c:List PV)(b:Array Value):Prop:=
 b.size=c.length/\∀(f:Nat) (e:PV),c[f]?=c4 e->∃a,b[f]?=c4 a/\a.oneCell'=true/\VR g H h e a
def BQ{g:Gh}{H:List aO}{w:World}{nt:Nat}{E:Env}{q:Act}(D:fI g H w nt E q)(place:Nat->Option (Nat×Nat)):∀(l:List (Nat×Operand)) (vs:List (Nat×PV)) (f:List PV) (h:Array Value) (j:List PV),
 qn E l vs->(∀i v,(i,v)∈vs->∀I,v≠ .bu I)->DO g H w f h->mE place f vs=c4 j->∃A,kl place h (l.map λ(i,x)=>(i,q.eval x))=c4 A/\DO g H w j A
 |[],[],f,h,j,_,_,e,a=>by
  simp only[mE,m4] at a;subst a;exact⟨h,rfl,e⟩
 |(i,B)::l,(V,v)::vs,f,h,j,L,C,e,a=>by
  obtain⟨rfl,T,O⟩:=L;simp only[mE] at a;cases o:place i with
  |none=>simp[o] at a
  |some p=>
   obtain⟨c,size⟩:=p;simp only[o] at a;cases k:(e4 v.cells.length size&&hK (c+size) f.length&&v.cells.all PV.one) with
   |false=>simp[k] at a
   |true=>
    rw[k] at a;simp only[cond_true] at a;simp only[p4] at k;obtain⟨⟨m,n⟩,M⟩:=k;have m:=h5 m;have n:=ei n;have G:=T▸D.eval B;obtain⟨J,N⟩:=G.tZ M (C i v (by simp));have s:(q.eval B).cells.size=size:=by simp at J;omega
    rw[ma,ajC o s (by rw[e.1];exact n)];refine BQ D place l vs _ _ j O (λi v R=>C i v (by simp[R])) ⟨?_,λr u b=>?_⟩ a
    .simp only[kc,eH,ft,j5,gy,e.1,s,m]
    .rw[kd];have S:min c h.size=c:=by rw[e.1];omega
     have K:min c f.length=c:=by omega
     by_cases F:r<c
     .rw[eE,dv (by simp;omega),e0 F] at b⊢;simpa using e.2 r u b
     .rw[eE,dt (by simp;omega)] at b⊢;simp only[ft,gy,S,K] at b⊢
      by_cases U:r -c<size
      .rw[dv (by omega)] at b;rw[dv (by simp;omega)];simpa using N _ u b
      .rw[dt (by omega),ea] at b;rw[dt (by simp;omega),ea];simp only[gy,m,s] at b⊢;simpa using e.2 _ u b
section
variable {P:Program}{nt:Nat}{Q:fE}{E:Env}{H:List aO}{d:Option Nat}{ty:TypeId}{pos:String}{aft:Array Edge}{gd:Option (Nat×Bool)}{x y z:Operand}{t:TypeId}{all:Array Oper}{rest:List Oper}
def Jk(P:Program)(t:TypeId):Option (List (Nat×Nat)):=
 match P.underlying t with
 |some (.struct a)=>a.toList.mapM λf=>(P.info? f.type).map λi=>(f.offset,i.size)
 |_=>c6
def aeV{v:Value}{b:PV}(c:jq v=b)(a:b.one=true):v.oneCell'=true:=by
 subst c;unfold jq at a
 split at a <;> first |rfl |(simp[PV.one] at a;done)
def Qu{g:Gh}{H:List aO}{i:World}{b:List Value}(f:(b.map jq).all PV.one=true):DO g H i (b.map jq) b.toArray:=by
 refine⟨by simp,λh e a=>?_⟩
 rw[e6] at a;cases c:b[h]? with
 |none=>simp[c] at a
 |some z=>
  simp[c] at a;refine⟨z,by simp[c],aeV a ?_,a▸ .aW (KQ _ _ _)⟩
  exact h7.1 f e (by rw[<-a];exact ng.2 ⟨z,dT c,rfl⟩)
def ahR{c:List (Nat×Operand)}{vs:List (Nat×PV)}{zs:List Value}{j e:List PV}{n:List (Nat×Nat)}(f:dV P t=c4 (.agg zs.toArray))(C:zs.map jq=j)(B:j.all PV.one=true)(a:Jk P t=c4 n)
 (D:qn E c vs) (q:∀i v,(i,v)∈vs->∀s,v≠ .bu s) (u:mE (n.toArray[·]?) j vs=c4 e):cM P ⟨d,.build t c.toArray,ty,pos,aft,gd⟩ E H (.agg e):=by
 intro g nt o w A;subst C;obtain⟨b,r,m⟩:=BQ A.e _ c vs _ _ e D q (Qu B) u;refine⟨.agg b,?_,?_⟩
 .have p:P.built t ((c.toArray.map λ(i,x)=>(i,o.eval x)).toList)=c4 b:=by
   unfold Jk at a;unfold dV at f;cases l:P.info? t with
   |none=>simp[l] at f
   |some J=>
    simp[l] at f
    split at a
    .rename_i K k;simp only[q8,l,k,f,a];simpa[o6] using r
    .cases a
  simp only[execOp,gb,run_build w t _ b p,ez]
  rfl
 .have:=VR.agg (g:=g) (H:=H) (w:=w) e b.toList (by simp[m.1]) (λi G x I h=>by
   obtain⟨L,k,_,F⟩:=m.2 i G I;rw[fe,k] at h;injection h with h
   exact h▸F)
  simpa using this
def VH{b:List (Nat×Operand)}{vs:List (Nat×PV)}{zs:List Value}{j c:List PV}{C l k:Nat}(f:dV P t=c4 (.agg zs.toArray))(I:zs.map jq=j)(G:j.all PV.one=true)(p:pk P t=c4 (C,l))(e:cH P l=c4 k)
 (J:qn E b vs) (s:∀i v,(i,v)∈vs->∀A,v≠ .bu A) (B:mE (λi=>c4 (i*k,k)) j vs=c4 c):cM P ⟨d,.build t b.toArray,ty,pos,aft,gd⟩ E H (.agg c):=by
 intro g nt q w D;subst I;obtain⟨a,u,o⟩:=BQ D.e _ b vs _ _ c J s (Qu G) B;refine⟨.agg a,?_,?_⟩
 .have r:P.built t ((b.toArray.map λ(i,x)=>(i,q.eval x)).toList)=c4 a:=by
   unfold dV at f;unfold cH at e;cases m:P.info? t with
   |none=>simp[m] at f
   |some N=>
    simp[m] at f;cases n:P.info? l with
    |none=>simp[n] at e
    |some O=>
     simp[n] at e;simp only[q8,m,Kn p,f,n,e];simpa[o6] using u
  simp only[execOp,gb,run_build w t _ a r,ez]
  rfl
 .have:=VR.agg (g:=g) (H:=H) (w:=w) c a.toList (by simp[o.1]) (λi L x M h=>by
   obtain⟨R,F,_,K⟩:=o.2 i L M;rw[fe,F] at h;injection h with h
   exact h▸K)
  simpa using this
def mY:Nat->List PV->List (Nat×PV)
 |_,[]=>[]
 |a,v::r=>(a,v)::mY (a+1) r
def NE(a:Nat):∀(c:List PV) (b:Nat) (f:List PV),(∀e∈c,e.cells.length=a/\e.cells.all PV.one=true)->f.length=(b+c.length)*a->
 mE (λi=>c4 (i*a,a)) f (mY b c)=c4 (f.take (b*a)++c.flatMap (·.cells))
 |[],b,f,_,j=>by
  simp only[mY,mE,List.flatMap_nil,q4];rw[hY (by simp at j;omega)]
 |e::c,b,f,h,j=>by
  obtain⟨g,l⟩:=h e (by simp);have n:(b+1)*a<=(b+(e::c).length)*a:=ev _ (by simp);rw[eo,hX] at n;have k:e4 e.cells.length a=true:=by rw[g];exact k7 a
  have p:hK (b*a+a) f.length=true:=Nat.ble_eq▸(by omega);simp only[mY,mE,k,p,l,Bool.and_true,cond_true];have o:(f.take (b*a)++e.cells++f.drop (b*a+a)).length=(b+1+c.length)*a:=by
   simp only[eH,ft,j5,g];have:(b+(e::c).length)*a=(b+1+c.length)*a:=by congr 1;simp;omega
   omega
  rw[NE a c (b+1) _ (λe m=>h e (by simp[m])) o]
  congr 1
  have q:min (b*a) f.length=b*a:=by omega
  rw[List.take_append_of_le_length (by simp[g];rw[eo];omega),hY (by simp[g];rw[eo];omega)];simp
def Om{g:Nat}:∀(c:List PV) (i a:Nat) (e:PV),(∀f∈c,f.cells.length=g)->abk c i a=c4 e->(c.flatMap (·.cells))[i*g+a]?=c4 e
 |[],i,a,e,_,b=>by simp[abk] at b
 |f::c,0,a,e,h,b=>by
  simp[abk] at b;rw[m5,qq,gx,dv (c7.1 b).1];exact b
 |f::c,i+1,a,e,h,b=>by
  have j:abk c i a=c4 e:=by simpa[abk] using b
  rw[m5,dt (by rw[h f (by simp),eo];omega),h f (by simp)];rw[show(i+1)*g+a -g=i*g+a by rw[eo];omega];exact Om c i a e (λf k=>h f (by simp[k])) j
def Pn{ps:List (Nat×Operand)}{es:List PV}{te sz n:Nat}{zv:Value}(G:qn E ps (mY 0 es))(ae:es.length=n)(M:es.all (λa=>e4 a.cells.length sz&&a.cells.all PV.one)=true)(R:∀a∈es,∀W,a≠ .bu W)
 (B:dU P t=c4 te) (D:cH P te=c4 sz) (X:dV P te=c4 zv) (ak:zv.cells.size=sz) (T:zv.cells.toList.all (·.oneCell')=true) (C:0<sz) (aj:n*sz<=16777216):
 nY P E H ⟨d,.buildSlice t n ps.toArray,ty,pos,aft,c6⟩ te sz es (λq F=>.sl q F 0 n):=by
 subst ae;have j:∀a∈es,a.cells.length=sz/\a.cells.all PV.one=true:=λa c=>by
  have:=h7.1 M a c;simp only[p4] at this;exact⟨h5 this.1,this.2⟩
 intro g nt A w Z
 let z0:List Value:=(n2 (es.length*sz)).map λq=>zv.cells.getD (q%zv.cells.size) undef
 have O:DO g H w ((n2 (es.length*sz)).map λ_=>PV.any) z0.toArray:=by
  refine⟨by simp[z0],λf u h=>?_⟩
  have I:f<es.length*sz:=by
   have:=(c7.1 h).1;simpa using this
  rw[e6,h9 I] at h;simp at h;subst h;refine⟨zv.cells.getD (f%zv.cells.size) undef,by simp[z0,h9 I],?_,.any _⟩
  have l:f%zv.cells.size<zv.cells.size:=q5 _ (by omega);have:=h7.1 T (zv.cells[f%zv.cells.size]) (by simp);simpa[l] using this
 obtain⟨r,k,m⟩:=BQ Z.e (λi=>c4 (i*sz,sz)) ps (mY 0 es) _ _ _ G (λi v af=>by
  have:∀(o:Nat) (b:List PV),(i,v)∈mY o b->v∈b:=by
   intro o b
   induction b generalizing o with
   |nil=>simp[mY]
   |cons A b s=>
    simp only[mY,mb,Prod.mk.injEq];rintro(⟨_,rfl⟩ |e)
    .exact .inl rfl
    .exact .inr (s _ e)
  exact R v (this 0 es af)) O (NE sz es 0 _ j (by simp))
 rw[qq,o7,o2] at m;have S:r.size=es.length*sz:=by
  rw[m.1];have:∀b:List PV,(∀a∈b,a.cells.length=sz)->(b.flatMap (·.cells)).length=b.length*sz:=λb=>by
   induction b with
   |nil=>simp
   |cons a b s=>intro e;rw[m5,eH,e a (by simp),s (λa c=>e a (by simp[c])),my,eo];omega
  exact this es λa c=>(j a c).1
 refine⟨r,es.length,.slice (c4 ⟨w.heap.size,0,c6⟩) es.length es.length,w,?_,.inl rfl,C,λi a c=>(j a (dT c)).1,S,?_,ef _,λi f u h=>?_,λai al ah q F N U=>FO N U (ef _)⟩
 .have ac:(Array.range (es.length*sz)).map (λx=>zv.cells[x%zv.cells.size]!)=z0.toArray:=by
   apply Array.ext'
   rw[Array.toList_map,Array.toList_range];show _=z0
   apply List.map_congr_left
   intro q _;have l:q%zv.cells.size<zv.cells.size:=q5 _ (by omega);simp[l]
  by_cases h0:es.length*sz=0
  .have J:es=[]:=by
    rcases Nat.mul_eq_zero.1 h0 with e |e
    .exact e5 e
    .omega
   subst J;have K:ps=[]:=by
    cases ps with
    |nil=>rfl
    |cons p ps=>simp[mY,qn] at G
   subst K;have L:z0=[]:=by simp[z0]
   rw[L] at k;simp[kl] at k;subst k;simp[execOp,p6,run_underlying (gD B),run_sizeOf D,kl,newRow,Array.range_zero']
  .have ad:¬(16777216<es.length*sz):=by omega
   have Y:kl (λi=>c4 (i*sz,sz)) z0.toArray (ps.map λp=>(p.1,A.eval p.2))=c4 r:=k;simp[execOp,p6,run_underlying (gD B),run_sizeOf D,ad,h0,Ey X,ac,Y,newRow]
 .have:es.length<=es.length*sz:=ga _ C;unfold maxLen;omega
 .obtain⟨ag,aa,ab,V⟩:=m.2 _ u (Om es i f u (λa c=>(j a c).1) h);exact⟨ag,aa,ab,V⟩
end
def VR.ub{g:Gh}{H:List aO}{w:World}{r v:Nat}{c:aO}{x:Value}(h:VR g H w (.fl r v) x)(e:ek H r c)(m:c.aF=v):VR g H w (.sl r v 0 c.es.length) x:=by
 cases h with
 |aW h=>cases h
 |fl _ _ n _ a j k l=>
  unfold ek at e;rw[e] at a;injection a with a
  subst a;exact .sl r v 0 _ c x e j k l
def VR.aa1{g:Gh}{H:List aO}{w:World}{r v n:Nat}{e:aO}{x:Value}(h:VR g H w (.sl r v 0 n) x)(c:ek H r e)(m:n=e.es.length):VR g H w (.fl r v) x:=by
 subst m;cases h with
 |aW h=>cases h
 |sl _ _ _ _ o _ a j k l=>
  unfold ek at c;rw[c] at a;injection a with a
  subst a;exact .fl r v e x c j k l
def fI.fl{g:Gh}{H:List aO}{w:World}{nt:Nat}{E:Env}{a:Act}{t r v:Nat}{c:aO}(h:fI g H w nt E a)(l:look E t= .fl r v)(j:ek H r c)(k:c.aF=v):fI g H w nt ((t,.sl r v 0 c.es.length)::E) a:=
 ⟨h.defers,h.size,λs=>by
  by_cases e:t=s
  .subst e;rw[ni];exact(l▸h.at_ t).ub j k
  .rw[Ar _ _ e];exact h.at_ s⟩
def RO{P:Program}{c:Oper}{E:Env}{H:List aO}{t r v:Nat}{a:aO}{p:PV}(k:look E t= .fl r v)(e:ek H r a)(f:a.aF=v)(h:cM P c ((t,.sl r v 0 a.es.length)::E) H p):cM P c E H p:=
 λg nt i j b=>h g nt i j ⟨b.m,b.e.fl k e f⟩
def yP{P:Program}{e:Oper}{E:Env}{H:List aO}{t r v:Nat}{a:aO}{b:PV->List aO->Prop}(o:look E t= .fl r v)(f:ek H r a)(h:a.aF=v)(i:fJ P e ((t,.sl r v 0 a.es.length)::E) H b):fJ P e E H b:=
 λg nt m n c l j k=>i g nt m n ⟨c.m,c.e.fl o f h⟩ l j k
end Go.Bml
namespace Go.X
open Go Go.Aml Go.Bml
structure Ty where
 T:Type
 enc:T->PV
inductive TV (D:Nat->Type):Type where
 |any
 |z0
 |fS
 |bg
 |dB
 |int (k:IntKind) (n:Int)
 |bool (b:Bool)
 |str (s:ByteArray)
 |row (n:Nat) (xs:List (D n))
 |rv (n:Nat) (ts:List (TV D))
 |ptr (r v i j:Nat)
 |fl (r v:Nat)
 |sl (r v off len:Nat)
 |vp (cs:List (TV D)) (j:Nat)
 |agg (cs:List (TV D))
 |bu (cs:List (TV D))
 |fn (f:Nat) (cs ds:List (TV D))
 |jC (o:Option Nat)
 deriving Inhabited
inductive Bd (D:Nat->Type):Type where
 |aap (n:Nat) (xs:List (D n))
 |box (ty:Nat) (cs:List (TV D))
 |dead
 |hole (n:Nat) (xs:List (D n)) (es:List (TV D))
structure Ob (D:Nat->Type) where
 st:Nat
 aF:Nat
 bd:Bd D
abbrev En(a:Nat->Type):=List (Nat×TV a)
structure St (D:Nat->Type) where
 E:En D
 H:List (Ob D)
structure Tb where
 ty:Nat->Ty
 tv:(n:Nat)->(ty n).T->TV (λn=>(ty n).T)
 up:(n:Nat)->TV (λn=>(ty n).T)->Option (ty n).T
 sz:Nat->Nat
 flat:Nat->Bool
 el:Nat->Nat
@[reducible] def Tb.D(B:Tb)(n:Nat):Type:=(B.ty n).T
def nth{a:Type}:List a->Nat->Option a
 |[],_=>c6
 |b::_,0=>c4 b
 |_::c,d+1=>nth c d
def me{c:Type}:List c->Nat->c->List c
 |[],_,_=>[]
 |_::a,0,b=>b::a
 |d::a,e+1,b=>d::me a e b
def b8{a:Type}:List a->List (Nat×a)->List a
 |b,[]=>b
 |b,p::c=>b8 (me b p.1 p.2) c
def aX{b:Type}:List b->List b->List b
 |[],a=>a
 |c::d,a=>c::aX d a
def len{a:Type}:List a->Nat
 |[]=>0
 |_::b=>Nat.succ (len b)
def has:List Nat->Nat->Bool
 |[],_=>false
 |b::c,a=>bif e4 b a then true else has c a
def lk{a:Nat->Type}:En a->Nat->TV a
 |[],_=>.any
 |p::r,b=>bif e4 p.1 b then p.2 else lk r b
def fV(a b:IntKind):Bool:=c3 (a=b)
def Cs{c:Nat->Type}:Value->TV c
 | .bool b=>.bool b
 | .int e a=>.int e a
 | .string d=>.str d
 | .pointer c6=>.fS
 | .slice c6 0 0=>.bg
 | .nilFunc=>.dB
 |_=>.any
def rq{D:Nat->Type}:List Value->List (TV D)
 |[]=>[]
 |v::a=>Cs v::rq a
def cv{D:Nat->Type}:Value->TV D
 | .agg a=>.agg (rq a.toList)
 |v=>Cs v
def pe{a:Nat->Type}(b:En a):Operand->TV a
 | .tmp c=>lk b c
 | .const v=>cv v
 | .global _=>.any
 | .func f=>.fn f [] []
def fB{b:Nat->Type}(a:En b):List Operand->List (TV b)
 |[]=>[]
 |d::c=>pe a d::fB a c
def tr{b a:Type}(e:Option b)(c:b->Option a):Option a:=
 match e with
 |some d=>c d
 |none=>c6
inductive CP where
 |any
 |v (n:Nat)
 |p (q:Nat)
 |r (q:Nat)
 |q (cs:List CP)
 |f (cO:Nat) (cs ds:List CP)
 |g (cs:List CP)
 |b (b:Bool)
 |i (k:IntKind) (n:Int)
 |z
 |ns
 deriving Inhabited
inductive OP where
 |aap (m n:Nat)
 |box (ty:Nat) (cs:List CP)
 |dead
 |refs (m:Nat) (qs:List Nat)
 deriving Inhabited
def iQ:List Nat->List CP
 |[]=>[]
 |q::a=>.r q::iQ a
structure bY where
 dF:List (Nat×List Nat×OP)
 dE:List (Nat×CP)
 deriving Inhabited
mutual
def CP.bX:CP->List Nat
 | .v n=>[n]
 | .q a=>CP.gA a
 | .f _ a c=>aX (CP.gA a) (CP.gA c)
 | .g a=>CP.gA a
 |_=>[]
def CP.gA:List CP->List Nat
 |[]=>[]
 |c::a=>aX c.bX (CP.gA a)
end
def OP.bX:OP->List Nat
 | .aap _ n=>[n]
 | .box _ c=>CP.gA c
 | .dead=>[]
 | .refs _ a=>CP.gA (iQ a)
def vu:List (Nat×CP)->List Nat
 |[]=>[]
 |a::b=>aX a.2.bX (vu b)
def rS:List (Nat×List Nat×OP)->List Nat
 |[]=>[]
 |b::a=>aX b.2.2.bX (rS a)
def bY.bX(p:bY):List Nat:=aX (rS p.dF) (vu p.dE)
structure lD where
 dO:List (Nat×Bool×OP)
 new:List (Nat×List Nat×OP)
 dE:List (Nat×CP)
 deriving Inhabited
def ux:List (Nat×Bool×OP)->List Nat
 |[]=>[]
 |b::a=>aX b.2.2.bX (ux a)
def lD.bX(p:lD):List Nat:=aX (ux p.dO) (aX (rS p.new) (vu p.dE))
def bi(a:Nat->Type):List Nat->Type
 |[]=>Unit
 |[b]=>a b
 |b::c::ns=>a b×bi a (c::ns)
section
variable (B:Tb){R:Type}
def m9:(ns:List Nat)->List (TV B.D)->(bi B.D ns->Option R)->Option R
 |[],[],a=>a ()
 |[b],[c],a=>tr (B.up b c) a
 |b::g::ns,c::f,a=>tr (B.up b c) λe=>m9 (g::ns) f λd=>a (e,d)
 |_,_,_=>c6
def rQ:(ns:List Nat)->bi B.D ns->List (TV B.D)
 |[],_=>[]
 |[b],a=>[B.tv b a]
 |b::c::ns,a=>B.tv b a.1::rQ (c::ns) a.2
end
def dN{a:Nat->Type}:TV a->List (TV a)
 | .agg c=>c
 |b=>[b]
def aK{a:Nat->Type}(c:List (Ob a))(r v:Nat):Option (Bd a):=
 match nth c r with
 |some b=>bif e4 b.aF v then c4 b.bd else c6
 |none=>c6
def ml{a:Nat->Type}(c:List (Ob a))(e:List Nat):TV a->TV a
 | .fl r v=>match aK c r v with
  |some (.aap b d)=>bif has e r then .any else .row b d
  |_=>.any
 |_=>.any
def qf{a:Nat->Type}(b:List (Ob a))(c:List Nat):List (TV a)->List (TV a)
 |[]=>[]
 |e::d=>ml b c e::qf b c d
def DA{b:Nat->Type}:List (TV b)->Bool
 |[]=>true
 | .fl _ _::a=>DA a
 |_::_=>false
mutual
def kJ{g:Nat->Type}(b:List (Ob g))(a:List Nat):TV g->TV g
 | .fl r v=>match aK b r v with
  |some (.aap c e)=>bif has a r then .any else .row c e
  |some (.hole c [] h)=>bif has a r then .any else bif DA h then .rv c (qf b a h) else .any
  |_=>.any
 | .sl r v i len=>match aK b r v with
  |some (.aap c e)=>bif has a r then .any else .row c ((e.drop i).take len)
  |_=>.any
 | .agg d=>.agg (jS b a d)
 | .fn f d j=>.fn f (jS b a d) (jS b a j)
 | .ptr .. =>.any
 | .bu _=>.any
 |k=>k
def jS{a:Nat->Type}(b:List (Ob a))(c:List Nat):List (TV a)->List (TV a)
 |[]=>[]
 |e::d=>kJ b c e::jS b c d
end
mutual
def refs{c:Nat->Type}:TV c->List Nat
 | .fl r _=>[r]
 | .sl r _ _ _=>[r]
 | .ptr r _ _ _=>[r]
 | .agg a=>iB a
 | .bu a=>iB a
 | .fn _ a b=>aX (iB a) (iB b)
 |_=>[]
def iB{b:Nat->Type}:List (TV b)->List Nat
 |[]=>[]
 |a::c=>aX (refs a) (iB c)
end
def kY{d:Nat->Type}(a:List (Ob d)):List Nat->List Nat
 |[]=>[]
 |r::b=>match nth a r with
  |some ⟨_,_,.hole _ [] c⟩=>aX (iB c) (kY a b)
  |_=>kY a b
def qE{f:Nat->Type}(a:List (Ob f)):TV f->List Nat->TV f
 |e,[]=>e
 |e,d::c=>match e with
  | .fn _ _ g=>qE a ((nth g d).getD .any) c
  | .agg b=>qE a ((nth b d).getD .any) c
  | .ptr r v 0 0=>match aK a r v with
   |some (.box _ b)=>qE a ((nth b d).getD .any) c
   |_=>.any
  | .fl r v=>match aK a r v with
   |some (.hole _ [] b)=>qE a ((nth b d).getD .any) c
   |_=>.any
  |_=>.any
inductive Rf where
 |bG (r:Nat)
 |new
 |gone
 |bad
def Tf{a:Nat->Type}(b:List (Ob a)):TV a->Rf
 | .fl r v=>match aK b r v with
  |some (.aap _ _)=>.bG r
  |some (.hole _ _ _)=>.bG r
  |_=>.bad
 | .ptr r v 0 0=>match aK b r v with
  |some (.box _ _)=>.bG r
  |_=>.bad
 | .bg=>.new
 | .z0=>.new
 |_=>.bad
def U7{c:Nat->Type}(a:List (Ob c))(r:Nat):List Nat->Rf
 |[]=>.bG r
 |b::e=>match nth a r with
  |some d=>Tf a (qE a (.ptr r d.aF 0 0) (b::e))
  |none=>.bad
def nQ{D:Nat->Type}(a:St D):List (Nat×List Nat×OP)->List Rf
 |[]=>[]
 |b::c=>(bif hK 100000 b.1 then U7 a.H (b.1 -100000) b.2.1 else Tf a.H (qE a.H (lk a.E b.1) b.2.1))::nQ a c
def bL:List Rf->List Nat
 |[]=>[]
 | .bG r::a=>r::bL a
 |_::a=>bL a
def rj:List Nat->Bool
 |[]=>true
 |b::a=>bif has a b then false else rj a
def JG:List Rf->Bool
 |[]=>true
 | .bad::_=>false
 |_::a=>JG a
mutual
def MG:CP->Bool
 | .p _=>false
 | .r _=>false
 | .q a=>ow a
 | .f _ a b=>bif ow a then ow b else false
 | .g a=>ow a
 |_=>true
def ow:List CP->Bool
 |[]=>true
 |a::b=>bif MG a then ow b else false
end
def cat{a:Type}:Option (List a)->Option (List a)->Option (List a)
 |some c,c4 b=>c4 (aX c b)
 |_,_=>c6
mutual
def eR{j:Nat->Type}(c:List (Ob j))(d:List Rf)(h:List Nat):CP->TV j->Option (List (TV j))
 | .any,_=>c4 []
 | .v _,a=>c4 [kJ c h a]
 | .p q,a=>match a with
  | .ptr r v 0 0=>match aK c r v,nth d q with
   |some (.box _ _),c4 (.bG i)=>bif e4 r i then c4 [] else c6
   |_,_=>c6
  |_=>c6
 | .r q,a=>match a with
  | .fl r v=>match aK c r v,nth d q with
   |some (.aap _ _),c4 (.bG i)=>bif e4 r i then c4 [] else c6
   |some (.hole _ _ _),c4 (.bG i)=>bif e4 r i then c4 [] else c6
   |_,_=>c6
  | .bg=>match nth d q with
   |some .new=>c4 []
   |_=>c6
  | .z0=>match nth d q with
   |some .new=>c4 []
   |_=>c6
  |_=>c6
 | .q e,a=>match a with
  | .ptr r v 0 0=>match aK c r v with
   |some (.box _ g)=>bif has h r then c6 else bif ow e then fg c d h e g else c6
   |_=>c6
  | .vp g 0=>bif ow e then fg c d h e g else c6
  |_=>c6
 | .f l e m,a=>match a with
  | .fn f g s=>bif e4 f l then cat (fg c d h e g) (fg c d h m s) else c6
  |_=>c6
 | .g e,a=>match a with
  | .agg g=>fg c d h e g
  |_=>c6
 | .b b,a=>match a with
  | .bool o=>bif Bool.xor b o then c6 else c4 []
  |_=>c6
 | .i n k,a=>match a with
  | .int t p=>bif fV n t then bif c3 (p=k) then c4 [] else c6 else c6
  |_=>c6
 | .ns,a=>match a with
  | .bg=>c4 []
  |_=>c6
 | .z,a=>match a with
  | .dB=>c4 []
  |_=>c6
def fg{a:Nat->Type}(c:List (Ob a))(b:List Rf)(d:List Nat):List CP->List (TV a)->Option (List (TV a))
 |[],[]=>c4 []
 |h::g,f::e=>cat (eR c b d h f) (fg c b d g e)
 |_,_=>c6
end
def dn{e:Nat->Type}(a:List (Ob e))(d:List Rf)(f:List Nat):OP->Rf->Option (List (TV e))
 | .aap b _,.bG r=>match nth a r with
  |some ⟨_,_,.aap c k⟩=>bif e4 b c then c4 [.row c k] else c6
  |_=>c6
 | .aap b _,.new=>c4 [.row b []]
 | .box m j,.bG r=>match nth a r with
  |some ⟨_,_,.box g i⟩=>bif e4 m g then fg a d f j i else c6
  |_=>c6
 | .refs b h,.bG r=>match nth a r with
  |some ⟨_,_,.hole c [] l⟩=>bif e4 b c then fg a d f (iQ h) l else c6
  |_=>c6
 |_,_=>c6
def iP{d:Nat->Type}(c:List (Ob d))(b:List Rf)(a:List Nat):List (Nat×List Nat×OP)->List Rf->Option (List (TV d))
 |[],[]=>c4 []
 |f::e,i::g=>cat (dn c b a f.2.2 i) (iP c b a e g)
 |_,_=>c6
def oz{d:Nat->Type}(a:St d)(b:List Rf)(e:List Nat):List (Nat×CP)->Option (List (TV d))
 |[]=>c4 []
 |c::f=>cat (eR a.H b e c.2 (lk a.E c.1)) (oz a b e f)
def leaves{b:Nat->Type}(p:bY)(c:St b)(a:List Rf):Option (List (TV b)):=
 bif JG a then bif rj (bL a) then cat (iP c.H a (bL a) p.dF a) (oz c a (bL a) p.dE) else c6 else c6
def qH{d:Nat->Type}(a:List (Ob d)):Nat->Nat->List Rf->Bool
 |0,_,_=>true
 |c+1,b,.bG r::f=>bif e4 r b then(match nth a r with |some e=>bif e4 e.aF 0 then qH a c (b+1) f else false |none=>false) else false
 |_,_,_=>false
section
variable {B:Tb}{R:Type}
def take(B:Tb)(c:Nat)(p:bY)(a:St B.D)(d:bi B.D p.bX->Option R):Option R:=
 let b:=nQ a p.dF
 bif qH a.H c 0 b then tr (leaves p a b) λe=>m9 B p.bX e d else c6
mutual
def hO{f:Nat->Type}(c:Nat->Nat×Nat):CP->List (TV f)->TV f×List (TV f)
 | .any,a=>(.any,a)
 | .v _,l::a=>(l,a)
 | .v _,[]=>(.any,[])
 | .p q,a=>(.ptr (c q).1 (c q).2 0 0,a)
 | .r q,a=>(.fl (c q).1 (c q).2,a)
 | .q e,a=>match jD c e a with
  |(d,a)=>(.vp d 0,a)
 | .f h e k,a=>match jD c e a with
  |(d,a)=>match jD c k a with
   |(j,a)=>(.fn h d j,a)
 | .g e,a=>match jD c e a with
  |(d,a)=>(.agg d,a)
 | .b b,a=>(.bool b,a)
 | .i i g,a=>(.int i g,a)
 | .z,a=>(.dB,a)
 | .ns,a=>(.bg,a)
def jD{b:Nat->Type}(c:Nat->Nat×Nat):List CP->List (TV b)->List (TV b)×List (TV b)
 |[],a=>([],a)
 |f::e,a=>match hO c f a with
  |(g,a)=>match jD c e a with
   |(d,a)=>(g::d,a)
end
def dI{d:Nat->Type}(e:Nat->Nat×Nat)(b v:Nat):OP->List (TV d)->Ob d×List (TV d)
 | .aap _ _,l::a=>match l with
  | .row f i=>(⟨b,v,.aap f i⟩,a)
  |_=>(⟨b,v,.dead⟩,a)
 | .aap _ _,[]=>(⟨b,v,.dead⟩,[])
 | .box k h,a=>match jD e h a with
  |(c,a)=>(⟨b,v,.box k c⟩,a)
 | .dead,a=>(⟨b,v,.dead⟩,a)
 | .refs j g,a=>match jD e (iQ g) a with
  |(c,a)=>(⟨b,v,.hole j [] c⟩,a)
def lM{c:Nat->Type}(b:Nat->Nat×Nat)(q:Nat):List (Nat×List Nat×OP)->List (TV c)->List (Ob c)×List (TV c)
 |[],a=>([],a)
 |g::d,a=>match dI b 0 (b q).2 g.2.2 a with
  |(f,a)=>match lM b (q+1) d a with
   |(e,a)=>(f::e,a)
def gR{d:Nat->Type}(b:Nat->Nat×Nat):List (Nat×CP)->List (TV d)->List (Nat×TV d)
 |[],_=>[]
 |c::e,a=>match hO b c.2 a with
  |(f,a)=>(c.1,f)::gR b e a
def nI(B:Tb)(a:Nat->Nat×Nat)(p:bY)(c:bi B.D p.bX):St B.D:=
 match lM a 0 p.dF (rQ B p.bX c) with
 |(b,d)=>⟨gR a p.dE d,b⟩
def cz(B:Tb)(p:bY)(a:bi B.D p.bX):St B.D:=nI B (λq=>(q,0)) p a
def dJ{a:Nat->Type}(b:List (Ob a))(r:Nat):Nat:=(match nth b r with |some c=>c.st |none=>0)+1
def OP.qj:OP->Bool
 | .dead=>true
 |_=>false
def gone:List (Nat×Bool×OP)->Nat->Bool
 |[],_=>false
 |a::b,r=>bif e4 a.1 r then a.2.2.qj else gone b r
def bN:List (Nat×Bool×OP)->Nat->Bool
 |[],_=>false
 |b::a,r=>bif e4 b.1 r then true else bN a r
def nL(b:List (Nat×Bool×OP)):Nat->Nat->List Rf->List Rf
 |0,_,a=>a
 |c+1,r,a=>(bif gone b r then .gone else .bG r)::nL b c (r+1) a
def calm{b:Nat->Type}(a:List (Nat×Bool×OP)):Nat->List (Ob b)->List (Ob b)->Bool
 |_,[],_=>true
 |r,d::c,e::f=>bif (bif bN a r then true else e4 d.st e.st) then calm a (r+1) c f else false
 |_,_::_,[]=>false
def wH{g:Nat->Type}(c d:List (Ob g)):List (Nat×Bool×OP)->Bool
 |[]=>true
 |a::e=>bif a.2.1 then(match nth c a.1,nth d a.1 with
  |some f,c4 b=>bif a.2.2.qj then false else bif e4 f.aF b.aF then wH c d e else false
  |_,_=>false) else bif m1 a.1 (len c) then wH c d e else false
def ET(a:List Nat):List (Nat×CP)->Bool
 |[]=>true
 |b::c=>bif has a b.1 then ET a c else false
def pX{d:Nat->Type}(c:List (Ob d))(b:List Rf)(e:List Nat):List (Nat×Bool×OP)->Option (List (TV d))
 |[]=>c4 []
 |a::f=>cat (bif a.2.2.qj then c4 [] else dn c b e a.2.2 (.bG a.1)) (pX c b e f)
def DZ:List (Nat×Bool×OP)->List Nat
 |[]=>[]
 |b::a=>b.1::DZ a
def zE(b:Nat):List (Nat×Bool×OP)->Bool
 |[]=>true
 |a::c=>bif (bif hK b a.1 then true else bif a.2.1 then(bif a.2.2.qj then false else true) else false) then zE b c else false
def nW(B:Tb)(g:Nat)(e:St B.D)(f:List Nat)(p:lD)(a:St B.D)(h:bi B.D p.bX->Option R):Option R:=
 let d:=nQ a p.new
 let b:=nL p.dO (len e.H) 0 d
 let c:=bL b
 bif zE g p.dO then bif ET f p.dE then bif JG d then bif rj c then bif rj (DZ p.dO) then bif calm p.dO 0 e.H a.H then bif wH e.H a.H p.dO then
  tr (cat (pX a.H b c p.dO) (cat (iP a.H b c p.new d) (oz a b c p.dE))) λi=>m9 B p.bX i h
 else c6 else c6 else c6 else c6 else c6 else c6 else c6
def mw{e:Nat->Type}(d:List (Ob e))(b:List (Nat×Bool×OP))(q:Nat):Nat:=
 match nth d q with
 |some a=>bif bN b q then(bif kv b q then a.aF else a.aF+1) else a.aF
 |none=>1
where kv:List (Nat×Bool×OP)->Nat->Bool
 |[],_=>false
 |a::c,r=>bif e4 a.1 r then a.2.1 else kv c r
def pU{b:Nat->Type}(e:List (Ob b))(d:Nat->Nat×Nat):List (Nat×Bool×OP)->List (TV b)->List (Nat×Ob b)×List (TV b)
 |[],a=>([],a)
 |c::f,a=>match dI d (dJ e c.1) (d c.1).2 c.2.2 a with
  |(h,a)=>match pU e d f a with
   |(g,a)=>((c.1,h)::g,a)
def mN{b:Nat->Type}(a:List Nat):En b->En b
 |[]=>[]
 |p::r=>bif has a p.1 then mN a r else p::mN a r
def ik(B:Tb)(a:St B.D)(g:List Nat)(p:lD)(d:bi B.D p.bX):St B.D:=
 let b:=λq=>(q,mw a.H p.dO q)
 match pU a.H b p.dO (rQ B p.bX d) with
 |(f,c)=>match lM b (len a.H) p.new c with
  |(e,c)=>⟨aX (gR b p.dE c) (mN g a.E),aX (b8 a.H f) e⟩
end
structure aq (B:Tb) where
 cO:Nat
 na:Nat
 low:Nat
 par:bY
 az:bY
 F:bi B.D par.bX->Option (bi B.D az.bX)
structure cr (D:Nat->Type) where
 val:TV D
 wr:List (Nat×Ob D)
 nw:Nat
 rd:List Nat
section
variable (B:Tb)(P:Program){R:Type}
def drop{b:Type}:Nat->List b->List b
 |0,a=>a
 |_+1,[]=>[]
 |c+1,_::a=>drop c a
def tk{a:Type}:Nat->List a->List a
 |0,_=>[]
 |_+1,[]=>[]
 |d+1,b::c=>b::tk d c
def piece{e:Nat->Type}(d:TypeId)(a:List (TV e))(b:Nat):Option (TV e):=
 match dP P d with
 |some true=>match cH P d with
  |some c=>bif hK (b+c) (len a) then c4 (.agg (tk c (drop b a))) else c6
  |none=>c6
 |some false=>nth a b
 |none=>c6
def A6{a:Nat->Type}(c:TypeId->TV a->TV a->Option Bool)(d e:List (TV a)):List Field->Option Bool
 |[]=>c4 true
 |f::h=>bif f.name != "_" then(match piece P f.type d f.offset,piece P f.type e f.offset with
  |some g,c4 b=>(match c f.type g b,A6 c d e h with
   |some p,c4 q=>c4 (p&&q)
   |_,_=>c6)
  |_,_=>c6) else c6
def yq{f:Nat->Type}:Nat->TypeId->TV f->TV f->Option Bool
 |0,_,_,_=>c6
 |g+1,e,c,a=>match P.underlying e with
  |some .bool=>(match c,a with
   | .bool d,.bool b=>c4 (d==b)
   |_,_=>c6)
  |some (.int _)=>(match c,a with
   | .int d j,.int b h=>bif fV d b then c4 (j==h) else c6
   |_,_=>c6)
  |some (.struct k)=>bif P.stoodInHeld e then c6 else(match c,a with
   | .agg i,.agg l=>A6 P (yq g) i l k.toList
   |_,_=>c6)
  |_=>c6
def LM(P:Program)(a:TypeId):Bool:=match P.underlying a with |some (.func ..)=>true |_=>false
def bin(g:BinOp)(f:TypeId)(l k:TV B.D)(c:TV B.D->Option R):Option R:=
 match l,k with
 | .int a e,.int b d=>match g with
  | .add=>bif fV a b then c (.int a (a.wrap (e+d))) else c6
  | .sub=>bif fV a b then c (.int a (a.wrap (e -d))) else c6
  | .mul=>bif fV a b then c (.int a (a.wrap (e*d))) else c6
  | .quo=>bif fV a b then(ph a e d).bind λr=>c (.int a r) else c6
  | .rem=>bif fV a b then(nG e d).bind λr=>c (.int a r) else c6
  | .and=>bif fV a b then c (.int a (bits .and a e d)) else c6
  | .or=>bif fV a b then c (.int a (bits .or a e d)) else c6
  | .xor=>bif fV a b then c (.int a (bits .xor a e d)) else c6
  | .andNot=>bif fV a b then c (.int a (bits .andNot a e d)) else c6
  | .shl=>(uU a e d).bind λr=>c (.int a r)
  | .shr=>(iN a e d).bind λr=>c (.int a r)
  | .eql=>bif fV a b then c (.bool (c3 (e=d))) else c6
  | .neq=>bif fV a b then c (.bool (c3 (e≠d))) else c6
  | .lss=>bif fV a b then c (.bool (c3 (e<d))) else c6
  | .leq=>bif fV a b then c (.bool (c3 (e<=d))) else c6
  | .gtr=>bif fV a b then c (.bool (c3 (d<e))) else c6
  | .geq=>bif fV a b then c (.bool (c3 (d<=e))) else c6
 | .bool a,.bool b=>match g with
  | .eql=>bif sr P f then c (.bool (a==b)) else c6
  | .neq=>bif sr P f then c (.bool (a != b)) else c6
  |_=>c6
 | .agg h,.agg j=>match g with
  | .eql=>bif P.eqGuardType P.depth f then c6 else tr (yq P 10000 f (.agg h) (.agg j)) λb=>c (.bool b)
  | .neq=>bif P.eqGuardType P.depth f then c6 else tr (yq P 10000 f (.agg h) (.agg j)) λb=>c (.bool (!b))
  |_=>c6
 | .jC i,.dB=>bif LM P f then match g with
  | .eql=>c (.bool i.isNone)
  | .neq=>c (.bool (!i.isNone))
  |_=>c6 else c6
 |_,_=>c6
def HY(d:UnOp)(e:TV B.D)(a:TV B.D->Option R):Option R:=
 match d,e with
 | .neg,.int c f=>a (.int c (c.wrap (0 -f)))
 | .not,.bool b=>a (.bool (!b))
 |_,_=>c6
def Es(i c:Nat)(a:TV B.D->Option R):Nat->List (TV B.D)->Option R
 |_,[]=>c6
 |b,e::d=>bif e4 i (c+b) then a e else Es i c a (b+1) d
def AK(d:Int)(b:Nat)(c:Nat->Option R):Nat->List (TV B.D)->Option R
 |_,[]=>c6
 |a,_::e=>bif c3 (d=((b+a:Nat):Int)) then c (b+a) else AK d b c (a+1) e
def load(h:List (Ob B.D))(b:TypeId)(d:TV B.D)(c:cr B.D->Option R):Option R:=
 match d with
 | .vp e a=>tr (piece P b e a) λv=>c ⟨v,[],0,[]⟩
 | .ptr r v i a=>match aK h r v with
  |some (.aap g f)=>(f[i]?).bind λd=>tr (piece P b (dN (B.tv g d)) a) λv=>c ⟨v,[],0,[r]⟩
  |some (.box _ e)=>bif e4 i 0 then tr (piece P b e a) λv=>c ⟨v,[],0,[r]⟩ else c6
  |some (.hole g f j)=>Es B i f.length (λk=>tr (piece P b (dN k) a) λv=>c ⟨v,[],0,[r]⟩) 0 j
  |_=>c6
 |_=>c6
def oJ{a:Type}(d:List a)(b:Nat)(c:List a):List a:=aX (tk b d) (aX c (drop (b+len c) d))
def tF{a:Nat->Type}:TV a->Bool
 | .bu _=>false
 |_=>true
mutual
def yH{a:Nat->Type}:TV a->Bool
 | .any=>false
 | .agg _=>false
 | .bu _=>false
 |_=>true
def jj{b:Nat->Type}:List (TV b)->Bool
 |[]=>true
 |a::c=>bif yH a then jj c else false
end
def store(e:List (Ob B.D))(k:TypeId)(f a:TV B.D)(g:cr B.D->Option R):Option R:=
 match cH P k with
 |some b=>bif e4 (len (dN a)) b then bif jj (dN a) then match f with
  | .ptr r v i d=>match aK e r v with
   |some (.aap b h)=>(h[i]?).bind λf=>
    match B.tv b f with
    | .agg c=>bif hK (d+len (dN a)) (len c) then tr (B.up b (.agg (oJ c d (dN a)))) λj=>g ⟨.any,[(r,⟨dJ e r,v,.aap b (h.set i j)⟩)],0,[r]⟩ else c6
    |_=>bif e4 d 0 then tr (B.up b a) λj=>g ⟨.any,[(r,⟨dJ e r,v,.aap b (h.set i j)⟩)],0,[r]⟩ else c6
   |some (.box l c)=>bif e4 i 0 then bif hK (d+len (dN a)) (len c) then g ⟨.any,[(r,⟨dJ e r,v,.box l (oJ c d (dN a))⟩)],0,[r]⟩ else c6 else c6
   |_=>c6
  |_=>c6 else c6 else c6
 |none=>c6
def rowOf(d:List (Ob B.D))(e:TV B.D)(c:(a:Nat)->List (B.D a)->List Nat->Option R):Option R:=
 match e with
 | .row a b=>c a b []
 | .fl r v=>match aK d r v with
  |some (.aap a b)=>c a b [r]
  |_=>c6
 | .sl r v f len=>match aK d r v with
  |some (.aap a b)=>c a ((b.drop f).take len) [r]
  |_=>c6
 |_=>c6
def sU(a b:Nat)(d:List (B.D a)):Option (List (B.D b)):=
 if c:a=b then c4 (c▸d) else c6
def CK(e:List (Ob B.D))(c:Nat)(a:TV B.D)(b:List (B.D c)->List Nat->Option R):Option R:=
 match a with
 | .bg=>b [] []
 | .z0=>b [] []
 |a=>rowOf B e a λg f h=>tr (sU B g c f) λd=>b d h
def KK:Option Nat->Nat->Bool
 |some a,b=>e4 a b
 |none,_=>false
def kX(c:TypeId)(a:Nat):Bool:=match dU P c,cH P a with |some b,c4 d=>bif e4 b a then e4 d (B.sz a) else false |_,_=>false
def indexAddr(g:List (Ob B.D))(d:TypeId)(h i:TV B.D)(e:cr B.D->Option R):Option R:=
 match i with
 | .int _ c=>match h with
  | .row a b=>bif kX B P d a then(aj b c).bind λn=>e ⟨.vp (dN (B.tv a n)) 0,[],0,[]⟩ else c6
  | .fl r v=>match aK g r v with
   |some (.aap a b)=>bif kX B P d a then(aj b c).bind λ_=>e ⟨.ptr r v c.toNat 0,[],0,[r]⟩ else c6
   |some (.hole a b l)=>bif kX B P d a then AK B c b.length (λi=>e ⟨.ptr r v i 0,[],0,[r]⟩) 0 l else c6
   |_=>c6
  | .sl r v f len=>match aK g r v with
   |some (.aap a b)=>bif kX B P d a then(aj ((b.drop f).take len) c).bind λ_=>e ⟨.ptr r v (f+c.toNat) 0,[],0,[r]⟩ else c6
   |_=>c6
  | .ptr r v i m=>match c with
   | .ofNat q=>match pk P d with
    |some (a,j)=>match cH P j with
     |some k=>bif m1 q a then e ⟨.ptr r v i (m+q*k),[],0,[]⟩ else c6
     |none=>c6
    |none=>c6
   |_=>c6
  |_=>c6
 |_=>c6
def ints{e:Nat->Type}(a:IntKind):List (TV e)->Option (List Int)
 |[]=>c4 []
 | .int b d::c=>bif fV a b then(match ints a c with |some r=>c4 (d::r) |none=>c6) else c6
 |_=>c6
def gS{c:Nat->Type}:List (TV c)->Option (List Bool)
 |[]=>c4 []
 | .bool b::a=>(match gS a with |some r=>c4 (b::r) |none=>c6)
 |_=>c6
def Gx(d:TypeId)(e:Nat):Bool:=match pk P d with
 |some (c,a)=>(match cH P a,dP P a with |some b,c4 false=>bif e4 c e then e4 b 1 else false |_,_=>false)
 |none=>false
def index(g:TypeId)(f i:TV B.D)(c:cr B.D->Option R):Option R:=
 match i,f with
 | .int _ d,.agg a=>bif Gx P g (len a) then match a with
  | .int e _::_=>tr (ints e a) λb=>(aj b d).bind λv=>c ⟨.int e v,[],0,[]⟩
  | .bool _::_=>tr (gS a) λb=>(aj b d).bind λv=>c ⟨.bool v,[],0,[]⟩
  |_=>c6 else c6
 |_,_=>c6
def rE(b:En B.D)(a:Int):Option Operand->Option Int
 |none=>c4 a
 |some d=>match pe b d with
  | .int _ c=>c4 c
  |_=>c6
def pP{a:Nat->Type}:TV a->Bool
 | .int _ (.ofNat 0)=>true
 |_=>false
def Bx(a:En B.D):Option Operand->Bool
 |none=>true
 |some b=>pP (pe a b)
def slice(c:En B.D)(l:List (Ob B.D))(f:TypeId)(j:TV B.D)(h i:Option Operand)(g:cr B.D->Option R):Option R:=
 match j with
 | .row a d=>bif kX B P f a then tr (rE B c 0 h) λe=>tr (rE B c (d.length:Int) i) λb=>(eG d e b).bind λk=>g ⟨.row a k,[],0,[]⟩ else c6
 | .fl r v=>match aK l r v with
  |some (.aap a d)=>bif kX B P f a then tr (rE B c 0 h) λe=>tr (rE B c (d.length:Int) i) λb=>(eG d e b).bind λ_=>g ⟨.sl r v e.toNat (b.toNat -e.toNat),[],0,[r]⟩ else c6
  |_=>c6
 | .bg=>bif Bx B c h then bif Bx B c i then(match dU P f with |some a=>bif kX B P f a then g ⟨.bg,[],0,[]⟩ else c6 |none=>c6) else c6 else c6
 |_=>c6
def shrink(g:En B.D)(c:List (Ob B.D))(h:TypeId)(e:TV B.D)(j:Option Operand)(i:cr B.D->Option R):Option R:=
 match e with
 | .fl r v=>match aK c r v with
  |some (.aap a d)=>bif kX B P h a then tr (rE B g (d.length:Int) j) λb=>(eG d 0 b).bind λf=>i ⟨.fl r (v+1),[(r,⟨dJ c r,v+1,.aap a f⟩)],0,[r]⟩ else c6
  |_=>c6
 |_=>c6
def fill{b:Nat->Type}:List (Nat×Nat)->List (TV b)->List (Nat×List (TV b))->Option (List (TV b))
 |_,a,[]=>c4 a
 |d,a,p::r=>match nth d p.1 with
  |some (c,size)=>bif e4 (len p.2) size then bif hK (c+size) (len a) then bif jj p.2 then fill d (oJ a c p.2) r else c6 else c6 else c6
  |none=>c6
def ul(a:En B.D):List (Nat×Operand)->Option (List (Nat×List (TV B.D)))
 |[]=>c4 []
 |p::r=>bif tF (pe a p.2) then(match ul a r with |some b=>c4 ((p.1,dN (pe a p.2))::b) |none=>c6) else c6
def AA(a:Nat):Nat->Nat->List (Nat×Nat)
 |0,_=>[]
 |b+1,i=>(i*a,a)::AA a b (i+1)
def placesOf(a:TypeId):Option (List (Nat×Nat)):=
 match Jk P a with
 |some e=>c4 e
 |none=>match pk P a with
  |some (d,c)=>match cH P c with
   |some b=>c4 (AA b d 0)
   |none=>c6
  |none=>c6
def rn(b:En B.D)(a:Nat):Nat->List (Nat×Operand)->Option (List (B.D a))
 |_,[]=>c4 []
 |i,p::r=>bif e4 p.1 i then match B.up a (pe b p.2),rn b a (i+1) r with
  |some c,c4 d=>c4 (c::d)
  |_,_=>c6
  else c6
def kR{a:Nat->Type}:List (Nat×TV a)->TV a
 |[p]=>p.2
 |b=>.bu (b.map (·.2))
def fi{a:Nat->Type}:Nat->List (TV a)->En a
 |_,[]=>[]
 |i,c::b=>(i,c)::fi (i+1) b
def gu{d:Nat->Type}(c:List (Ob d))(b:List Rf)(a f q:Nat):Nat×Nat:=
 bif m1 q a then match nth b q with
  |some (.bG r)=>(r,match nth c r with |some e=>e.aF |none=>0)
  |_=>(0,0)
 else(f+(q -a),1)
def jL{c:Nat->Type}(b:List (Ob c)):List Rf->List (Nat×Ob c)
 |[]=>[]
 | .bG r::a=>match nth b r with
  |some d=>(r,⟨d.st+1,d.aF+1,.dead⟩)::jL b a
  |none=>jL b a
 |_::a=>jL b a
def iF{a:Nat->Type}(b:List (Ob a)):List Rf->List (Ob a)->List (Nat×Ob a)
 | .bG r::e,c::d=>(r,⟨dJ b r,c.aF,c.bd⟩)::iF b e d
 |_,_=>[]
def news{a:Nat->Type}:Nat->List (Ob a)->List (Nat×Ob a)
 |_,[]=>[]
 |b,d::c=>(b,d)::news (b+1) c
mutual
def jn{e:Nat->Type}(b:List (Ob e)):CP->TV e->List Nat
 | .v _,a=>aX (refs a) (kY b (refs a))
 | .q d,a=>match a with
  | .ptr r _ _ _=>r::(match nth b r with
   |some ⟨_,_,.box _ c⟩=>gJ b d c
   |_=>[])
  | .vp c _=>gJ b d c
  |_=>[]
 | .f _ d g,a=>match a with
  | .fn _ c f=>aX (gJ b d c) (gJ b g f)
  |_=>[]
 | .g d,a=>match a with
  | .agg c=>gJ b d c
  |_=>[]
 |_,_=>[]
def gJ{b:Nat->Type}(a:List (Ob b)):List CP->List (TV b)->List Nat
 |f::e,d::c=>aX (jn a f d) (gJ a e c)
 |_,_=>[]
end
def eW{f:Nat->Type}(a:List (Ob f)):List (Nat×List Nat×OP)->List Rf->List Nat
 |(_,_,.box _ e)::b,.bG r::c=>aX (match nth a r with
  |some ⟨_,_,.box _ d⟩=>gJ a e d
  |_=>[]) (eW a b c)
 |_::b,_::c=>eW a b c
 |_,_=>[]
def gK{c:Nat->Type}(a:St c):List (Nat×CP)->List Nat
 |[]=>[]
 |b::d=>aX (jn a.H b.2 (lk a.E b.1)) (gK a d)
mutual
def Kk(f:Nat->Bool):CP->Bool
 | .v c=>f c
 | .q _=>false
 | .f _ a b=>bif rr f a then rr f b else false
 | .g a=>rr f a
 |_=>true
def rr(f:Nat->Bool):List CP->Bool
 |[]=>true
 |a::b=>bif Kk f a then rr f b else false
end
def uT(f:Nat->Bool)(a:Nat->Nat):OP->Bool
 | .aap _ b=>f (a b)
 | .box _ c=>rr f c
 | .dead=>true
 | .refs _ d=>rr f (iQ d)
def oN(f:Nat->Bool)(a:Nat->Nat):List (Nat×List Nat×OP)->Bool
 |[]=>true
 |c::b=>bif uT f a c.2.2 then oN f a b else false
def tJ(f:Nat->Bool):List (Nat×CP)->Bool
 |[]=>true
 |a::b=>bif Kk f a.2 then tJ f b else false
def zc:List Nat->Bool
 |[]=>true
 |_=>false
def kA:Nat->List Rf->Bool
 |0,_=>true
 |b+1,.bG _::a=>kA b a
 |_,_=>false
def here{c:Nat->Type}(a:List (Ob c)):List Nat->Bool
 |[]=>true
 |i::b=>match nth a i with
  |some _=>here a b
  |none=>false
def Nv(b:St B.D)(a:aq B)(c:List Rf)(j:List (TV B.D))(i:cr B.D->Option R):Option R:=
 let e:=aX (eW b.H a.par.dF c) (gK b a.par.dE)
 bif (bif zc e then true else bif oN B.flat B.el a.az.dF then tJ B.flat a.az.dE else false) then bif kA a.low c then bif here b.H e then
  m9 B a.par.bX j λh=>(a.F h).bind λf=>
   match nI B (gu b.H c a.low (len b.H)) a.az f with
   |⟨g,d⟩=>bif hK a.low (len d) then i ⟨kR g,aX (iF b.H (tk a.low c) (tk a.low d)) (aX (jL b.H (drop a.low c)) (news (len b.H) (drop a.low d))),len (drop a.low d),aX (bL c) e⟩ else c6
 else c6 else c6 else c6
def nz(f:Nat)(a:St B.D)(c:cr B.D->Option R):List (aq B)->Option R
 |[]=>c6
 |b::d=>bif (bif e4 b.cO f then e4 (len a.E) b.na else false) then
  match leaves b.par a (nQ a b.par.dF) with
  |some e=>Nv B a b (nQ a b.par.dF) e c
  |none=>nz f a c d
  else nz f a c d
def nf{b:Type}:List b->List b->List b
 |[],a=>a
 |c::d,a=>nf d (c::a)
def sV(f:Nat)(b:St B.D)(c:cr B.D->Option R):List (aq B)->Option R
 |[]=>c6
 |a::d=>bif (bif e4 (len b.E) a.na then(leaves a.par b (nQ b a.par.dF)).isSome else false) then cond (e4 f a.cO) (nz B a.cO b c [a]) (sV f b c d) else sV f b c d
def Dm(f:Int->Int->Int):List (TV B.D)->Option (TV B.D)
 |[.int a c,.int b d]=>bif fV a b then c4 (.int a (f c d)) else c6
 |_=>c6
def KP{e:Nat->Type}(d:Bool)(c a:TV e):TV e:=
 match c,a with
 | .bool f,.bool b=>.bool (cond d f b)
 |c,a=>cond d c a
def Cf:Operand->Operand->Bool
 | .tmp a,.tmp b=>e4 a b
 | .const (.int a c),.const (.int b d)=>bif fV a b then c3 (c=d) else false
 |_,_=>false
def lB(a:Nat)(c:Option Nat)(z:Option Value):Bool:=
 match c,z with
 |some b,c4 z=>bif e4 a b then e4 z.cells.size a else false
 |_,_=>false
def Ax:List Value->Bool
 |[]=>true
 |v::a=>bif v.oneCell' then Ax a else false
def Ix(z:Option Value):Bool:=
 match z with
 |some z=>Ax z.cells.toList
 |none=>false
def iG{a:Type}(z:a)(b d:Nat)(c:List a):List a:=c.take b++(hB d z++c.drop (b+d))
def mg{a:Type}(c:List a)(d b:Nat)(e:List a):List a:=e.take d++(c.take b++e.drop (d+(c.take b).length))
def B4(d:List (Ob B.D))(e:TV B.D)(c:Nat->Nat->Nat->Nat->(a:Nat)->List (B.D a)->Option R):Option R:=
 match e with
 | .fl r v=>match aK d r v with
  |some (.aap a b)=>c r v 0 b.length a b
  |_=>c6
 | .sl r v f len=>match aK d r v with
  |some (.aap a b)=>c r v f len a b
  |_=>c6
 |_=>c6
def GF(d:List (Ob B.D))(b:TV B.D)(c:cr B.D->Option R):Option R:=
 match b with
 | .fl r v=>match aK d r v with
  |some (.aap _ a)=>c ⟨.int .i64 (a.length:Int),[],0,[r]⟩
  |some (.hole _ a e)=>c ⟨.int .i64 ((a.length+len e:Nat):Int),[],0,[r]⟩
  |_=>c6
 |b=>rowOf B d b λ_ a f=>c ⟨.int .i64 (a.length:Int),[],0,f⟩
def FK(a:En B.D)(c:List (Ob B.D))(b:Nat)(d:List (Nat×Operand))(f:Nat)(e:cr B.D->Option R):Option R:=
 match d with
 |[p]=>bif e4 p.1 0 then bif e4 f 1 then bif e4 (len (dN (pe a p.2))) (B.sz b) then bif jj (dN (pe a p.2)) then bif tF (pe a p.2) then e ⟨.fl (len c) 1,[(len c,⟨1,1,.hole b [] [pe a p.2]⟩)],1,[]⟩ else c6 else c6 else c6 else c6 else c6
 |_=>c6
def GI(c:List (Ob B.D))(b f:Nat)(k j:TV B.D)(e:cr B.D->Option R):Option R:=
 match j with
 | .fl q i=>match aK c q i with
  |some (.hole l [] d)=>bif e4 l b then match k with
   | .bg=>bif hK (len d*f) 140737488355328 then e ⟨.fl (len c) 1,[(len c,⟨1,1,.hole b [] d⟩)],1,[q]⟩ else c6
   | .fl r v=>match aK c r v with
    |some (.hole g a h)=>tr (sU B g b a) λa=>bif hK ((a.length+len h+len d)*f) 140737488355328 then e ⟨.fl r (v+1),[(r,⟨dJ c r,v+1,.hole b a (aX h d)⟩)],0,[r,q]⟩ else c6
    |some (.aap g a)=>tr (sU B g b a) λa=>bif hK ((a.length+len d)*f) 140737488355328 then e ⟨.fl r (v+1),[(r,⟨dJ c r,v+1,.hole b a d⟩)],0,[r,q]⟩ else c6
    |_=>c6
   |_=>c6
   else c6
  |_=>c6
 |_=>c6
def SG(b:List (Ob B.D))(c:TV B.D):Bool:=
 match c with
 | .fl q a=>match aK b q a with
  |some (.hole _ _ _)=>true
  |_=>false
 |_=>false
def step(I:List (aq B))(H:Bool)(d:En B.D)(h:List (Ob B.D))(y:Op)(g:cr B.D->Option R):Option R:=
 let mk (a:Nat) (l:List (B.D a)) (m:List Nat):Option R:=
  bif H then g ⟨.row a l,[],0,m⟩ else g ⟨.fl (len h) 1,[(len h,⟨1,1,.aap a l⟩)],1,m⟩
 match y with
 | .move c=>g ⟨pe d c,[],0,[]⟩
 | .assign c=>g ⟨pe d c,[],0,[]⟩
 | .pick k q b=>match pe d k with
  | .bool k=>g ⟨KP k (pe d q) (pe d b),[],0,[]⟩
  |_=>c6
 | .binOp y e c w _=>bin B P y e (pe d c) (pe d w) λv=>g ⟨v,[],0,[]⟩
 | .unOp y _ c=>HY B y (pe d c) λv=>g ⟨v,[],0,[]⟩
 | .convert T N c=>match pe d c,yi P N with
  | .int _ x,c4 q=>bif (P.underlying T).isSome then g ⟨.int q (q.wrap x),[],0,[]⟩ else c6
  |_,_=>c6
 | .extract c i=>match pe d c with
  | .bu j=>tr (nth j i) λv=>g ⟨v,[],0,[]⟩
  |_=>c6
 | .nilCheck c=>match pe d c with
  | .ptr r v i p=>g ⟨.ptr r v i p,[],0,[]⟩
  | .vp j p=>g ⟨.vp j p,[],0,[]⟩
  | .fn f j K=>g ⟨.fn f j K,[],0,[]⟩
  |_=>c6
 | .field e c f=>match pe d c,nU P e f with
  | .agg j,c4 (F,n)=>tr (piece P F j n) λv=>g ⟨v,[],0,[]⟩
  |_,_=>c6
 | .fieldAddr e c f=>match nU P e f with
  |some (F,n)=>match cH P F with
   |some (_+1)=>match pe d c with
    | .ptr r v i p=>g ⟨.ptr r v i (p+n),[],0,[]⟩
    | .vp j p=>g ⟨.vp j (p+n),[],0,[]⟩
    |_=>c6
   |_=>c6
  |none=>c6
 | .indexAddr e c i=>indexAddr B P h e (pe d c) (pe d i) g
 | .index e c i=>index B P e (pe d c) (pe d i) g
 | .load e c=>load B P h e (pe d c) g
 | .store e c w=>store B P h e (pe d c) (pe d w) g
 | .slice e c M C c6=>bif H then(match M with |none=>shrink B P d h e (pe d c) C g |some _=>c6) else slice B P d h e (pe d c) M C g
 | .slice e c c6 (c4 C) (c4 Q)=>bif pP (pe d C) then bif pP (pe d Q) then rowOf B h (pe d c) λa _ m=>bif kX B P e a then g ⟨.z0,[],0,m⟩ else c6 else c6 else c6
 | .box e c=>match dN (pe d c) with
  |j=>bif jj j then bif m1 0 (len j) then g ⟨.ptr (len h) 1 0 0,[(len h,⟨1,1,.box e j⟩)],1,[]⟩ else c6 else c6
 | .alloc e=>match dV P e with
  |some z=>match dN (cv z) with
   |j=>bif jj j then bif m1 0 (len j) then g ⟨.ptr (len h) 1 0 0,[(len h,⟨1,1,.box e j⟩)],1,[]⟩ else c6 else c6
  |none=>c6
 | .build e A=>match dV P e,placesOf P e with
  |some (.agg z),c4 S=>match rq z.toList with
   |j=>bif jj j then tr (ul B d A.toList) λo=>tr (fill S j o) λj=>g ⟨.agg j,[],0,[]⟩ else c6
  |_,_=>c6
 | .buildSlice e o A=>match dU P e with
  |some a=>bif lB (B.sz a) (cH P a) (dV P a) then bif Ix (dV P a) then bif hK (o*B.sz a) 16777216 then match rn B d a 0 A.toList with
   |some l=>bif e4 (len l) o then mk a l [] else c6
   |none=>FK B d h a A.toList o g
   else c6 else c6 else c6
  |none=>c6
 | .makeSlice e o k=>bif Cf o k then match dU P e,pe d o with
  |some a,.int _ x=>match dV P a,kB P a with
   |some z,c4 (t+1)=>bif lB (B.sz a) (cH P a) (dV P a) then bif jj (dN (cv (D:=B.D) z)) then tr (B.up a (cv z)) λz=>(gP (t+1) z x).bind λl=>mk a l [] else c6 else c6
   |_,_=>c6
  |_,_=>c6 else c6
 | .makeFunc (.func f) q k=>g ⟨.fn f (fB d q.toList) (fB d k.toList),[],0,[]⟩
 | .call k=>match k.callee with
  | .value f=>match pe d f with
   | .fn J j K=>nz B J ⟨fi 0 (aX j (aX (fB d k.args.toList) K)),h⟩ g (bif H then nf I [] else I)
   | .jC O=>O.bind λJ=>sV B J ⟨fi 0 (fB d k.args.toList),h⟩ g I
   |_=>c6
  | .builtin b=>match b with
   | .len=>match fB d k.args.toList,k.argTypes.toList with
    |[c],[e]=>match dU P e with
     |some _=>(match c with
      | .bg=>g ⟨.int .i64 0,[],0,[]⟩
      | .z0=>g ⟨.int .i64 0,[],0,[]⟩
      |c=>GF B h c g)
     |none=>c6
    |_,_=>c6
   | .min=>tr (Dm B min (fB d k.args.toList)) λv=>g ⟨v,[],0,[]⟩
   | .max=>tr (Dm B max (fB d k.args.toList)) λv=>g ⟨v,[],0,[]⟩
   | .append=>match fB d k.args.toList,k.argTypes.toList with
    |[L,c],[e,G]=>bif e4 e G then match dU P e with
     |some a=>match kB P a with
      |some (t+1)=>bif lB (B.sz a) (cH P a) (dV P a) then bif SG B h c then GI B h a (t+1) L c g else CK B h a c λs m=>match L with
       | .bg=>(bj (t+1) [] s).bind λu=>mk a u m
       | .z0=>(bj (t+1) [] s).bind λu=>mk a u m
       | .fl r v=>match aK h r v with
        |some (.aap x l)=>tr (sU B x a l) λl=>(bj (t+1) l s).bind λu=>g ⟨.fl r (v+1),[(r,⟨dJ h r,v+1,.aap a u⟩)],0,r::m⟩
        |_=>c6
       |_=>c6
       else c6
      |_=>c6
     |none=>c6 else c6
    |_,_=>c6
   | .clear=>match fB d k.args.toList,k.argTypes.toList with
    |[c],[e]=>B4 B h c λr v n E a l=>bif KK (dU P e) a then bif lB (B.sz a) (cH P a) (dV P a) then match dV P a with
     |some z=>bif jj (dN (cv (D:=B.D) z)) then tr (B.up a (cv z)) λz=>g ⟨.bu [],[(r,⟨dJ h r,v,.aap a (iG z n E l)⟩)],0,[r]⟩ else c6
     |none=>c6 else c6 else c6
    |_,_=>c6
   | .copy=>match fB d k.args.toList,k.argTypes.toList with
    |[c,w],[e,G]=>bif e4 e G then B4 B h c λr v n E a l=>bif KK (dU P e) a then bif lB (B.sz a) (cH P a) (dV P a) then CK B h a w λs m=>g ⟨.int .i64 ((min E s.length:Nat):Int),[(r,⟨dJ h r,v,.aap a (mg s n E l)⟩)],0,r::m⟩ else c6 else c6 else c6
    |_,_=>c6
   |_=>c6
  |_=>c6
 |_=>c6
end
structure Hn where
 fz:List Nat
 outs:List (Nat×lD)
 lp:Option lD
abbrev h0:Hn:=⟨[],[],c6⟩
def hint:List (Nat×Hn)->Nat->Hn
 |[],_=>h0
 |p::a,n=>bif e4 p.1 n then p.2 else hint a n
structure Lg where
 rt:List Nat
 wt:List Nat
 rd:List Nat
 wr:List Nat
def tmpsOf:List Operand->List Nat
 |[]=>[]
 | .tmp b::a=>b::tmpsOf a
 |_::a=>tmpsOf a
def yI:Option Nat->List Nat
 |some a=>[a]
 |none=>[]
section
variable (L:Lp)(B:Tb)(P:Program)(G:List (aq B))(n:Nat)
def gr{a:Nat->Type}(b:En a):Option Nat->TV a->En a
 |some c,v=>(c,v)::b
 |none,_=>b
def zL(i:Nat):List Oper->Bool
 |[]=>false
 |b::r=>bif (match b.guard with |some (a,_)=>e4 i a |none=>false) then true else zL i r
def eV{a:Type}:List (Nat×a)->List Nat
 |[]=>[]
 |p::b=>p.1::eV b
def xt{a:Nat->Type}:Ob a:=⟨0,0,.dead⟩
def dx{a:Nat->Type}:Nat->List (Ob a)
 |0=>[]
 |n+1=>xt::dx n
def behind{a:Nat->Type}(b:List (Ob a))(r:cr a):List (Ob a):=b8 (aX b (dx r.nw)) r.wr
def sZ(b:List Oper)(d:Oper):List Nat:=match d.guard with
 |some (a,_)=>match nth b a with
  |some c=>yI c.dst
  |none=>[]
 |none=>[]
def gU{c:Nat->Type}(a:List (Ob c)):List Nat->List (Nat×Ob c)
 |[]=>[]
 |r::b=>match nth a r with
  |some d=>(r,⟨d.st+1,d.aF+1,.dead⟩)::gU a b
  |none=>gU a b
def G0{a:Nat->Type}(b:List (Ob a)):TV a->TV a
 | .bu d=>.bu (jS b [] d)
 |c=>kJ b [] c
def Jd{c:Nat->Type}(n:Nat)(a:List (Nat×Ob c)):List Nat->Bool
 |[]=>true
 |r::b=>bif hK n r then bif has (eV a) r then Jd n a b else false else false
def Fs{c:Nat->Type}(b:List (Ob c))(a:cr c):Option (cr c):=
 bif Jd (len b) a.wr (refs a.val) then bif zc (kY (behind b a) (refs a.val)) then c4 ⟨G0 (behind b a) a.val,aX a.wr (gU (behind b a) (refs a.val)),a.nw,a.rd⟩ else c6 else c6
def zM{d:Type}(e h:Bool)(g:En B.D)(b:List (Ob B.D))(f:Op)(a:cr B.D->Option d):Option d:=
 step B P G e g b f λc=>bif h then tr (Fs b c) a else a c
def rV{c:Nat->Type}(b:List Oper)(a:Oper)(r:cr c):Lg:=⟨aX (sZ b a) (tmpsOf a.op.operands.toList),yI a.dst,r.rd,eV r.wr⟩
def xo(b:List Oper)(a:Oper):Lg:=⟨sZ b a,yI a.dst,[],[]⟩
def Dp(n:Nat):List Nat->Bool
 |[]=>true
 |a::b=>bif m1 a n then Dp n b else false
def ops{k:Type}(f:List Nat)(c:List Oper)(g:List Lg->St B.D->Option k):Nat->List Oper->List Lg->St B.D->Option k
 |_,[],e,a=>g e a
 |i,d::r,e,a=>
  let go:=zM B P G (has f i) (has f (i+1000)) a.E a.H d.op λh=>bif Dp (len a.H) h.rd then
   let j:=behind a.H h
   let e:=rV c d h::e
   bif zL i c then match h.val with
    | .bool m=>cond m (ops f c g (i+1) r e ⟨gr a.E d.dst (.bool true),j⟩) (ops f c g (i+1) r e ⟨gr a.E d.dst (.bool false),j⟩)
    |_=>c6
   else ops f c g (i+1) r e ⟨gr a.E d.dst h.val,j⟩
   else c6
  match d.guard with
  |none=>go
  |some (p,o)=>match nth c p with
   |some q=>match q.dst with
    |some l=>match lk a.E l with
     | .bool b=>cond (Bool.xor b o) (ops f c g (i+1) r (xo c d::e) ⟨gr a.E d.dst (.bu []),a.H⟩) go
     | .bu []=>ops f c g (i+1) r (xo c d::e) ⟨gr a.E d.dst (.bu []),a.H⟩
     |_=>c6
    |none=>c6
   |none=>c6
def meets:List Nat->List Nat->Bool
 |[],_=>false
 |b::c,a=>bif has a b then true else meets c a
def iw:List Edge->List Nat
 |[]=>[]
 |a::b=>bif Region.binds .any a then a.on::iw b else iw b
def oF(p:Nat->Bool):List Nat->Bool
 |[]=>false
 |a::b=>bif p a then true else oF p b
def before(a:List Oper):Nat->Nat->Nat->Bool
 |0,_,_=>false
 |f+1,i,c=>match nth a c with
  |some b=>bif has (iw b.after.toList) i then true else oF (λd=>before a f i d) (iw b.after.toList)
  |none=>false
def mm(a b:Lg):Bool:=bif meets a.wr b.rd then true else bif meets a.wr b.wr then true else bif meets b.wr a.rd then true else bif meets a.wt b.rt then true else bif meets a.wt b.wt then true else meets b.wt a.rt
def vK(a:List Oper)(d:Lg)(c:Nat):Nat->List Lg->Bool
 |_,[]=>true
 |i,b::e=>bif (bif mm d b then before a (len a) i c else true) then vK a d c (i+1) e else false
def n4(a:List Oper):List Lg->Nat->List Lg->Bool
 |_,_,[]=>true
 |b,d,c::e=>bif vK a c d 0 b then n4 a (aX b [c]) (d+1) e else false
def m7:Nat->List Oper->Bool
 |_,[]=>true
 |i,c::b=>bif oF (λa=>hK i a) (iw c.after.toList) then false else m7 (i+1) b
def tI:List Oper->List Nat->List Nat
 |[],ws=>ws
 |b::r,ws=>match b.dst with
  |some a=>a::tI r ws
  |none=>tI r ws
def cQ:Code->List Nat->List Nat
 | .region _ c _,ws=>tI c.toList ws
 | .seq a b,ws=>cQ a (cQ b ws)
 | .cond _ a b,ws=>cQ a (cQ b ws)
 | .block _ a,ws=>cQ a ws
 | .loop a,ws=>cQ a ws
 |_,ws=>ws
def Ej(a:Nat):List Oper->Bool
 |[]=>true
 |b::r=>bif fL a b.dst then Ej a r else false
def gB(c:Nat):Code->Bool
 | .region _ d _=>Ej c d.toList
 | .seq a b=>bif gB c a then gB c b else false
 | .cond _ a b=>bif gB c a then gB c b else false
 | .block _ a=>gB c a
 | .loop a=>gB c a
 |_=>true
def qM:List (Nat×lD)->Type
 |[]=>Empty
 |[p]=>bi B.D p.2.bX
 |p::q::r=>bi B.D p.2.bX⊕qM (q::r)
variable (S0:St B.D)(ws:List Nat)
def inj{d:Type}:(g:List (Nat×lD))->Nat->St B.D->(qM B g->Option d)->Option d
 |[],_,_,_=>c6
 |[p],c,a,b=>bif e4 p.1 c then nW B n S0 ws p.2 a b else c6
 |p::q::r,c,a,b=>bif e4 p.1 c then nW B n S0 ws p.2 a (λf=>b (.inl f)) else inj (q::r) c a (λe=>b (.inr e))
def out{d:Type}:(e:List (Nat×lD))->qM B e->(Nat->St B.D->Option d)->Option d
 |[],_,_=>c6
 |[p],c,a=>a p.1 (ik B S0 ws p.2 c)
 |p::q::r,c,a=>Sum.elim (λf=>a p.1 (ik B S0 ws p.2 f)) (λb=>out (q::r) b a) c
def join{e:Type}(c:Code)(g:Hn)(b:Nat->St B.D->Option e)(d:{R':Type}->(Nat->St B.D->Option R')->Option R'):Option e:=
 match g.outs with
 |[]=>d b
 |p::a=>(d (R':=qM B (p::a)) λi f=>inj B n S0 (cQ c []) (p::a) i f c4).bind λh=>out B S0 (cQ c []) (p::a) h b
def D8{a:Type}(f:(Nat->St B.D->Option a)->St B.D->Option a)(e:St B.D->Option a)(d:Nat->St B.D->Option a):Nat->St B.D->Option a
 |0,b=>e b
 |h+1,b=>f (λg c=>bif e4 g 0 then D8 f e d h c else d g c) b
def zP:List Nat->Nat
 |[]=>0
 |a::_=>a
def exec(d:List (Nat×Hn)):Code->Nat->{R:Type}->(Nat->St B.D->Option R)->St B.D->Option R
 | .skip,_,_,c,a=>c 0 a
 | .ret,_,_,c,a=>c 1 a
 | .exit g,_,_,c,a=>c (g+2) a
 | .label _,_,_,c,a=>c 0 a
 | .region g h m,p,_,c,a=>join B n a (.region g h m) (hint d p) c λc=>ops B P G (hint d p).fz h.toList (λs a=>bif m then(bif m7 0 h.toList then bif n4 h.toList [] 0 (nf s []) then c 0 a else c6 else c6) else c 0 a) 0 h.toList [] a
 | .seq e b,p,_,c,a=>join B n a (.seq e b) (hint d p) c λc=>exec d e (2*p) (λf a=>bif e4 f 0 then exec d b (2*p+1) c a else c f a) a
 | .cond j e b,p,_,c,a=>join B n a (.cond j e b) (hint d p) c λc=>match pe a.E j with
  | .bool j=>cond j (exec d e (2*p) c a) (exec d b (2*p+1) c a)
  |_=>c6
 | .block g e,p,_,c,a=>join B n a (.block g e) (hint d p) c λc=>exec d e (2*p) (λf a=>bif e4 f (g+2) then c 0 a else c f a) a
 | .loop e,p,_,c,a=>D8 B (λo i=>exec d e (2*p) o i) (λa=>match (hint d p).lp with
  |some q=>nW B n a (cQ e []) q a λr=>(L.loop (λk=>exec d e (2*p) (R:=bi B.D q.bX⊕qM B (hint d p).outs) (λf i=>bif e4 f 0 then nW B n a (cQ e []) q i (λk=>c4 (.inl k)) else inj B n a (cQ e []) (hint d p).outs f i λl=>c4 (.inr l)) (ik B a (cQ e []) q k)) r).bind λl=>out B a (cQ e []) (hint d p).outs l c
  |none=>c6) c (zP (hint d p).fz) a
 |_,_,_,_,_=>c6
def nh{f:Type}(a:St B.D):Nat->List ResultVar->En B.D->(En B.D->Option f)->Option f
 |_,[],b,c=>c b
 |i,.tmp d::e,b,c=>nh a (i+1) e ((i,lk a.E d)::b) c
 |i,.cell g d::e,b,c=>load B P a.H d (lk a.E g) λr=>nh a (i+1) e ((i,r.val)::b) c
def gl(a:aq B)(c:List ResultVar)(code:Code)(f:List (Nat×Hn))(d:bi B.D a.par.bX):Option (bi B.D a.az.bX):=
 exec L B P G a.low f code 1 (λg b=>bif hK g 1 then nh B P b 0 c [] λe=>take B a.low a.az ⟨e,b.H⟩ c4 else c6) (cz B a.par d)
end
end Go.X
namespace Go.Bml
open Go
def VR.dH{g:Gh}{H:List aO}{w:World}{c:PV}{x:Value}(h:VR g H w c x)(k:cE 0 c):VI g.F w c x:=by
 induction h with
 |aW h=>exact h
 |ptr r v i I o a y t K=>cases k with |ptr _ _ _ _ h=>omega
 |sl r v off len o x y t B j=>cases k with |sl _ _ _ _ h=>omega
 |fl r v o x y t B j=>cases k with |fl _ _ h=>omega
 |agg l s m t u=>cases k with |agg _ n=>exact .agg l s m λi c x e j=>u i c x e j (n c (dT e))
 |bu l s m t u=>cases k with |bu _ n=>exact .bu l s m λi c x e j=>u i c x e j (n c (dT e))
 |fn f l D s G m t A J u F=>
  cases k with |fn _ _ _ n C=>exact .fn f l D s G m (λi c x e j=>u i c x e j (n c (dT e))) A (λi c x e j=>F i c x e j (C c (dT e)))
def ako{e:Nat}{a:PV}(f:cE e a){j:Nat}{c:PV}(b:a.cells[j]?=c4 c):cE e c:=by
 by_cases h:∃i,a= .agg i
 .obtain⟨i,rfl⟩:=h;cases f with |agg _ k=>exact k c (dT b)
 .have l:a.cells=[a]:=by cases a <;> first |rfl |exact absurd ⟨_,rfl⟩ h
  rw[l] at b
  match j,b with
  |0,b=>simp at b;subst b;exact f
def nR{c:Nat}{es:List PV}(h:∀a,a∈es->cE c a){i j:Nat}{f:PV}(b:abk es i j=c4 f):cE c f:=by
 obtain⟨a,e,_⟩:=gw b;unfold abk at b;rw[e] at b;exact ako (h a (dT e)) b
def Ed{g:Gh}{H:List aO}{w:World}{r c len:Nat}{o:aO}{v:Value}{F:Nat->Prop}(s:qT g H w r o)(h:SL g o r c len v)(L:∀l,l∈o.es->cE 0 l)
 (K:∀b,g.F b->F b) (B:∀b n,g.β r=c4 (b,n)->F b):VI F w (.vs o.sz ((o.es.drop c).take len)) v:=by
 unfold SL at h;obtain⟨R,h⟩:=h;have t:((o.es.drop c).take len).length=len:=by simp;omega
 cases k:g.β r with
 |none=>
  rw[k] at h;obtain⟨rfl,rfl,m,rfl⟩:=h;simp only[o7];exact .eX o.sz m 0
 |some I=>
  obtain⟨b,n⟩:=I;rw[k] at h;obtain⟨cap,m,rfl,U,y,_⟩:=h
  by_cases h0:len=0
  .subst h0;simp only[o7];exact .eX o.sz m cap
  .obtain rfl:=y h0;have x:=s.mem;rw[k] at x;obtain⟨_,cells,O,Q,T,S,D⟩:=x;have J:∀i a e,abk ((o.es.drop c).take len) i a=c4 e->abk o.es (c+i) a=c4 e:=λi a e f=>by
    unfold abk at f⊢
    by_cases M:i<len
    .rw[e0 M,ea] at f;exact f
    .rw[hI (by rw[t];omega)] at f;simp at f
   have p:∀i a e,abk ((o.es.drop c).take len) i a=c4 e->cells[(c+i)*o.sz+a]?=c4 (cells.getD (c*o.sz+(i*o.sz+a)) undef)/\(cells.getD (c*o.sz+(i*o.sz+a)) undef).oneCell'=true/\VI F w e (cells.getD (c*o.sz+(i*o.sz+a)) undef):=λi a e f=>by
    have q:=J i a e f;obtain⟨N,u,G,z⟩:=D _ _ _ q;have A:(c+i)*o.sz+a=c*o.sz+(i*o.sz+a):=by rw[eo];omega
    have C:cells.getD (c*o.sz+(i*o.sz+a)) undef=N:=by rw[<-A];simp[j2,u]
    rw[C];exact⟨u,G,(z.dH (nR L q)).mono K λ_ _=>rfl⟩
   have:=VI.vs (F:=F) (w:=w) o.sz ((o.es.drop c).take len) b (c*o.sz) cap (λi a=>cells.getD (c*o.sz+(i*o.sz+a)) undef) (by omega) (B b n k)
    (λi l j=>by
     rw[h6] at j
     split at j
     .rw[ea] at j;exact s.width _ l j
     .cases j)
    (λi a e f=>by
     rw[cell_of_row w b _ cells o.ty (0,0) O];have:=(p i a e f).1;rw[<-this]
     congr 1
     rw[eo];omega)
    (λi a e f=>(p i a e f).2.1) (λi a e f=>(p i a e f).2.2)
   rw[t] at this;exact this
section
variable {g:Gh}{H:List aO}{w:World}
def Gh.plus(g:Gh)(k:Nat):Gh:=⟨λb=>g.F b\/b=k,g.β⟩
def bF.afW(h:bF g H w)(ty:Nat)(cells:Array Value):
 GStep H.length g H w (g.plus w.heap.size) H (w.alloc (.cells cells ty))/\bF (g.plus w.heap.size) H (w.alloc (.cells cells ty)):=by
 have l:GStep H.length g H w (g.plus w.heap.size) H (w.alloc (.cells cells ty)):=
  ⟨rfl,rfl,rfl,by simp,λ_ a=>.inl a,λb a=>gv w _ b (h.fb b a),λb a _=>gv w _ b a,λb a=>a.elim .inl (λe=>.inr (.inl (by omega))),λr b C a=>.inr ⟨r,C,a⟩,λr o M k=>⟨o,k,ef _,λ_=>⟨rfl,rfl,rfl⟩⟩⟩
 refine⟨l,⟨λb a=>?_,h.inj,h.m8,λr o k=>?_⟩⟩
 .rcases a with a |a
  .exact l4 (h.fb b a) l.size
  .subst a;simp
 .obtain⟨a1,K,j⟩:=h.obj r o k;refine⟨a1,K,?_⟩
  show match g.β r with
   |none=>o.es=[]
   |some (b,C)=>¬(g.F b\/b=w.heap.size)/\_
  cases a:g.β r with
  |none=>rw[a] at j;exact j
  |some p=>
   obtain⟨b,L⟩:=p;rw[a] at j;obtain⟨y,t,m,B,G,D,x⟩:=j;refine⟨λF=>F.elim y (λe=>by have:=nN m;omega),t,(gv w _ b (nN m)).trans m,B,G,D,λi s c u=>?_⟩
   obtain⟨J,A,n,I⟩:=x i s c u;exact⟨J,A,n,I.nZ l⟩
end
section
variable {P:Program}{nt:Nat}{E:Env}{H:List aO}{o:Oper}
def J5{elem b m:Nat}{e:List PV}(aa:nY P E H o elem b e (λq R=>.sl q R 0 m))(V:e.length=m)(Q:∀u,u∈e->cE 0 u):
 fJ P o E H λI H1=>I= .vs b e/\H1=H:=by
 subst V;intro g nt A w j ai ah G;obtain⟨cells,D,n,c,S,ab,ae,N,ad,af,ag,ac,Z⟩:=aa g nt A w j;unfold n0;rw[S];have M:bF g H c/\GStep H.length g H w g H c/\c.heap.size=w.heap.size:=by
  rcases ab with rfl |rfl
  .exact⟨j.m,GStep.refl _ _ _ _,rfl⟩
  .obtain⟨T,W⟩:=Ez (m:=H.length) j.m;exact⟨W,T,rfl⟩
 obtain⟨J,p,s⟩:=M;obtain⟨l,X⟩:=J.afW elem cells;have U:=Z ⟨λ_=>False,λq=>if q=0 then c4 (w.heap.size,D) else c6⟩ [⟨elem,b,e,0⟩] (c.alloc (.cells cells elem)) 0 0 rfl rfl;have r:=lh (o:=⟨elem,b,e,0⟩) U rfl rfl;unfold SL at r;obtain⟨_,cap,O,x,K,y,_⟩:=r;have v:(c.alloc (.cells cells elem)).heap[w.heap.size]?=c4 (.cells cells elem (0,0)):=by rw[<-s];exact heap_alloc_new c _
 have B:VI (g.plus c.heap.size).F (c.alloc (.cells cells elem)) (.vs b e) n:=by
  rw[x]
  by_cases h0:e.length=0
  .rw[e5 h0];exact .eX b O cap
  .obtain rfl:=y h0;have k:∀i a f,abk e i a=c4 f->cells[i*b+a]?=c4 (cells.getD (i*b+a) undef)/\(cells.getD (i*b+a) undef).oneCell'=true/\VI (g.plus c.heap.size).F (c.alloc (.cells cells elem)) f (cells.getD (i*b+a) undef):=λi a f h=>by
    obtain⟨Y,t,L,z⟩:=ac i a f h;have C:cells.getD (i*b+a) undef=Y:=by simp[j2,t]
    rw[C];exact⟨t,L,((z.nZ p).nZ l).dH (nR Q h)⟩
   have:=VI.vs (F:=(g.plus c.heap.size).F) (w:=c.alloc (.cells cells elem)) b e w.heap.size 0 cap (λi a=>cells.getD (i*b+a) undef) K (.inr s.symm) N
    (λi a f h=>by
     rw[cell_of_row _ _ _ cells elem (0,0) v,gx];exact(k i a f h).1)
    (λi a f h=>(k i a f h).2.1) (λi a f h=>(k i a f h).2.2)
   simpa using this
 exact G n _ (g.plus c.heap.size) _ H ⟨rfl,rfl⟩ (.aW B) X (p.trans l)
def ab0{d:Option Nat}{ty:TypeId}{pos:String}{aft:Array Edge}{l:TypeId}{e k:Operand}{j b q:Nat}{p:PV}{f:List PV}{u:Value}(c:PE E e= .bg\/PE E e= .z0)(t:PE E k=p)(x:lE H p b f)(n:0<b)
 (m:dU P l=c4 j) (r:cH P j=c4 b) (F:kB P j=c4 q) (C:dV P j=c4 u) (J:u.cells.size=b) (K:f.length*q<=140737488355328) (B:f.length<=9223372036854775807) (D:∀v,v∈f->cE 0 v):
 fJ P ⟨d,.call {callee:=.builtin .append,args:=#[e,k],argTypes:=#[l,l]},ty,pos,aft,c6⟩ E H λA H1=>A= .vs b f/\H1=H:=by
 by_cases s:f=[]
 .subst s;have y:∀g nt (h:Act) w,Rel g nt E H h w->∃i,h.eval e= .slice i 0 0:=λg nt h w a=>by
   rcases c with c |c
   .exact⟨c6,(c▸a.e.eval e).pF⟩
   .exact(c▸a.e.eval e).rh
  intro g nt h w a O L z;obtain⟨i,G⟩:=y g nt h w a;obtain⟨_,M,N,I,_⟩:=x.real a.m (t▸a.e.eval k) n;unfold n0;rw[Ei,G,I,l0,xr (gD m) r (ef _)];exact z (.slice i 0 0) w g _ H ⟨rfl,rfl⟩ (.aW (.eX b i 0)) a.m (GStep.refl _ _ _ _)
 .exact J5 (PO c t x n m r F C J K B s) rfl D
end
section
variable {P:Program}{E:Env}{H:List aO}{d:Option Nat}{ty:TypeId}{pos:String}{aft:Array Edge}{gd:Option (Nat×Bool)}
def apw{f:FuncId}{bs cs:List Operand}:cM P ⟨d,.makeFunc (.func f) bs.toArray cs.toArray,ty,pos,aft,gd⟩ E H (.fn f (bs.map (PE E)) (cs.map (PE E))):=by
 intro g nt j w m;refine⟨.func (.func f) (bs.map j.eval).toArray (cs.map j.eval).toArray,by simp[execOp,Instr.makeFunc],?_⟩
 have k:∀(c:List Operand) (i:Nat) (h:PV) (e:Value),(c.map (PE E))[i]?=c4 h->(c.map j.eval)[i]?=c4 e->VR g H w h e:=λc i h e a b=>by
  rw[e6] at a b;cases l:c[i]? with
  |none=>rw[l] at a;cases a
  |some o=>
   rw[l] at a b;injection a with a;injection b with b
   subst a;subst b;exact m.e.eval o
 exact .fn f _ _ _ _ (by simp) (k bs) (by simp) (k cs)
end
inductive Cc:PV->PV->Prop
 |refl (c:PV):Cc c c
 |nil (sz:Nat):Cc .bg (.vs sz [])
 |z0 (sz:Nat):Cc .z0 (.vs sz [])
 |agg (cs ds:List PV) (hl:cs.length=ds.length) (h:∀(i:Nat) (c d:PV),cs[i]?=c4 c->ds[i]?=c4 d->Cc c d):Cc (.agg cs) (.agg ds)
def Cc.vi{F:Nat->Prop}{w:World}{c d:PV}(h:Cc c d):∀{x:Value},VI F w c x->VI F w d x:=by
 induction h with
 |refl c=>exact id
 |nil sz=>intro x h;cases h;exact .eX sz c6 0
 |z0 sz=>intro x h;cases h;exact .eX sz _ 0
 |agg k m t u e=>
  intro x h;cases h with
  |agg _ l s j=>
   refine .agg m l (by omega) λi c x a n=>?_
   have hi:i<k.length:=by
    have:=(c7.1 a).1;omega
   exact e i _ c (c5 hi) a (j i _ x (c5 hi) n)
def Cc.vr{g:Gh}{H:List aO}{w:World}{c d:PV}(h:Cc c d):∀{x:Value},VR g H w c x->VR g H w d x:=by
 induction h with
 |refl c=>exact id
 |nil sz=>intro x h;rw[h.pF];exact .aW (.eX sz c6 0)
 |z0 sz=>
  intro x h;obtain⟨a,rfl⟩:=h.rh;exact .aW (.eX sz _ 0)
 |agg l n u y j=>
  intro x h;obtain⟨m,rfl,t,k⟩:=h.ky;refine .agg n m (by omega) λi c x e s=>?_
  have hi:i<l.length:=by
   have:=(c7.1 e).1;omega
  exact j i _ c (c5 hi) e (k i _ x (c5 hi) s)
def Cc.cells{c d:PV}(h:Cc c d):c.cells.length=d.cells.length/\∀(i:Nat) (a b:PV),c.cells[i]?=c4 a->d.cells[i]?=c4 b->Cc a b:=by
 cases h with
 |refl=>exact⟨rfl,λi a b j e=>by rw[j] at e;injection e with e;subst e;exact .refl _⟩
 |nil sz=>exact⟨rfl,λi a b j e=>by
  match i,j,e with
  |0,j,e=>simp[PV.cells] at j e;subst j;subst e;exact .nil sz⟩
 |z0 sz=>exact⟨rfl,λi a b j e=>by
  match i,j,e with
  |0,j,e=>simp[PV.cells] at j e;subst j;subst e;exact .z0 sz⟩
 |agg m n k l=>exact⟨k,l⟩
structure jB (o o':aO):Prop where
 ty:o'.ty=o.ty
 sz:o'.sz=o.sz
 aF:o'.aF=o.aF
 len:o'.es.length=o.es.length
 wid:∀(i:Nat) (e:PV),o'.es[i]?=c4 e->e.cells.length=o'.sz
 cells:∀(i j:Nat) (c':PV),abk o'.es i j=c4 c'->∃c,abk o.es i j=c4 c/\Cc c c'
def jB.of{ty sz aF:Nat}{es j:List PV}(s:es.length=j.length)(h:∀(i:Nat) (c d:PV),es[i]?=c4 c->j[i]?=c4 d->Cc c d)(m:∀(i:Nat) (e:PV),j[i]?=c4 e->e.cells.length=sz):jB ⟨ty,sz,es,aF⟩ ⟨ty,sz,j,aF⟩:=by
 refine⟨rfl,rfl,rfl,s.symm,m,λi k t a=>?_⟩
 unfold abk at a⊢;cases he:j[i]? with
 |none=>rw[he] at a;cases a
 |some e=>
  rw[he] at a;have hi:i<es.length:=by
   have:=(c7.1 he).1;omega
  obtain⟨u,n⟩:=(h i _ e (c5 hi) he).cells;simp only[hU] at a;have l:k<es[i].cells.length:=by
   have:=(c7.1 a).1;omega
  exact⟨es[i].cells[k],by rw[c5 hi];exact c5 l,n k _ t (c5 l) a⟩
section
variable {g:Gh}{H:List aO}{w:World}{r:Nat}{o o':aO}
def SL.cv(h:jB o o'){q off len:Nat}{x:Value}(a:SL g o q off len x):SL g o' q off len x:=by
 unfold SL at*;rw[h.len,h.sz];exact a
def VR.qN(G:H[r]?=c4 o)(h:jB o o'){c:PV}{x:Value}(j:VR g H w c x):VR g (H.set r o') w c x:=by
 have M:r<H.length:=(c7.1 G).1;have C:∀q p,H[q]?=c4 p->∃d,(H.set r o')[q]?=c4 d/\d.aF=p.aF/\d.sz=p.sz/\d.es.length=p.es.length/\∀{s off len x},SL g p s off len x->SL g d s off len x:=λq p l=>by
  by_cases e:r=q
  .subst e;rw[G] at l;injection l with l
   subst l;exact⟨o',ee M,h.aF,h.sz,h.len,λO=>O.cv h⟩
  .exact⟨p,by rw[ey e];exact l,rfl,rfl,rfl,id⟩
 induction j with
 |aW h=>exact .aW h
 |ptr q v i J p a n j Q=>
  obtain⟨d,k,I,D,B,A⟩:=C q p n;exact .ptr q v i J d a k (by omega) λe=>by rw[D,B];exact Q (by omega)
 |sl q v off len p x n j E F=>
  obtain⟨d,k,I,D,B,A⟩:=C q p n;exact .sl q v off len d x k (by omega) E λe=>A (F (by omega))
 |fl q v p x n j E F=>
  obtain⟨d,k,I,D,B,A⟩:=C q p n;exact .fl q v d x k (by omega) E λe=>by rw[B];exact A (F (by omega))
 |agg m u t j y=>exact .agg m u t y
 |bu m u t j y=>exact .bu m u t y
 |fn f m L u P t j K R y N=>exact .fn f m L u P t y K N
def bF.qN(k:bF g H w)(m:H[r]?=c4 o)(h:jB o o'):bF g (H.set r o') w:=by
 have L:r<H.length:=(c7.1 m).1;refine⟨k.fb,k.inj,λq b C d=>by rw[o3];exact k.m8 q b C d,λq p j=>?_⟩
 by_cases e:r=q
 .subst e;rw[ee L] at j;injection j with j
  subst j;obtain⟨a1,I,a⟩:=k.obj r o m;refine⟨by rw[h.sz];exact a1,h.wid,?_⟩
  cases d:g.β r with
  |none=>
   rw[d] at a;have:o'.es.length=0:=by rw[h.len,a];rfl
   exact e5 this
  |some y=>
   obtain⟨b,C⟩:=y;rw[d] at a;obtain⟨t,cells,G,x,B,A,s⟩:=a;refine⟨t,cells,by rw[h.ty];exact G,by rw[h.sz];exact x,B,by rw[h.len];exact A,λi l c F=>?_⟩
   obtain⟨M,J,K⟩:=h.cells i l c F;obtain⟨E,u,n,D⟩:=s i l M J;exact⟨E,by rw[h.sz];exact u,n,(K.vr D).qN m h⟩
 .rw[ey e] at j;obtain⟨a1,I,a⟩:=k.obj q p j;refine⟨a1,I,?_⟩
  cases d:g.β q with
  |none=>rw[d] at a;exact a
  |some y=>
   obtain⟨b,C⟩:=y;rw[d] at a;obtain⟨t,cells,G,x,B,A,s⟩:=a;exact⟨t,cells,G,x,B,A,λi l c F=>let ⟨E,u,n,D⟩:=s i l c F;⟨E,u,n,D.qN m h⟩⟩
def GStep.qN{n:Nat}{l:Gh}{H0:List aO}{m:World}(a:GStep n l H0 m g H w)(j:H[r]?=c4 o)(h:jB o o'):GStep n l H0 m g (H.set r o') w:=by
 have x:r<H.length:=(c7.1 j).1;refine⟨a.os,a.tape,a.output,a.size,a.F,a.jh,a.rest,a.oY,a.oZ,λq p t s=>?_⟩
 obtain⟨u,c,d,k⟩:=a.dF q p t s
 by_cases e:r=q
 .subst e;rw[j] at c;injection c with c
  subst c;exact⟨o',ee x,by rw[h.aF];exact d,λe=>by rw[h.sz,h.len];exact k (by rw[<-h.aF];exact e)⟩
 .exact⟨u,by rw[ey e];exact c,d,k⟩
end
def tu{j:Program}{h:Oper}{f:Env}{H:List aO}{i c:PV}{r:Nat}{o o':aO}(A:fJ j h f H λv a=>v=i/\a=H.set r o)(t:r<H.length)(e:jB o o')(C:Cc i c):fJ j h f H λv a=>v=c/\a=H.set r o':=by
 intro g u l w q B s n;refine A g u l w q B s ?_
 rintro m k p v D ⟨rfl,rfl⟩ z y x;have b:(H.set r o)[r]?=c4 o:=ee t;have d:(H.set r o).set r o'=H.set r o':=by rw[List.set_set]
 refine n m k p c (H.set r o') ⟨rfl,rfl⟩ (C.vr ?_) ?_ ?_
 .have:=z.qN b e;rwa [d] at this
 .have:=y.qN b e;rwa [d] at this
 .have:=x.qN b e;rwa [d] at this
def ZN{n:Nat->Prop}{w:World}{d:Nat}{k e:List PV}{l:Value}(c:VI n w (.vs d k) l)(j:jB ⟨0,d,k,0⟩ ⟨0,d,e,0⟩):VI n w (.vs d e) l:=by
 have m:e.length=k.length:=j.len;cases c with
 |eX _ p cap=>
  have:e=[]:=e5 (by rw[m];rfl);subst this;exact .eX d p cap
 |vs _ _ b v cap x z u A q t y=>
  rw[<-m];refine .vs d e b v cap x (by omega) u j.wid (λi a f c=>?_) (λi a f c=>?_) (λi a f c=>?_)
  .obtain⟨h,h0,_⟩:=j.cells i a f c;exact q i a h h0
  .obtain⟨h,h0,_⟩:=j.cells i a f c;exact t i a h h0
  .obtain⟨h,h0,s⟩:=j.cells i a f c;exact s.vi (y i a h h0)
def Pf{i:Program}{h:Oper}{e:Env}{H:List aO}{a:Nat}{f d:List PV}(x:fJ i h e H λv b=>v= .vs a f/\b=H)(z:jB ⟨0,a,f,0⟩ ⟨0,a,d,0⟩):fJ i h e H λv b=>v= .vs a d/\b=H:=by
 intro g s k w p y q m;refine x g s k w p y q ?_
 rintro l j n v A ⟨rfl,rfl⟩ c u t;refine m l j n _ _ ⟨rfl,rfl⟩ ?_ u t
 cases c with
 |aW c=>exact .aW (ZN c z)
def qX{f:Program}{e:Oper}{d:Env}{H H1:List aO}{q v c:Nat}{o:aO}(y:fJ f e d H λa b=>a= .sl q v 0 c/\b=H1)(m:ek H1 q o)(t:c=o.es.length):fJ f e d H λa b=>a= .fl q v/\b=H1:=by
 intro g p i w l z n j;refine y g p i w l z n ?_
 rintro a h k A B ⟨rfl,rfl⟩ x u s;exact j a h k _ _ ⟨rfl,rfl⟩ (x.aa1 m t) u s
def P6{e c:Nat}(v:PV):jB ⟨e,v.cells.length,[v],c⟩ ⟨e,v.cells.length,[.agg v.cells],c⟩:=by
 refine⟨rfl,rfl,rfl,rfl,λi h a=>?_,λi f d b=>?_⟩
 .match i,a with
  |0,a=>simp at a;subst a;rfl
 .match i,b with
  |0,b=>exact⟨d,b,.refl d⟩
end Go.Bml
namespace Go.X
open Go Go.Aml Go.Bml
section
variable {α:Type}
def cJ:∀(a:List α) (i:Nat),nth a i=a[i]?
 |[],_=>by simp[nth]
 |_::_,0=>rfl
 |_::a,i+1=>by simpa[nth] using cJ a i
def bK:∀(b a:List α),aX b a=b++a
 |[],_=>rfl
 |c::b,a=>by simp[aX,bK b a]
def eu:∀(a:List α),len a=a.length
 |[]=>rfl
 |_::a=>by simp[len,eu a]
def iL:∀(a:List α) (i:Nat) (b:α),me a i b=a.set i b
 |[],_,_=>rfl
 |_::_,0,_=>rfl
 |c::a,i+1,b=>by simp[me,iL a i b]
def kK:∀(b:Nat) (a:List α),tk b a=a.take b
 |0,_=>by simp[tk]
 |_+1,[]=>rfl
 |b+1,c::a=>by simp[tk,kK b a]
def drop_eq:∀(b:Nat) (a:List α),drop b a=a.drop b
 |0,_=>rfl
 |_+1,[]=>rfl
 |b+1,c::a=>by simpa[drop] using drop_eq b a
def oO:∀(b:List Nat) (a:Nat),has b a=true↔a∈b
 |[],a=>by simp[has]
 |d::b,a=>by
  simp only[has,mb];cases c:e4 d a with
  |true=>simp[(h5 c).symm]
  |false=>
   have:a≠d:=λe=>by rw[e,k7] at c;cases c
   simp[this,oO b a]
def nA{a:List Nat}{b:Nat}(c:has a b=false):b∉a:=λd=>by rw[(oO a b).2 d] at c;cases c
def tw:∀(a:List Nat),rj a=true↔a.Nodup
 |[]=>by simp[rj]
 |c::a=>by
  simp only[rj,List.nodup_cons];cases b:has a c with
  |true=>simp[(oO a c).1 b]
  |false=>simp[nA b,tw a]
def beq_eq{a b:Nat}(c:e4 a b=true):a=b:=h5 c
def fq{c f:Type}{b:Option c}{e:c->Option f}{r:f}(d:tr b e=c4 r):∃a,b=c4 a/\e a=c4 r:=by
 cases b with
 |none=>cases d
 |some a=>exact⟨a,rfl,d⟩
def a8{a:Bool}{c:Option α}{r:α}(b:(bif a then c else c6)=c4 r):a=true/\c=c4 r:=by
 cases a with
 |true=>exact⟨rfl,b⟩
 |false=>cases b
def qy:∀(a:List (Nat×α)) (H:List α),(b8 H a).length=H.length
 |[],_=>rfl
 |p::a,H=>by rw[b8,qy a,iL,o3]
def qV{b:Nat->Type}:∀a,(dx a:List (Ob b)).length=a
 |0=>rfl
 |a+1=>by simp[dx,qV a]
def qh{a b:IntKind}(c:fV a b=true):a=b:=of_decide_eq_true c
end
section
variable (B:Tb)
mutual
def pv:TV B.D->PV
 | .any=>.any
 | .z0=>.z0
 | .fS=>.fS
 | .bg=>.bg
 | .dB=>.dB
 | .int j c=>.int j c
 | .bool b=>.bool b
 | .str e=>.str e
 | .row c k=>.vs (B.sz c) (k.map (B.ty c).enc)
 | .rv c g=>.vs (B.sz c) (aP g)
 | .ptr r v i d=>.ptr r v i d
 | .fl r v=>.fl r v
 | .sl r v h len=>.sl r v h len
 | .vp a d=>.dw (aP a) d
 | .agg a=>.agg (aP a)
 | .bu a=>.bu (aP a)
 | .fn f a l=>.fn f (aP a) (aP l)
 | .jC c6=>.dB
 | .jC (c4 f)=>.fn f [] []
def aP:List (TV B.D)->List PV
 |[]=>[]
 |a::b=>pv a::aP b
end
def db:∀a,aP B a=a.map (pv B)
 |[]=>rfl
 |b::a=>by simp[aP,db a]
def aU:En B.D->Env
 |[]=>[]
 |p::r=>(p.1,pv B p.2)::aU r
def aY(b:Ob B.D):aO:=
 match b.bd with
 | .aap a c=>⟨a,B.sz a,c.map (B.ty a).enc,b.aF⟩
 | .box e d=>⟨e,d.length,[.agg (aP B d)],b.aF⟩
 | .dead=>⟨0,1,[],b.aF⟩
 | .hole a c f=>⟨a,B.sz a,c.map (B.ty a).enc++aP B f,b.aF⟩
def av(H:List (Ob B.D)):List aO:=H.map (aY B)
def ep:∀(b:En B.D) (a:Nat),Bml.look (aU B b) a=pv B (lk b a)
 |[],a=>by simp[aU,Bml.look,lk,pv]
 |p::r,a=>by
  simp only[aU,Bml.look,lk];cases e4 p.1 a with
  |true=>rfl
  |false=>exact ep r a
def OD(v:Value):pv B (Cs v)=jq v:=by
 unfold Cs jq
 split <;> simp[pv]
def r8:∀a:List Value,aP B (rq a)=a.map jq
 |[]=>rfl
 |v::a=>by simp[rq,aP,OD,r8 a]
def DK(v:Value):pv B (cv v)=kP v:=by
 cases v <;> first
  |(simp only[cv,kP];exact OD B _)
  |simp[cv,kP,pv,r8]
def Bw(a:En B.D)(c:Operand):PE (aU B a) c=pv B (pe a c):=by
 cases c with
 |tmp d=>exact ep B a d
 |const v=>exact(DK B v).symm
 |global b=>simp[PE,pe,pv]
 |func f=>simp[PE,pe,pv,aP]
def sx(b:En B.D)(a:Option Nat)(v:TV B.D):aU B (gr b a v)=li (aU B b) a (pv B v):=by
 cases a <;> rfl
def nB(a:TV B.D):(pv B a).cells=(dN a).map (pv B):=by
 cases a <;> first
  |rfl
  |(rename_i b;cases b <;> rfl;done)
  |simp[pv,PV.cells,dN,db]
end
structure cU (P:Program) (B:Tb):Prop where
 row:∀(n m:Nat) (xs:List (B.D m)) (x:B.D n),B.up n (.row m xs)=c4 x->B.tv n x= .row m xs
 el:∀(n:Nat) (x:B.D n) (m:Nat) (xs:List (B.D m)),B.tv n x= .row m xs->m=B.el n
 tv:∀(n:Nat) (x:B.D n),pv B (B.tv n x)=(B.ty n).enc x
 lt:∀(n:Nat) (x:B.D n),cE 0 ((B.ty n).enc x)
 up:∀(n:Nat) (t:TV B.D) (x:B.D n),B.up n t=c4 x->cE 0 (pv B t)/\Cc (pv B t) ((B.ty n).enc x)
 wid:∀(n:Nat) (x:B.D n),((B.ty n).enc x).cells.length=B.sz n
 one:∀(n:Nat) (x:B.D n),((B.ty n).enc x).cells.all PV.one=true
 pos:∀(n:Nat),0<B.sz n
 xw:∀(n:Nat) (x:B.D n) (vs:List PV),(B.ty n).enc x≠ .bu vs
 ic:∀(n:Nat),B.D n->cH P n=c4 (B.sz n)
 flat:∀(n:Nat) (x:B.D n),B.flat n=true->∀(j:Nat) (c:PV),((B.ty n).enc x).cells[j]?=c4 c->∀(F F':Nat->Prop) (w w':World) (v:Value),VI F w c v->VI F' w' c v
def cU.aqv{C:Program}{B:Tb}(y:cU C B)(n:Nat)(x:B.D n)(m:B.flat n=true)(F a:Nat->Prop)(w d:World)(v:Value)(h:VI F w ((B.ty n).enc x) v):VI a d ((B.ty n).enc x) v:=by
 have key:=y.flat n x m;generalize (B.ty n).enc x=e at key h
 by_cases k:∃j,e= .agg j
 .obtain⟨j,rfl⟩:=k;cases h with
  |agg _ u o s=>exact .agg j u o λi c x l A=>key i c l F a w d x (s i c x l A)
 .have t:e.cells=[e]:=by cases e <;> first |rfl |exact absurd ⟨_,rfl⟩ k
  exact key 0 e (by rw[t];rfl) F a w d v h
section
variable {B:Tb}{H:List (Ob B.D)}
def fx{r v:Nat}{b:Bd B.D}(a:aK H r v=c4 b):∃c,nth H r=c4 ⟨c,v,b⟩:=by
 unfold aK at a
 split at a
 .rename_i g e;obtain⟨c,f,h⟩:=g;cases d:e4 f v with
  |true=>
   simp only[d,cond_true,m4] at a;subst a;exact⟨c,by rw[e,beq_eq d]⟩
  |false=>simp[d] at a
 .cases a
def df{r:Nat}{b:Ob B.D}(a:nth H r=c4 b):ek (av B H) r (aY B b):=by
 unfold ek av;rw[cJ] at a;rw[e6,a]
 rfl
def qL:(av B H).length=H.length:=by simp[av]
def Zc{r:Nat}{a:Ob B.D}:av B (me H r a)=(av B H).set r (aY B a):=by
 unfold av;rw[iL,r0]
end
def ajP{e:Program}{c:Oper}{a:Env}{H:List aO}{v:PV}(j:cM e c a H v):fJ e c a H λi l=>i=v/\l=H:=by
 intro g m n d b q p k;obtain⟨f,o,h⟩:=j g m n d b;unfold n0;rw[o];exact k f d g v H ⟨rfl,rfl⟩ h b.m (GStep.refl _ _ _ _)
def lI{d:Program}{b:Oper}{c:Env}{H:List aO}{a e:PV->List aO->Prop}(q:fJ d b c H a)(j:∀v H,a v H->e v H):fJ d b c H e:=
 λg p h t o r n k=>q g p h t o r n λi f m v s l=>k i f m v s (j _ _ l)
section
variable {P:Program}{B:Tb}{R:Type}{r:R}
structure Ag (op:Op) (l:List Nat) (E E':En B.D) (X H':List (Ob B.D)):Prop where
 e:∀x,x∈op.operands->pe E' x=pe E x
 h:∀i,i∈l->nth H' i=nth X i
 le:X.length<=H'.length
def gY(P:Program)(c:Op)(h:En B.D)(i:List (Ob B.D))(a:cr B.D):Prop:=
 ∀e j f k d b,Ag c (aX a.rd (eV a.wr)) h d (aX i (dx a.nw)) b->
  fJ P ⟨e,c,j,f,k,c6⟩ (aU B d) (av B b) λv g=>v=pv B a.val/\g=av B (b8 b a.wr)
def fW(P:Program)(b:Op)(h:En B.D)(j:List (Ob B.D))(l:List Nat)(v:TV B.D):Prop:=
 ∀f k g m c d,(∀a,a∈b.operands->PE (aU B c) a=pv B (pe h a))->(∀i e,i∈l->nth j i=c4 e->nth d i=c4 e)->cM P ⟨f,b,k,g,m,c6⟩ (aU B c) (av B d) (pv B v)
def Dy{b:List (Ob B.D)}{n i:Nat}{c:Ob B.D}(a:nth b i=c4 c):nth (aX b (dx n)) i=c4 c:=by
 rw[cJ] at a⊢;rw[bK,dv (c7.1 a).1];exact a
def fW.sound{a:Op}{E:En B.D}{H:List (Ob B.D)}{rd:List Nat}{v:TV B.D}(h:fW P a E H rd v):gY P a E H ⟨v,[],0,rd⟩:=by
 intro d ty pos l e k c;refine ajP (h d ty pos l e k (λx m=>?_) λi n hi j=>?_)
 .rw[Bw,c.e x m]
 .rw[c.h i (by simp[bK,hi])];exact Dy j
def anB{a:Operand}{b:En B.D}{d:List (Ob B.D)}:fW P (.move a) b d [] (pe b a):=
 λ_ _ _ _ _ _ c _=>aik (c a (by simp[dd]))
def aqt{a:Operand}{b:En B.D}{d:List (Ob B.D)}:fW P (.assign a) b d [] (pe b a):=
 λ_ _ _ _ _ _ c _=>ak6 (c a (by simp[dd]))
def Ra{g:Gh}{o:List aO}{w:World}{v:TypeId}{d:List (TV B.D)}{c:List Value}{b:Nat}{p:TV B.D}(t:d.length=c.length)(u:∀(i:Nat) (l:PV) (j:Value),(aP B d)[i]?=c4 l->c[i]?=c4 j->VR g o w l j)(a:piece P v d b=c4 p):
 ∃q,(∀f,(part v c.toArray b).run P f= .ok q f)/\VR g o w (pv B p) q:=by
 unfold piece at a
 split at a
 .rename_i n
  split at a
  .rename_i m y;obtain⟨z,h⟩:=a8 a;rw[kK,drop_eq] at h;injection h with h
   subst h;refine⟨.agg ((c.drop b).take m).toArray,λf=>?_,?_⟩
   .simp[part,o5 n,Go.Bml.run_sizeOf y,m0,k6]
   .have:pv B (.agg ((d.drop b).take m))= .agg (aP B ((d.drop b).take m)):=rfl;rw[this];refine .agg _ _ (by rw[db];simp[t]) λi l j e k=>?_
    rw[db,e6,h6] at e;rw[h6] at k
    split at e
    .rename_i x;rw[if_pos x] at k;rw[ea] at e k;exact u _ l j (by rw[db,e6];exact e) k
    .simp at e
  .cases a
 .rename_i n;rw[cJ] at a;have s:b<c.length:=by rw[<-t];exact(c7.1 a).1
  refine⟨c[b],λf=>by simp[part,o5 n,s],u b _ _ ?_ (c5 s)⟩
  rw[db,e6,a]
  rfl
 .cases a
def Q1{g:Gh}{h:List aO}{d:World}{D:TypeId->TV B.D->TV B.D->Option Bool}{w:Nat}{l m:List (TV B.D)}{n o:List Value}(x:l.length=n.length)(y:∀(i:Nat) (e:PV) (c:Value),(aP B l)[i]?=c4 e->n[i]?=c4 c->VR g h d e c)
 (t:m.length=o.length) (u:∀(i:Nat) (e:PV) (c:Value),(aP B m)[i]?=c4 e->o[i]?=c4 c->VR g h d e c)
 (z:∀(C:Nat) (s c:TV B.D) (b:Bool),D C s c=c4 b->∀(A v:Value),VR g h d (pv B s) A->VR g h d (pv B c) v->(j9 w C A v).run P d= .ok b d):
 ∀(j:List Field) (b:Bool),A6 P D l m j=c4 b->(q2 w n.toArray o.toArray j).run P d= .ok b d
 |[],b,a=>by
  injection a with a
  subst a;simp[q2]
 |f::j,b,a=>by
  unfold A6 at a;obtain⟨k,a⟩:=a8 a
  split at a
  .rename_i O S M G
   split at a
   .rename_i p q K I;injection a with a
    subst a;obtain⟨T,J,E⟩:=Ra x y M;obtain⟨Q,F,H⟩:=Ra t u G;have L:=z _ _ _ _ K _ _ E H;have N:=Q1 x y t u z j q I;have k:f.name≠ "_":=by simpa using k
    simp only[q2,if_pos k,gb,J,F,ez,L];cases p with
    |true=>simpa using N
    |false=>simp
   .cases a
  .cases a
def Hq{g:Gh}{n:List aO}{w:World}:∀(d c:Nat) (f h:TV B.D) (b:Bool),yq P d c f h=c4 b->∀(k v:Value),VR g n w (pv B f) k->VR g n w (pv B h) v->(j9 d c k v).run P w= .ok b w
 |0,_,_,_,_,a=>by cases a
 |d+1,c,f,h,b,a=>by
  intro k v j m;unfold yq at a
  split at a
  .rename_i e
   split at a
   .rename_i A y;injection a with a
    subst a;rw[VR.n5 j,VR.n5 m];exact run_equalIn_bool' w d c _ _ e
   .cases a
  .rename_i D e
   split at a
   .rename_i C A H y;obtain⟨u,l⟩:=a8 a;obtain rfl:=qh u;injection l with l
    subst l;rw[VR.fQ j,VR.fQ m];exact run_equalIn_int w d c _ _ _ _ e
   .cases a
  .rename_i s e;cases i:P.stoodInHeld c with
   |true=>rw[i] at a;cases a
   |false=>
    rw[i] at a;simp only[cond_false] at a
    split at a
    .rename_i E F;obtain⟨G,rfl,p,z⟩:=VR.ky j;obtain⟨I,rfl,o,x⟩:=VR.ky m;have q:P.fieldsOf c=s:=by unfold Program.fieldsOf;rw[e]
     rw[run_equalIn_struct w d c _ _ (by rw[q];exact e) i,q];rw[db,dk] at p o;exact Q1 p z o x (λc f h b t=>Hq d c f h b t) s.toList b a
    .cases a
  .cases a
def Et{w:World}{a:TypeId}{k h:Array TypeId}{l:Bool}(d:P.underlying a=c4 (.func k h l)):
 ((binOp .eql a .nilFunc .nilFunc).run P w= .ok (.bool true) w/\∀f b v,(binOp .eql a (.func f b v) .nilFunc).run P w= .ok (.bool false) w)/\
 ((binOp .neq a .nilFunc .nilFunc).run P w= .ok (.bool false) w/\∀f b v,(binOp .neq a (.func f b v) .nilFunc).run P w= .ok (.bool true) w):=by
 have j:∀c,(j9 (c+1) a .nilFunc .nilFunc).run P w= .ok true w:=λc=>by simp[j9,run_underlying d]
 have i:∀c f b v,(j9 (c+1) a (.func f b v) .nilFunc).run P w= .ok false w:=λc f b v=>by simp[j9,run_underlying d]
 have g:(mx a .nilFunc .nilFunc).run P w= .ok true w:=j 9999;have e:∀f b v,(mx a (.func f b v) .nilFunc).run P w= .ok false w:=i 9999;refine⟨⟨?_,λf b v=>?_⟩,?_,λf b v=>?_⟩
 .show(do pure (.bool (<-mx a .nilFunc .nilFunc)):Sem Value).run P w=_
  simp[g]
 .show(do pure (.bool (<-mx a (.func f b v) .nilFunc)):Sem Value).run P w=_
  simp[e]
 .show(do pure (.bool !(<-mx a .nilFunc .nilFunc)):Sem Value).run P w=_
  simp[g]
 .show(do pure (.bool !(<-mx a (.func f b v) .nilFunc)):Sem Value).run P w=_
  simp[e]
def afA{n:BinOp}{m yt:TypeId}{e i:Operand}{s:En B.D}{H:List (Ob B.D)}{ag:TV B.D->Option R}(k:bin B P n m (pe s e) (pe s i) ag=c4 r):
 ∃v,ag v=c4 r/\fW P (.binOp n m e i yt) s H [] v:=by
 unfold bin at k
 split at k
 .rename_i l al b ak E D;have h:∀{c:En B.D},(∀z,z∈(la n m e i yt).operands->PE (aU B c) z=pv B (pe s z))->PE (aU B c) e= .int l al:=λa=>by rw[a e (by simp[dd]),E];rfl
  have j:∀{c:En B.D},(∀z,z∈(la n m e i yt).operands->PE (aU B c) z=pv B (pe s z))->PE (aU B c) i= .int b ak:=λa=>by rw[a i (by simp[dd]),D];rfl
  cases n <;> simp only at k
  case shl=>
   obtain⟨q,A,d⟩:=ec.1 k;obtain⟨h0,C⟩:=alN A;exact⟨_,d,λ_ _ _ _ _ _ a _=>apg (h a) (j a) h0 C⟩
  case shr=>
   obtain⟨q,A,d⟩:=ec.1 k;obtain⟨h0,C⟩:=adR A;exact⟨_,d,λ_ _ _ _ _ _ a _=>abz (h a) (j a) h0 C⟩
  all_goals
   obtain⟨ah,d⟩:=a8 k;obtain rfl:=qh ah
  case add=>exact⟨_,d,λ_ _ _ _ _ _ a _=>Vz (h a) (j a) rfl⟩
  case sub=>exact⟨_,d,λ_ _ _ _ _ _ a _=>Zh (h a) (j a) rfl⟩
  case mul=>exact⟨_,d,λ_ _ _ _ _ _ a _=>acd (h a) (j a) rfl⟩
  case quo=>
   obtain⟨q,A,d⟩:=ec.1 d;obtain⟨h0,C⟩:=agK A;exact⟨_,d,λ_ _ _ _ _ _ a _=>ae6 (h a) (j a) h0 C⟩
  case rem=>
   obtain⟨q,A,d⟩:=ec.1 d;obtain⟨h0,C⟩:=Yg A;exact⟨_,d,λ_ _ _ _ _ _ a _=>ahN (h a) (j a) h0 C⟩
  case and=>exact⟨_,d,λ_ _ _ _ _ _ a _=>akz (h a) (j a) rfl⟩
  case or=>exact⟨_,d,λ_ _ _ _ _ _ a _=>YI (h a) (j a) rfl⟩
  case xor=>exact⟨_,d,λ_ _ _ _ _ _ a _=>abR (h a) (j a) rfl⟩
  case andNot=>exact⟨_,d,λ_ _ _ _ _ _ a _=>aeA (h a) (j a) rfl⟩
  case eql=>exact⟨_,d,λ_ _ _ _ _ _ a _=>aea (h a) (j a)⟩
  case neq=>exact⟨_,d,λ_ _ _ _ _ _ a _=>ajI (h a) (j a)⟩
  case lss=>exact⟨_,d,λ_ _ _ _ _ _ a _=>ahs (h a) (j a)⟩
  case leq=>exact⟨_,d,λ_ _ _ _ _ _ a _=>aj5 (h a) (j a)⟩
  case gtr=>exact⟨_,d,λ_ _ _ _ _ _ a _=>amQ (h a) (j a)⟩
  case geq=>exact⟨_,d,λ_ _ _ _ _ _ a _=>abe (h a) (j a)⟩
 .rename_i l b E D;have h:∀{c:En B.D},(∀z,z∈(la n m e i yt).operands->PE (aU B c) z=pv B (pe s z))->PE (aU B c) e= .bool l:=λa=>by rw[a e (by simp[dd]),E];rfl
  have j:∀{c:En B.D},(∀z,z∈(la n m e i yt).operands->PE (aU B c) z=pv B (pe s z))->PE (aU B c) i= .bool b:=λa=>by rw[a i (by simp[dd]),D];rfl
  cases n <;> simp only at k <;> first |cases k |skip
  case eql=>
   obtain⟨Q,d⟩:=a8 k;exact⟨_,d,λ_ _ _ _ _ _ a _=>abj (h a) (j a) Q⟩
  case neq=>
   obtain⟨Q,d⟩:=a8 k;exact⟨_,d,λ_ _ _ _ _ _ a _=>ai2 (h a) (j a) Q⟩
 .rename_i ai aj E D;have h:∀{c:En B.D},(∀z,z∈(la n m e i yt).operands->PE (aU B c) z=pv B (pe s z))->PE (aU B c) e=pv B (.agg ai):=λa=>by rw[a e (by simp[dd]),E]
  have j:∀{c:En B.D},(∀z,z∈(la n m e i yt).operands->PE (aU B c) z=pv B (pe s z))->PE (aU B c) i=pv B (.agg aj):=λa=>by rw[a i (by simp[dd]),D]
  cases n <;> simp only at k <;> first |cases k |skip
  case eql=>
   cases y:P.eqGuardType P.depth m with
   |true=>rw[y] at k;cases k
   |false=>
    rw[y] at k;obtain⟨b,S,d⟩:=fq k;refine⟨_,d,λW aa ab T c af a _=>?_⟩
    intro g G l w p;have o:=h a▸p.e.eval e;have u:=j a▸p.e.eval i;obtain⟨Z,K,_⟩:=VR.ky o;obtain⟨ae,L,_⟩:=VR.ky u;have J:=Hq (w:=w) 10000 m _ _ b S _ _ o u;refine⟨.bool b,?_,.aW (.bool b)⟩
    rw[K,L] at J;simp only[execOp,K,L];simp[run_eqGuard_agg w .eql m e i Z.toArray ae.toArray y,run_eql_struct,J]
  case neq=>
   cases y:P.eqGuardType P.depth m with
   |true=>rw[y] at k;cases k
   |false=>
    rw[y] at k;obtain⟨b,S,d⟩:=fq k;refine⟨_,d,λW aa ab T c af a _=>?_⟩
    intro g G l w p;have o:=h a▸p.e.eval e;have u:=j a▸p.e.eval i;obtain⟨Z,K,_⟩:=VR.ky o;obtain⟨ae,L,_⟩:=VR.ky u;have J:=Hq (w:=w) 10000 m _ _ b S _ _ o u;refine⟨.bool (!b),?_,.aW (.bool _)⟩
    rw[K,L] at J;simp only[execOp,K,L];simp[run_eqGuard_agg w .neq m e i Z.toArray ae.toArray y,run_neq_struct,J]
 .rename_i x E D;obtain⟨X,o⟩:=a8 k;have I:∃l b am,P.underlying m=c4 (.func l b am):=by
   unfold LM at X
   split at X
   .exact⟨_,_,_,by assumption⟩
   .cases X
  obtain⟨ao,ap,an,I⟩:=I;have h:∀{c:En B.D},(∀z,z∈(la n m e i yt).operands->PE (aU B c) z=pv B (pe s z))->PE (aU B c) e=pv B (.jC x):=λa=>by rw[a e (by simp[dd]),E]
  have j:∀{c:En B.D},(∀z,z∈(la n m e i yt).operands->PE (aU B c) z=pv B (pe s z))->PE (aU B c) i= .dB:=λa=>by rw[a i (by simp[dd]),D];rfl
  have run:∀{c:En B.D} {O:List aO} {g:Gh} {w:World} {l:Act} {G:Nat},Rel g G (aU B c) O l w->PE (aU B c) e=pv B (.jC x)->PE (aU B c) i= .dB->l.eval i= .nilFunc/\((x=c6/\l.eval e= .nilFunc)\/∃f,x=c4 f/\l.eval e= .func (.func f) #[] #[]):=λ{c O g w l G} p o u=>by
   have M:=u▸p.e.eval i;refine⟨by generalize l.eval i=ac at M;cases M with |aW M=>cases M;rfl,?_⟩
   have F:=o▸p.e.eval e;cases x with
   |none=>exact .inl ⟨rfl,by generalize l.eval e=ac at F;cases F with |aW F=>cases F;rfl⟩
   |some f=>
    refine .inr ⟨f,rfl,?_⟩
    generalize l.eval e=ac at F;have V:VR g O w (.fn f [] []) ac:=F;cases V with
    |aW V=>
     cases V with
     |fn _ _ _ ad vs Y _ U _=>
      obtain rfl:ad=[]:=e5 Y.symm;obtain rfl:vs=[]:=e5 U.symm
      rfl
    |fn _ _ _ ad vs Y _ U _=>
     obtain rfl:ad=[]:=e5 Y.symm;obtain rfl:vs=[]:=e5 U.symm
     rfl
  cases n <;> simp only at o <;> first |cases o |skip
  case eql=>
   refine⟨_,o,λW aa ab T c af a _=>?_⟩
   intro g G l w p;obtain⟨N,t⟩:=run p (h a) (j a);refine⟨.bool x.isNone,?_,.aW (.bool _)⟩
   rcases t with⟨rfl,t⟩ |⟨f,rfl,t⟩ <;> simp[execOp,N,t,eqGuard,(Et (w:=w) I).1,(Et (w:=w) I).2]
  case neq=>
   refine⟨_,o,λW aa ab T c af a _=>?_⟩
   intro g G l w p;obtain⟨N,t⟩:=run p (h a) (j a);refine⟨.bool (!x.isNone),?_,.aW (.bool _)⟩
   rcases t with⟨rfl,t⟩ |⟨f,rfl,t⟩ <;> simp[execOp,N,t,eqGuard,(Et (w:=w) I).1,(Et (w:=w) I).2]
 .cases k
def amY{f:UnOp}{t:TypeId}{c:Operand}{g:En B.D}{H:List (Ob B.D)}{h:TV B.D->Option R}(a:HY B f (pe g c) h=c4 r):
 ∃v,h v=c4 r/\fW P (.unOp f t c) g H [] v:=by
 unfold HY at a
 split at a
 .rename_i j i e;exact⟨_,a,λ_ _ _ _ _ _ d _=>ajc (by rw[d c (by simp[dd]),e];rfl) rfl⟩
 .rename_i b e;exact⟨_,a,λ_ _ _ _ _ _ d _=>rd_not (by rw[d c (by simp[dd]),e];rfl)⟩
 .cases a
def afz(a:Bool)(c b:TV B.D):pv B (cond a c b)=(bif a then pv B c else pv B b):=by cases a <;> rfl
def akp{z x y:Operand}{E:En B.D}{H:List (Ob B.D)}{a:Bool}(h:pe E z= .bool a):fW P (.pick z x y) E H [] (KP a (pe E x) (pe E y)):=by
 intro d ty pos aft e g c _;have:=Zu (P:=P) (E:=aU B e) (H:=av B g) (d:=d) (ty:=ty) (pos:=pos) (aft:=aft) (gd:=c6) (z:=z) (x:=x) (y:=y) (b:=a) (by rw[c z (by simp[dd]),h];rfl);rw[c x (by simp[dd]),c y (by simp[dd])] at this;unfold KP
 split
 .rename_i j b i f;rw[i,f] at this;cases a <;> exact this
 .rw[afz];exact this
def ahW{a:Operand}{i:Nat}{b:En B.D}{f:List (Ob B.D)}{d:List (TV B.D)}{v:TV B.D}(g:pe b a= .bu d)(c:nth d i=c4 v):fW P (.extract a i) b f [] v:=by
 intro h m j n k l e _;refine aiG (by rw[e a (by simp[dd]),g];rfl) ?_
 rw[cJ] at c;rw[db,e6,c]
 rfl
def wS{f:TypeId}{c:List (TV B.D)}{d:Nat}{v:TV B.D}(a:piece P f c d=c4 v):
 (dP P f=c4 false/\c[d]?=c4 v)\/∃b,dP P f=c4 true/\cH P f=c4 b/\v= .agg ((c.drop d).take b)/\((c.drop d).take b).length=b:=by
 unfold piece at a
 split at a
 .rename_i g
  split at a
  .rename_i b i;obtain⟨h,e⟩:=a8 a;rw[kK,drop_eq] at e;injection e with e
   have j:d+b<=c.length:=by rw[eu] at h;exact ei h
   exact .inr ⟨b,g,i,e.symm,by simp;omega⟩
  .cases a
 .rename_i g;rw[cJ] at a;exact .inl ⟨g,a⟩
 .cases a
def EL{b:List (TV B.D)}{a:Nat}{v:TV B.D}(c:b[a]?=c4 v):(aP B b)[a]?=c4 (pv B v):=by
 rw[db,e6,c];rfl
def Ht(c:List (TV B.D))(a b:Nat):((aP B c).drop a).take b=aP B ((c.drop a).take b):=by
 rw[db,db, <-j7, <-j8]
def aex{j:TypeId}{a:Operand}{f:Nat}{e c:Nat}{h:En B.D}{m:List (Ob B.D)}{b:List (TV B.D)}{v:TV B.D}(n:pe h a= .agg b)(g:nU P j f=c4 (e,c))(q:piece P e b c=c4 v):
 fW P (.field j a f) h m [] v:=by
 intro u x y t k z p _;have i:PE (aU B k) a= .agg (aP B b):=by rw[p a (by simp[dd]),n];rfl
 rcases wS q with⟨d,s⟩ |⟨l,d,o,rfl,w⟩
 .exact aam i g d (EL s)
 .exact T8 i g d o (Ht b c l)
def Gw{c:Operand}{e:En B.D}{m:List (Ob B.D)}{v:TV B.D}(l:(∃r g i b,v= .ptr r g i b)\/(∃a b,v= .vp a b)\/∃f a h,v= .fn f a h)(n:pe e c=v):fW P (.nilCheck c) e m [] v:=by
 intro o s p t j q k _;have d:PE (aU B j) c=pv B v:=by rw[k c (by simp[dd]),n]
 rcases l with⟨r,g,i,b,rfl⟩ |⟨a,b,rfl⟩ |⟨f,a,h,rfl⟩
 .exact adb d
 .exact ZL d
 .exact VJ d
def R3{n:TypeId}{b:Operand}{f k g o:Nat}{h:En B.D}{p:List (Ob B.D)}{v:TV B.D}(l:nU P n f=c4 (k,g))(m:cH P k=c4 (o+1))
 (s:(∃r d i a,pe h b= .ptr r d i a/\v= .ptr r d i (a+g))\/(∃e a,pe h b= .vp e a/\v= .vp e (a+g))):fW P (.fieldAddr n b f) h p [] v:=by
 intro w x y t u z q _;have c:=q b (by simp[dd]);rcases s with⟨r,d,i,a,j,rfl⟩ |⟨e,a,j,rfl⟩
 .rw[j] at c;exact apD c l m (by omega)
 .rw[j] at c;exact Ze c l m (by omega)
def alT{a:Nat}{b:List (B.D a)}{i d:Nat}{e:B.D a}{c:PV}(f:b[i]?=c4 e)(g:((B.ty a).enc e).cells[d]?=c4 c):abk (b.map (B.ty a).enc) i d=c4 c:=by
 unfold abk;rw[e6,f];exact g
def NI{i g:Nat}{h:TV B.D->Option R}:∀{e:List (TV B.D)} {b:Nat},Es B i g h b e=c4 r->∃c d,e[c]?=c4 d/\i=g+b+c/\h d=c4 r
 |[],_,a=>by cases a
 |d::e,b,a=>by
  unfold Es at a;cases f:e4 i (g+b) with
  |true=>rw[f] at a;exact⟨0,d,rfl,beq_eq f,a⟩
  |false=>
   rw[f] at a;obtain⟨c,l,j,m,k⟩:=NI a;exact⟨c+1,l,j,by omega,k⟩
def aav{a s v c:Nat}{xs:List (B.D a)}{b:List (TV B.D)}{d:TV B.D}(e:b[c]?=c4 d):(aY B ⟨s,v,.hole a xs b⟩).es[xs.length+c]?=c4 (pv B d):=by
 show(xs.map (B.ty a).enc++aP B b)[xs.length+c]?=_
 rw[dt (by rw[dk];omega),dk,k6,db,e6,e]
 rfl
def PD(T:cU P B){t:TypeId}{x:Operand}{E:En B.D}{Q:List (Ob B.D)}{O:cr B.D->Option R}(b:load B P Q t (pe E x) O=c4 r):
 ∃v M,O ⟨v,[],0,M⟩=c4 r/\fW P (.load t x) E Q M v:=by
 unfold load at b
 split at b
 .rename_i w o J;obtain⟨v,n,j⟩:=fq b;refine⟨v,_,j,λG I K F k L h _=>?_⟩
  have d:PE (aU B k) x= .dw (aP B w) o:=by rw[h x (by simp[dd]),J];rfl
  rcases wS n with⟨a,c⟩ |⟨p,a,m,rfl,l⟩
  .exact acR d a (EL c)
  .exact Z6 d a m (Ht w o p) (by rw[db,dk,l])
 .rename_i q v i o J;have d:∀{k:En B.D},(∀z,z∈(Op.load t x).operands->PE (aU B k) z=pv B (pe E z))->PE (aU B k) x= .ptr q v i o:=λh=>by rw[h x (by simp[dd]),J];rfl
  split at b
  .rename_i p xs c;obtain⟨s,y⟩:=fx c;obtain⟨e,h,b⟩:=ec.1 b;obtain⟨C,n,j⟩:=fq b;refine⟨C,_,j,λG I K F k L g A=>?_⟩
   have f:=df (A q _ (by simp) y);have u:(pv B (B.tv p e)).cells=(dN (B.tv p e)).map (pv B):=nB B _;rw[T.tv] at u;rcases wS n with⟨a,c⟩ |⟨H,a,m,rfl,l⟩
   .exact AT (d g) f rfl a (alT h (by rw[u,e6,c];rfl))
   .refine Ig (d g) f rfl a m (e:=(B.ty p).enc e) (by simp[aY,h]) ?_ (by rw[db,dk,l])
    rw[u, <-j7, <-j8,db]
  .rename_i W w c;obtain⟨s,y⟩:=fx c;obtain⟨D,b⟩:=a8 b;obtain rfl:=beq_eq D;obtain⟨C,n,j⟩:=fq b;refine⟨C,_,j,λG I K F k L g A=>?_⟩
   have f:=df (A q _ (by simp) y);rcases wS n with⟨a,c⟩ |⟨H,a,m,rfl,l⟩
   .exact AT (d g) f rfl a (by simp[aY,abk,PV.cells,EL c])
   .exact Ig (d g) f rfl a m (e:=.agg (aP B w)) (by simp[aY]) (by simp only[PV.cells];exact Ht w o H) (by rw[db,dk,l])
  .rename_i p xs V c;obtain⟨s,y⟩:=fx c;obtain⟨U,e,h,D,S⟩:=NI b;rw[l1] at D;subst D;obtain⟨C,n,j⟩:=fq S;refine⟨C,_,j,λG I K F k L g A=>?_⟩
   have f:=df (A q _ (by simp) y);have N:=aav (s:=s) (v:=v) (xs:=xs) h;have u:=nB B e;rcases wS n with⟨a,c⟩ |⟨H,a,m,rfl,l⟩
   .refine AT (d g) f rfl a ?_
    unfold abk;rw[N];show(pv B e).cells[o]?=_
    rw[u,e6,c]
    rfl
   .refine Ig (d g) f rfl a m (e:=pv B e) N ?_ (by rw[db,dk,l])
    rw[u, <-j7, <-j8,db]
  .cases b
 .cases b
end
def kV(b:List aO)(p:PV)(c:Nat)(d:List PV):Prop:=lE b p c d\/∃r a,p= .fl r a.aF/\ek b r a/\a.sz=c/\d=a.es
def wD{c:Env}{d:Nat}{q:PV}(a:Operand)(e:a≠ .tmp d):PE ((d,q)::c) a=PE c a:=by
 cases a with
 |tmp h=>exact Ar q c λg=>e (by rw[g])
 |const v=>rfl
 |global b=>rfl
 |func f=>rfl
def akA(v:Value)(r a:Nat):kP v≠ .fl r a:=by
 cases v <;> simp[kP] <;> (try unfold jq) <;> (try split) <;> simp
def ri{e:Env}{d:Operand}{r v:Nat}(a:PE e d= .fl r v):∃c,d= .tmp c/\Bml.look e c= .fl r v:=by
 cases d with
 |tmp c=>exact⟨c,rfl,a⟩
 |const v=>exact absurd a (akA _ _ _)
 |global b=>cases a
 |func f=>cases a
def DP{b:List aO}{r:Nat}{a:aO}(c:ek b r a):lE b (.sl r a.aF 0 a.es.length) a.sz a.es:=
 .inr (.inr (.inr ⟨r,a.aF,0,a.es.length,a,rfl,c,rfl,rfl,by simp⟩))
def uL{P:Program}{h:Oper}{a:Env}{e:List aO}{x:Operand}{sz:Nat}{ys:List PV}{i:PV->List aO->Prop}(g:kV e (PE a x) sz ys)
 (d:∀f,lE e (PE f x) sz ys->(∀c p,PE a c=p->(∀r v,p≠ .fl r v)->PE f c=p)->fJ P h f e i):fJ P h a e i:=by
 rcases g with g |⟨r,b,q,j,rfl,rfl⟩
 .exact d a g λ_ _ d _=>d
 .obtain⟨m,rfl,k⟩:=ri q;refine yP k j rfl (d _ ?_ λc p l n=>?_)
  .rw[show PE ((m,PV.sl r b.aF 0 b.es.length)::a) (.tmp m)= .sl r b.aF 0 b.es.length from ni _ _ _];exact DP j
  .rw[wD c λo=>n r b.aF (by rw[<-l,o];exact k)];exact l
def amo{P:Program}{h:Oper}{a:Env}{e:List aO}{x:Operand}{i:Nat}{k:List PV}{v:PV}(g:kV e (PE a x) i k)
 (d:∀f,lE e (PE f x) i k->(∀c p,PE a c=p->(∀r v,p≠ .fl r v)->PE f c=p)->cM P h f e v):cM P h a e v:=by
 rcases g with g |⟨r,b,s,j,rfl,rfl⟩
 .exact d a g λ_ _ d _=>d
 .obtain⟨n,rfl,l⟩:=ri s;refine RO l j rfl (d _ ?_ λc p m o=>?_)
  .rw[show PE ((n,PV.sl r b.aF 0 b.es.length)::a) (.tmp n)= .sl r b.aF 0 b.es.length from ni _ _ _];exact DP j
  .rw[wD c λq=>o r b.aF (by rw[<-m,q];exact l)];exact m
def JM{d:Env}{g:List aO}{x:Operand}{i c r:Nat}{j:List PV}{b:aO}(h:kV g (PE d x) i j)(l:Bml.look d c= .fl r b.aF)(f:ek g r b):kV g (PE ((c,.sl r b.aF 0 b.es.length)::d) x) i j:=by
 by_cases k:x= .tmp c
 .subst k;rw[show PE ((c,PV.sl r b.aF 0 b.es.length)::d) (.tmp c)= .sl r b.aF 0 b.es.length from ni _ _ _];have m:PE d (.tmp c)= .fl r b.aF:=l;rw[m] at h;rcases h with(a |⟨a,_⟩ |⟨a,_⟩ |⟨_,_,_,_,_,a,_⟩) |⟨n,o,a,e,rfl,rfl⟩
  .cases a
  .cases a
  .cases a
  .cases a
  .injection a with h1 h2
   subst h1;unfold ek at f e;rw[f] at e;injection e with e
   subst e;exact .inl (DP f)
 .rw[wD x k];exact h
section
variable {P:Program}{B:Tb}{R:Type}{r:R}
def yd(B:Tb)(f:List (Ob B.D))(d:TV B.D)(a:Nat)(e:List (B.D a))(g:List Nat):Prop:=
 ∀b:List (Ob B.D),(∀i c,i∈g->nth f i=c4 c->nth b i=c4 c)->kV (av B b) (pv B d) (B.sz a) (e.map (B.ty a).enc)
def Hd{h:List (Ob B.D)}{f:TV B.D}{i:(b:Nat)->List (B.D b)->List Nat->Option R}(a:rowOf B h f i=c4 r):
 ∃b g j,i b g j=c4 r/\yd B h f b g j:=by
 unfold rowOf at a
 split at a
 .exact⟨_,_,_,a,λ_ _=>.inl (.inl rfl)⟩
 .rename_i q v
  split at a
  .rename_i b m e;obtain⟨k,c⟩:=fx e;refine⟨_,_,_,a,λn d=>.inr ⟨q,_,?_,df (d q _ (by simp) c),rfl,rfl⟩⟩
   rfl
  .cases a
 .rename_i q v l len
  split at a
  .rename_i b m e;obtain⟨k,c⟩:=fx e;refine⟨_,_,_,a,λn d=>.inl (.inr (.inr (.inr ⟨q,v,l,len,_,rfl,df (d q _ (by simp) c),rfl,rfl,?_⟩)))⟩
   simp[aY,j8,j7]
  .cases a
 .cases a
def AG{c b:Nat}{f:List (B.D c)}{e:List (B.D b)}(a:sU B c b f=c4 e):∃d:c=b,d▸f=e:=by
 unfold sU at a
 split at a
 .rename_i d;injection a with a
  exact⟨d,a⟩
 .cases a
def Rz{f:List (Ob B.D)}{b:Nat}{e:TV B.D}{g:List (B.D b)->List Nat->Option R}(a:CK B f b e g=c4 r):
 ∃c d,g c d=c4 r/\yd B f e b c d:=by
 unfold CK at a
 split at a
 .exact⟨_,_,a,λ_ _=>.inl (.inr (.inl ⟨rfl,rfl⟩))⟩
 .exact⟨_,_,a,λ_ _=>.inl (.inr (.inr (.inl ⟨rfl,rfl⟩)))⟩
 .obtain⟨l,k,d,a,i⟩:=Hd a;obtain⟨c,j,h⟩:=fq a;obtain⟨rfl,rfl⟩:=AG j;exact⟨_,_,h,i⟩
def mh{e:TypeId}{c:Nat}(b:kX B P e c=true):dU P e=c4 c/\cH P c=c4 (B.sz c):=by
 unfold kX at b
 split at b
 .rename_i i f g h;cases d:e4 i c with
  |true=>
   rw[d] at b;rw[g,h,beq_eq d,beq_eq (a:=f) b];exact⟨rfl,rfl⟩
  |false=>rw[d] at b;cases b
 .cases b
def D9{a:TypeId}{b:Nat}(c:kX B P a b=true):dU P a=c4 b:=(mh c).1
def KT{f:Oper}{d:Env}{e:List aO}{g:Operand}{q:Nat}{a:aO}{v:PV}(n:PE d g= .fl q a.aF)(k:ek e q a)
 (l:∀c,PE c g= .sl q a.aF 0 a.es.length->(∀b p,PE d b=p->(∀r v,p≠ .fl r v)->PE c b=p)->cM P f c e v):cM P f d e v:=by
 obtain⟨o,rfl,h⟩:=ri n;refine RO h k rfl (l _ (ni _ _ _) λb p i j=>?_)
 rw[wD b λm=>j q a.aF (by rw[<-i,m];exact h)];exact i
def Qj{f:Int}{d:Nat}{i:Nat->Option R}:∀{e:List (TV B.D)} {b:Nat},AK B f d i b e=c4 r->∃c,c<e.length/\f=((d+b+c:Nat):Int)/\i (d+b+c)=c4 r
 |[],_,a=>by cases a
 |l::e,b,a=>by
  unfold AK at a;cases g:c3 (f=((d+b:Nat):Int)) with
  |true=>rw[g] at a;exact⟨0,by simp,of_decide_eq_true g,a⟩
  |false=>
   rw[g] at a;obtain⟨c,k,h,j⟩:=Qj a;rw[show d+(b+1)+c=d+b+(c+1) by omega] at h j;exact⟨c+1,by simpa using k,h,j⟩
def amg(y:cU P B){t:TypeId}{x ix:Operand}{E:En B.D}{H:List (Ob B.D)}{I:cr B.D->Option R}(a:indexAddr B P H t (pe E x) (pe E ix) I=c4 r):
 ∃v F,I ⟨v,[],0,F⟩=c4 r/\fW P (.indexAddr t x ix) E H F v:=by
 unfold indexAddr at a
 split at a
 .rename_i K N Q;have s:∀{j:En B.D},(∀z,z∈(Op.indexAddr t x ix).operands->PE (aU B j) z=pv B (pe E z))->PE (aU B j) ix= .int K N:=λc=>by rw[c ix (by simp[dd]),Q];rfl
  split at a
  .rename_i g w k;obtain⟨h,a⟩:=a8 a;obtain⟨e,c,f⟩:=ec.1 a;obtain⟨l,c⟩:=xd c;refine⟨_,_,f,λd ty pos aft j n b _=>?_⟩
   have:=Zx (P:=P) (E:=aU B j) (H:=av B n) (d:=d) (ty:=ty) (pos:=pos) (aft:=aft) (gd:=c6) (t:=t) (x:=x) (ix:=ix) (e:=(B.ty g).enc e) (by rw[b x (by simp[dd]),k];rfl) (s b) l (by rw[e6,c];rfl) (D9 h) (y.ic g e);rw[<-y.tv g e,nB, <-db] at this;exact this
  .rename_i q v k
   split at a
   .rename_i g w u;obtain⟨J,o⟩:=fx u;obtain⟨h,a⟩:=a8 a;obtain⟨e,c,f⟩:=ec.1 a;obtain⟨l,c⟩:=xd c;refine⟨_,_,f,λd ty pos aft j n b p=>?_⟩
    have m:=df (p q _ (by simp) o);refine KT (by rw[b x (by simp[dd]),k];rfl) m λD A C=>?_
    have:=Hm (P:=P) (E:=D) (H:=av B n) (d:=d) (ty:=ty) (pos:=pos) (aft:=aft) (gd:=c6) (t:=t) (x:=x) (ix:=ix) A (C ix _ (s b) (by simp)) l (by simpa[aY] using(c7.1 c).1) m rfl (D9 h) (y.ic g e);rw[gx] at this;exact this
   .rename_i g w X u;obtain⟨J,o⟩:=fx u;obtain⟨h,a⟩:=a8 a;obtain⟨G,Y,l,f⟩:=Qj a;rw[l1] at l f;refine⟨_,_,f,λd ty pos aft j n b p=>?_⟩
    have m:=df (p q _ (by simp) o);refine KT (by rw[b x (by simp[dd]),k];rfl) m λD A C=>?_
    have:=Hm (P:=P) (E:=D) (H:=av B n) (d:=d) (ty:=ty) (pos:=pos) (aft:=aft) (gd:=c6) (t:=t) (x:=x) (ix:=ix) A (C ix _ (s b) (by simp)) (i:=w.length+G) (by simpa using l) (by simp[aY,db];omega) m rfl (D9 h) (mh h).2;rw[gx] at this;exact this
   .cases a
  .rename_i q v V len k
   split at a
   .rename_i g w u;obtain⟨J,o⟩:=fx u;obtain⟨h,a⟩:=a8 a;obtain⟨e,c,f⟩:=ec.1 a;obtain⟨l,c⟩:=xd c;refine⟨_,_,f,λd ty pos aft j n b p=>?_⟩
    have m:=df (p q _ (by simp) o);have M:=(c7.1 c).1;simp only[ft] at M;exact Hm (by rw[b x (by simp[dd]),k];rfl) (s b) l (by omega) m rfl (D9 h) (y.ic g e)
   .cases a
  .rename_i q v i G k
   split at a
   .rename_i U
    split at a
    .rename_i g T S
     split at a
     .rename_i W O;obtain⟨L,f⟩:=a8 a;refine⟨_,_,f,λd ty pos aft j n b _=>?_⟩
      exact aqx (by rw[b x (by simp[dd]),k];rfl) (s b) rfl (ei L) S O
     .cases a
    .cases a
   .cases a
  .cases a
 .cases a
def Li{g:IntKind}:∀{d:List (TV B.D)} {e:List Int},ints g d=c4 e->aP B d=e.map (PV.int g)
 |[],e,a=>by simp[ints] at a;subst a;rfl
 | .int b i::d,e,a=>by
  simp only[ints] at a;obtain⟨h,c⟩:=a8 a;clear a;obtain rfl:=qh h;cases f:ints g d with
  |none=>rw[f] at c;cases c
  |some r=>
   rw[f] at c;injection c with c
   subst c;simp[aP,pv,Li f]
 | .any::_,_,a=>by simp[ints] at a
 | .z0::_,_,a=>by simp[ints] at a
 | .fS::_,_,a=>by simp[ints] at a
 | .bg::_,_,a=>by simp[ints] at a
 | .dB::_,_,a=>by simp[ints] at a
 | .bool _::_,_,a=>by simp[ints] at a
 | .str _::_,_,a=>by simp[ints] at a
 | .row .. ::_,_,a=>by simp[ints] at a
 | .ptr .. ::_,_,a=>by simp[ints] at a
 | .fl .. ::_,_,a=>by simp[ints] at a
 | .sl .. ::_,_,a=>by simp[ints] at a
 | .vp .. ::_,_,a=>by simp[ints] at a
 | .agg _::_,_,a=>by simp[ints] at a
 | .bu _::_,_,a=>by simp[ints] at a
 | .fn .. ::_,_,a=>by simp[ints] at a
 | .jC _::_,_,a=>by simp[ints] at a
def Qx:∀{d:List (TV B.D)} {c:List Bool},gS d=c4 c->aP B d=c.map PV.bool
 |[],c,a=>by simp[gS] at a;subst a;rfl
 | .bool b::d,c,a=>by
  simp only[gS] at a;cases e:gS d with
  |none=>rw[e] at a;cases a
  |some r=>
   rw[e] at a;injection a with a
   subst a;simp[aP,pv,Qx e]
 | .any::_,_,a=>by simp[gS] at a
 | .z0::_,_,a=>by simp[gS] at a
 | .fS::_,_,a=>by simp[gS] at a
 | .bg::_,_,a=>by simp[gS] at a
 | .dB::_,_,a=>by simp[gS] at a
 | .int .. ::_,_,a=>by simp[gS] at a
 | .str _::_,_,a=>by simp[gS] at a
 | .row .. ::_,_,a=>by simp[gS] at a
 | .ptr .. ::_,_,a=>by simp[gS] at a
 | .fl .. ::_,_,a=>by simp[gS] at a
 | .sl .. ::_,_,a=>by simp[gS] at a
 | .vp .. ::_,_,a=>by simp[gS] at a
 | .agg _::_,_,a=>by simp[gS] at a
 | .bu _::_,_,a=>by simp[gS] at a
 | .fn .. ::_,_,a=>by simp[gS] at a
 | .jC _::_,_,a=>by simp[gS] at a
def aeo{f:TypeId}{e:Nat}(b:Gx P f e=true):∃c,pk P f=c4 (e,c)/\cH P c=c4 1/\dP P c=c4 false:=by
 unfold Gx at b
 split at b
 .rename_i h c i
  split at b
  .rename_i g j k;cases d:e4 h e with
   |true=>
    rw[d] at b;obtain rfl:=beq_eq d;obtain rfl:=beq_eq (a:=g) b;exact⟨c,i,j,k⟩
   |false=>rw[d] at b;cases b
  .cases b
 .cases b
def ame{l:TypeId}{e h:Operand}{g:En B.D}{s:List (Ob B.D)}{o:cr B.D->Option R}(a:index B P l (pe g e) (pe g h) o=c4 r):
 ∃v n,o ⟨v,[],0,n⟩=c4 r/\fW P (.index l e h) g s n v:=by
 unfold index at a
 split at a
 .rename_i G y p A C;obtain⟨F,a⟩:=a8 a;obtain⟨K,w,D,x⟩:=aeo F;have m:∀{j:Type} (b:List j) (f:j->PV) (v:j) (k:TV B.D),aP B p=b.map f->pv B k=f v->aj b y=c4 v->fW P (.index l e h) g s [] k:=λb f v k u z d J L M H I N q _=>by
   obtain⟨E,t⟩:=xd d;have c:len p=b.length:=by
    have:=congrArg List.length u;rw[db,dk,dk] at this;rw[eu,this]
   rw[z];refine ac0 (by rw[q e (by simp[dd]),C];rfl) (by rw[q h (by simp[dd]),A];rfl) E ?_ w D x ?_
   .rw[c];exact(c7.1 t).1
   .rw[u,e6,t];rfl
  split at a
  .obtain⟨b,c,a⟩:=fq a;obtain⟨v,d,i⟩:=ec.1 a;exact⟨_,_,i,m b _ v _ (Li c) rfl d⟩
  .obtain⟨b,c,a⟩:=fq a;obtain⟨v,d,i⟩:=ec.1 a;exact⟨_,_,i,m b _ v _ (Qx c) rfl d⟩
  .cases a
 .cases a
def wk{g:En B.D}{f:Env}{dflt:Nat}{e:Option Operand}{d:Int}(a:rE B g (dflt:Int) e=c4 d)(h0:0<=d)(j:∀b,e=c4 b->∀h c,pe g b= .int h c->PE f b= .int h c):mU f dflt e d.toNat:=by
 unfold rE at a
 split at a
 .injection a with a
  show d.toNat=dflt
  omega
 .rename_i b
  split at a
  .rename_i i c k;injection a with a
   subst a;exact⟨i,c,j b rfl i c k,by omega⟩
  .cases a
def NN{f:En B.D}{e:Env}{c:Option Operand}(b:Bx B f c=true)(i:∀a,c=c4 a->∀g d,pe f a= .int g d->PE e a= .int g d):mU e 0 c 0:=by
 unfold Bx at b
 split at b
 .rfl
 .rename_i a;unfold pP at b
  split at b
  .rename_i h j;exact⟨h,0,i a rfl h 0 j,rfl⟩
  .cases b
def NF{b:TV B.D}(a:pP b=true):∃c,b= .int c 0:=by
 unfold pP at a
 split at a
 .exact⟨_,rfl⟩
 .cases a
def aqA{t:TypeId}{x:Operand}{lo hi:Option Operand}{E:En B.D}{H:List (Ob B.D)}{c:cr B.D->Option R}(h:slice B P E H t (pe E x) lo hi c=c4 r):
 ∃v A,c ⟨v,[],0,A⟩=c4 r/\fW P (.slice t x lo hi c6) E H A v:=by
 have ops:∀{k:En B.D},(∀z,z∈(Op.slice t x lo hi c6).operands->PE (aU B k) z=pv B (pe E z))->∀{i:Option Operand},i=lo\/i=hi->∀a,i=c4 a->∀c e,pe E a= .int c e->PE (aU B k) a= .int c e:=λQ i m a j c e o=>by
  rw[Q a ?_,o];rfl;rcases m with rfl |rfl
  .subst j;simp[dd]
  .subst j;simp[dd]
 unfold slice at h
 split at h
 .rename_i e N n;obtain⟨g,h⟩:=a8 h;obtain⟨p,w,h⟩:=fq h;obtain⟨b,s,h⟩:=fq h;obtain⟨O,j,u⟩:=ec.1 h;obtain⟨h0,J,G,rfl⟩:=Kt j;refine⟨_,_,u,λd ty pos aft k y f _=>?_⟩
  refine aaK (l:=p.toNat) (h:=b.toNat) (by rw[f x (by simp[dd]),n];rfl) (mh g).1 (mh g).2 (wk (dflt:=0) w h0 (ops f (.inl rfl))) (wk (by rw[dk];exact s) (by omega) (ops f (.inr rfl))) (by omega) (by rw[dk];omega) ?_
  simp[j8,j7]
 .rename_i q v n
  split at h
  .rename_i e N S;obtain⟨T,m⟩:=fx S;obtain⟨g,h⟩:=a8 h;obtain⟨p,w,h⟩:=fq h;obtain⟨b,s,h⟩:=fq h;obtain⟨O,j,u⟩:=ec.1 h;obtain⟨h0,J,G,_⟩:=Kt j;refine⟨_,_,u,λd ty pos aft k y f M=>?_⟩
   have C:=df (M q _ (by simp) m);refine KT (by rw[f x (by simp[dd]),n];rfl) C λD I K=>?_
   have F:∀{i:Option Operand},i=lo\/i=hi->∀a,i=c4 a->∀c e,pe E a= .int c e->PE D a= .int c e:=λm a j c e o=>K a _ (ops f m a j c e o) (by simp)
   have:=SC (P:=P) (E:=D) (H:=av B y) (d:=d) (ty:=ty) (pos:=pos) (aft:=aft) (gd:=c6) (t:=t) (x:=x) (lo:=lo) (hi:=hi) (l:=p.toNat) (h:=b.toNat) I C rfl (mh g).1 (mh g).2 (wk (dflt:=0) w h0 (F (.inl rfl))) (wk (by simpa[aY] using s) (by omega) (F (.inr rfl))) (by omega) (by simp[aY];omega);rw[gx] at this;exact this
  .cases h
 .rename_i n;obtain⟨h0,h⟩:=a8 h;obtain⟨L,h⟩:=a8 h
  split at h
  .rename_i e o;obtain⟨g,h⟩:=a8 h;exact⟨_,_,h,λd ty pos aft k y f _=>acJ (by rw[f x (by simp[dd]),n];rfl) (mh g).1 (mh g).2 (NN h0 (ops f (.inl rfl))) (NN L (ops f (.inr rfl)))⟩
  .cases h
 .cases h
def VT(w:cU P B){n:TypeId}{x e c:Operand}{d:En B.D}{m:List (Ob B.D)}{l:cr B.D->Option R}
 (a:(bif pP (pe d e) then bif pP (pe d c) then rowOf B m (pe d x) λi _ b=>bif kX B P n i then l ⟨.z0,[],0,b⟩ else c6 else c6 else c6)=c4 r):
 ∃v b,l ⟨v,[],0,b⟩=c4 r/\fW P (.slice n x c6 (c4 e) (c4 c)) d m b v:=by
 obtain⟨g,a⟩:=a8 a;obtain⟨f,a⟩:=a8 a;obtain⟨o,g⟩:=NF g;obtain⟨t,f⟩:=NF f;obtain⟨i,G,b,a,s⟩:=Hd a;obtain⟨j,p⟩:=a8 a;refine⟨_,_,p,λD E F z A u h q=>?_⟩
 refine amo (x:=x) (by rw[h x (by simp[dd])];exact s u q) λC y k=>?_
 exact Zm y (w.pos i) (mh j).1 (mh j).2 (k e (.int o 0) (by rw[h e (by simp[dd]),g];rfl) (by simp)) (k c (.int t 0) (by rw[h c (by simp[dd]),f];rfl) (by simp))
def kV.len{H:List aO}{p:PV}{sz:Nat}{k:List PV}{g:Gh}{w:World}{v:Value}(c:kV H p sz k)(e:bF g H w)(h:VR g H w p v)(d:0<sz):∃a cap,v= .slice a k.length cap:=by
 rcases c with c |⟨q,l,rfl,j,rfl,rfl⟩
 .obtain⟨_,a,cap,h,_⟩:=c.real e h d;exact⟨a,cap,h⟩
 .obtain⟨_,a,cap,h,_⟩:=(DP j).real e (h.ub j rfl) d;exact⟨a,cap,h⟩
def apb{b:List (Ob B.D)}{q v g a:Nat}{c:List (B.D a)}{d:List (TV B.D)}(h:nth b q=c4 ⟨g,v,.hole a c d⟩){e:List (Ob B.D)}(j:∀i f,i∈[q]->nth b i=c4 f->nth e i=c4 f):kV (av B e) (.fl q v) (B.sz a) (c.map (B.ty a).enc++aP B d):=
 .inr ⟨q,_,rfl,df (j q _ (by simp) h),rfl,rfl⟩
def Vw(A:cU P B){x:Operand}{t n:TypeId}{E:En B.D}{H:List (Ob B.D)}{l:cr B.D->Option R}(m:dU P t=c4 n)
 (b:(match pe E x with
  | .bg=>l ⟨.int .i64 0,[],0,[]⟩
  | .z0=>l ⟨.int .i64 0,[],0,[]⟩
  |x=>GF B H x l)=c4 r):
 ∃v e,l ⟨v,[],0,e⟩=c4 r/\fW P (.call {callee:=.builtin .len,args:=#[x],argTypes:=#[t]}) E H e v:=by
 have o:x∈(o8 {callee:=.builtin .len,args:=#[x],argTypes:=#[t]}).operands:=by simp[dd,hP]
 split at b
 .rename_i h;exact⟨_,_,b,λd ty pos aft p a j _=>ap9 (by rw[j x o,h];rfl) rfl m⟩
 .rename_i h;exact⟨_,_,b,λd ty pos aft p a j _=>acm (by rw[j x o,h];rfl) rfl m⟩
 .unfold GF at b;have s:∀(q:Nat) (e:List Nat) (u:Nat) (k:List PV),0<u->k.length=q->(∀a:List (Ob B.D),(∀i D,i∈e->nth H i=c4 D->nth a i=c4 D)->kV (av B a) (pv B (pe E x)) u k)->fW P (.call {callee:=.builtin .len,args:=#[x],argTypes:=#[t]}) E H e (.int .i64 (q:Int)):=λq e u k J M z d ty pos aft p a j f=>by
   subst M;exact Gi (P:=P) (E:=aU B p) (H:=av B a) (d:=d) (ty:=ty) (pos:=pos) (aft:=aft) (gd:=c6) (x:=x) (t:=t) (ci:=#[t]) (n:=k.length) ⟨n,m⟩ rfl λg O N Q F=>by
    have G:=F.e.eval x;rw[j x o] at G;exact(z a f).len F.m G J
  split at b
  .rename_i h
   split at b
   .rename_i c y C;obtain⟨L,w⟩:=fx C;refine⟨_,_,b,s _ _ (B.sz c) (List.map (B.ty c).enc y) (A.pos c) (by rw[dk]) λa f=>?_⟩
    rw[h];exact .inr ⟨_,_,rfl,df (f _ _ (by simp) w),rfl,rfl⟩
   .rename_i c y K C;obtain⟨L,w⟩:=fx C;refine⟨_,_,b,s _ _ (B.sz c) (y.map (B.ty c).enc++aP B K) (A.pos c) (by rw[eH,dk,db,dk,eu]) λa f=>?_⟩
    rw[h];exact apb w f
   .cases b
  .obtain⟨c,k,e,I,z⟩:=Hd b;exact⟨_,_,I,s _ _ _ _ (A.pos c) (by rw[dk]) λa f=>z a f⟩
def adE{a:Call}{d e:Operand}{f:En B.D}{l:List (Ob B.D)}{c b:IntKind}{i h:Int}(o:a.callee= .builtin .min)(n:a.args=#[d,e])(m:pe f d= .int c i)(k:pe f e= .int b h)(j:fV c b=true):
 fW P (.call a) f l [] (.int c (min i h)):=by
 obtain rfl:=qh j;obtain⟨callee,args,t⟩:=a;subst o;subst n;exact λs u v p q w g _=>akg (by rw[g d (by simp[dd,hP]),m];rfl) (by rw[g e (by simp[dd,hP]),k];rfl)
def alY{a:Call}{d e:Operand}{f:En B.D}{l:List (Ob B.D)}{c b:IntKind}{i h:Int}(o:a.callee= .builtin .max)(n:a.args=#[d,e])(m:pe f d= .int c i)(k:pe f e= .int b h)(j:fV c b=true):
 fW P (.call a) f l [] (.int c (max i h)):=by
 obtain rfl:=qh j;obtain⟨callee,args,t⟩:=a;subst o;subst n;exact λs u v p q w g _=>ae4 (by rw[g d (by simp[dd,hP]),m];rfl) (by rw[g e (by simp[dd,hP]),k];rfl)
def DE{E c:En B.D}:∀{b:List Operand},(∀a,a∈b->PE (aU B c) a=pv B (pe E a))->aP B (fB E b)=b.map (PE (aU B c))
 |[],_=>rfl
 |a::b,d=>by rw[fB,aP,DE λe f=>d e (km _ f),ma,d a (by simp)]
def W8{f:FuncId}{bs cs:Array Operand}{E:En B.D}{H:List (Ob B.D)}:fW P (.makeFunc (.func f) bs cs) E H [] (.fn f (fB E bs.toList) (fB E cs.toList)):=by
 intro d ty pos aft e g c _;have:=apw (P:=P) (E:=aU B e) (H:=av B g) (d:=d) (ty:=ty) (pos:=pos) (aft:=aft) (gd:=c6) (f:=f) (bs:=bs.toList) (cs:=cs.toList);rw[<-DE (E:=E) λa b=>c a (by simp[dd,hM.1 b]), <-DE (E:=E) λa b=>c a (by simp[dd,hM.1 b])] at this;exact this
def aip{f d:TypeId}{a:Operand}{e:En B.D}{j:List (Ob B.D)}{c b:IntKind}{g:Int}(l:pe e a= .int b g)(h:yi P d=c4 c)(k:(P.underlying f).isSome=true):fW P (.convert f d a) e j [] (.int c (c.wrap g)):=
 λ_ _ _ _ _ _ i _=>aoQ (by rw[i a (by simp[dd]),l];rfl) k h rfl
end
section
variable {P:Program}{B:Tb}{R:Type}{r:R}
def iZ{c:Nat->Type}(a:List (Ob c))(b:cr c):Prop:=
 ∀i e,(i,e)∈b.wr->i<a.length+b.nw/\∀d,nth a i=c4 d->d.st<e.st
def S6{a:Nat->Type}{d:List (Ob a)}{v:TV a}{b:Nat}{e:List Nat}:iZ d ⟨v,[],b,e⟩:=λi f c=>by cases c
def pz{c:Nat->Type}{a:List (Ob c)}{v:TV c}{q f:Nat}{b:Bd c}{j:List Nat}{h:Ob c}(e:nth a q=c4 h):iZ a ⟨v,[(q,⟨dJ a q,f,b⟩)],0,j⟩:=λi l d=>by
 have d:(i,l)=(q,(⟨dJ a q,f,b⟩:Ob c)):=k0.1 d;injection d with h1 h2
 subst h1;subst h2;refine⟨?_,λk g=>?_⟩
 .rw[cJ] at e;exact(c7.1 e).1
 .show k.st<dJ a i
  unfold dJ;rw[g];exact p7 _
def xO{c:Nat->Type}{b:List (Ob c)}{v:TV c}{e:Ob c}{f:List Nat}:iZ b ⟨v,[(len b,e)],1,f⟩:=λi g a=>by
 have a:(i,g)=(len b,e):=k0.1 a;injection a with h1 h2
 subst h1;subst h2;rw[eu];refine⟨p7 _,λh d=>?_⟩
 rw[cJ,hI (ef _)] at d;cases d
def alQ{a:TV B.D}(b:yH a=true):(pv B a).one=true:=by
 cases a <;> first
  |rfl
  |(rename_i c;cases c <;> rfl;done)
  |(simp[yH] at b;done)
def oK:∀{cs:List (TV B.D)},jj cs=true->(aP B cs).all PV.one=true
 |[],_=>rfl
 |c::cs,a=>by
  simp only[jj] at a;cases b:yH c with
  |false=>rw[b] at a;cases a
  |true=>
   rw[b] at a;simp[aP,alQ b,oK (cs:=cs) a]
def zk{b:TV B.D}(c:tF b=true)(vs:List PV):pv B b≠ .bu vs:=by
 cases b <;> first
  |(intro a;cases a;done)
  |(rename_i d;cases d <;> (intro a;cases a);done)
  |(simp[tF] at c;done)
def PC{a:TV B.D}(b:jj (dN a)=true):tF a=true:=by
 cases a <;> first
  |rfl
  |(simp[dN,jj,yH] at b;done)
def l5(a:TV B.D):(pv B a).cells=aP B (dN a):=by rw[nB,db]
def aoA{a i:Nat}(c:i<a):(dx a:List (Ob B.D))[i]?=c4 xt:=by
 induction a generalizing i with
 |zero=>omega
 |succ a b=>
  cases i with
  |zero=>rfl
  |succ i=>simpa[dx] using b (by omega)
def PK{a:List (Ob B.D)}{b i:Nat}(c:i<b):nth (aX a (dx b)) (len a+i)=c4 xt:=by
 rw[cJ,bK,eu,dt (by omega)];simpa using aoA c
def mc(a:List (Ob B.D))(q:Nat)(b:Ob B.D):av B (b8 a [(q,b)])=(av B a).set q (aY B b):=Zc
def Ag.ov{c:Op}{rd:List Nat}{E d:En B.D}{H a:List (Ob B.D)}{e:Ob B.D}(j:Ag c (aX rd (eV [(len H,e)])) E d (aX H (dx 1)) a):(av B a)[len H]?=c4 ⟨0,1,[],0⟩:=by
 have h:=j.h (len H) (by simp[bK,eV]);rw[show len H=len H+0 from rfl,PK (by omega)] at h;exact df h
def Ag.pe{a:Op}{j:List Nat}{E c:En B.D}{d e:List (Ob B.D)}(h:Ag a j E c d e){x:Operand}(k:x∈a.operands):PE (aU B c) x=pv B (pe E x):=by rw[Bw,h.e x k]
def Ag.lN{d:Op}{rd wr:List Nat}{E e:En B.D}{H a:List (Ob B.D)}{n i:Nat}{c:Ob B.D}(j:Ag d (aX rd wr) E e (aX H (dx n)) a)(hi:i∈rd\/i∈wr)(h:nth H i=c4 c):nth a i=c4 c:=by
 rw[j.h i (by rw[bK,List.mem_append];exact hi)];exact Dy h
def c9{b:Type}{a:List b}{i:Nat}{d:b}(c:a[i]?=c4 d):i<a.length:=(c7.1 c).1
def W5{a:TypeId}{x:Operand}{E:En B.D}{H:List (Ob B.D)}(e:jj (dN (pe E x))=true)(g:m1 0 (len (dN (pe E x)))=true):
 gY P (.box a x) E H ⟨.ptr (len H) 1 0 0,[(len H,⟨1,1,.box a (dN (pe E x))⟩)],1,[]⟩:=by
 intro d ty pos aft f i b;have h:0<(pv B (pe E x)).cells.length:=by rw[nB,dk, <-eu];exact ei g
 have j:=b.pe (x:=x) (by simp[dd]);have k:=alO (P:=P) (E:=aU B f) (H:=av B i) (d:=d) (ty:=ty) (pos:=pos) (aft:=aft) (elem:=a) j rfl h (by rw[l5];exact oK e) (zk (PC e));have c:=tu (sX b.ov k) (c9 b.ov) (P6 _) (.refl _);rw[l5] at c;refine lI c ?_
 rintro v l ⟨rfl,rfl⟩;refine⟨rfl,?_⟩
 rw[mc];simp[aY,db]
def ac4{a:TypeId}{z:Value}{E:En B.D}{H:List (Ob B.D)}(k:dV P a=c4 z)(h:jj (dN (cv (D:=B.D) z))=true)(f:m1 0 (len (dN (cv (D:=B.D) z)))=true):
 gY P (.alloc a) E H ⟨.ptr (len H) 1 0 0,[(len H,⟨1,1,.box a (dN (cv z))⟩)],1,[]⟩:=by
 intro d ty pos aft e i c;have g:0<(pv B (cv z)).cells.length:=by rw[nB,dk, <-eu];exact ei f
 have j:=Ug (P:=P) (E:=aU B e) (H:=av B i) (d:=d) (ty:=ty) (pos:=pos) (aft:=aft) (elem:=a) k (DK B z).symm rfl g (by rw[l5];exact oK h);have b:=tu (sX c.ov j) (c9 c.ov) (P6 _) (.refl _);rw[l5] at b;refine lI b ?_
 rintro v l ⟨rfl,rfl⟩;refine⟨rfl,?_⟩
 rw[mc];simp[aY,db]
def Jh(c b:List (TV B.D))(a:Nat):aP B (oJ c a b)=(aP B c).take a++aP B b++(aP B c).drop (a+b.length):=by
 unfold oJ;rw[bK,bK,kK,drop_eq,eu];simp[db,j8,j7]
def ap2{a c:List (TV B.D)}{b:Nat}(d:b+c.length<=a.length):(oJ a b c).length=a.length:=by
 unfold oJ;rw[bK,bK,kK,drop_eq,eu];simp;omega
def acV{a n i:Nat}{g:List (B.D a)}{j:B.D a}{f:PV}(q:cU P B)(t:i<g.length)(u:∀(e:Nat) (m b:PV),f.cells[e]?=c4 m->((B.ty a).enc j).cells[e]?=c4 b->Cc m b)(v:f.cells.length=B.sz a):
 jB ⟨a,B.sz a,(g.map (B.ty a).enc).set i f,n⟩ ⟨a,B.sz a,(g.set i j).map (B.ty a).enc,n⟩:=by
 refine⟨rfl,rfl,rfl,by simp,λh k d=>?_,λh e l c=>?_⟩
 .rw[e6] at d;cases o:(g.set i j)[h]? with
  |none=>rw[o] at d;cases d
  |some s=>
   rw[o] at d;injection d with d
   subst d;exact q.wid a s
 .unfold abk at c⊢;rw[r0] at c
  by_cases k:i=h
  .subst k;rw[ee (by simpa using t)] at c⊢;simp only[hU] at c⊢;have p:e<f.cells.length:=by
    have:=c9 c;rw[q.wid] at this;omega
   exact⟨f.cells[e],c5 p,u e _ l (c5 p) c⟩
  .rw[ey k] at c⊢;exact⟨l,c,.refl _⟩
def amr(j:cU P B){w:TypeId}{x c:Operand}{E:En B.D}{H:List (Ob B.D)}{L:cr B.D->Option R}(a:store B P H w (pe E x) (pe E c) L=c4 r):
 ∃C,L C=c4 r/\iZ H C/\gY P (.store w x c) E H C:=by
 unfold store at a
 split at a
 .rename_i Y ae;obtain⟨W,a⟩:=a8 a;obtain⟨I,a⟩:=a8 a;have Z:(pv B (pe E c)).cells.length=Y:=by rw[nB,dk, <-eu];exact beq_eq W
  have O:(pv B (pe E c)).cells.all PV.one=true:=by rw[l5];exact oK I
  have J:=zk (B:=B) (PC I);have N:cH P w=c4 (pv B (pe E c)).cells.length:=by rw[Z];exact ae
  split at a
  .rename_i q v i f Q
   split at a
   .rename_i g aa G;obtain⟨af,o⟩:=fx G;obtain⟨e,S,a⟩:=ec.1 a;have ac:=c9 S;have fin:∀(h:B.D g) (e':PV),e'.cells=((B.ty g).enc e).cells.take f++(pv B (pe E c)).cells++((B.ty g).enc e).cells.drop (f+(pv B (pe E c)).cells.length)->f+(pv B (pe E c)).cells.length<=B.sz g->
     (∀(f:Nat) (m b:PV),e'.cells[f]?=c4 m->((B.ty g).enc h).cells[f]?=c4 b->Cc m b)->gY P (.store w x c) E H ⟨.any,[(q,⟨dJ H q,v,.aap g (aa.set i h)⟩)],0,[q]⟩:=λh e' M k u d ty pos aft K T l=>by
     have t:=df (l.lN (.inl (by simp)) o);have V:=QH (P:=P) (E:=aU B K) (H:=av B T) (d:=d) (ty:=ty) (pos:=pos) (aft:=aft) (e:=(B.ty g).enc e) (e':=e') (by rw[l.pe (x:=x) (by simp[dd]),Q];rfl) t rfl (l.pe (x:=c) (by simp[dd])) N O J (by simp[aY,S]) (by rw[j.wid];exact k) M;have X:e'.cells.length=B.sz g:=by
      rw[M,eH,eH,ft,j5,j.wid];omega
     refine lI (tu V (c9 t) (acV j ac u X) (.refl _)) ?_
     rintro v U ⟨rfl,rfl⟩;exact⟨rfl,by rw[mc];rfl⟩
    have A:((B.ty g).enc e).cells=aP B (dN (B.tv g e)):=by rw[<-j.tv,l5]
    split at a
    .rename_i n ab;obtain⟨k,a⟩:=a8 a;obtain⟨h,D,p⟩:=fq a;have s:=ei k;rw[eu,eu] at s;rw[ab] at A;refine⟨_,p,pz o,fin h (.agg (aP B (oJ n f (dN (pe E c))))) ?_ ?_ λf m b F y=>((j.up g _ h D).2.cells).2 f m b F y⟩
     .rw[A,l5];show aP B _=_
      rw[Jh];simp[dN,db]
     .have:=j.wid g e;rw[A,db,dk] at this;rw[nB,dk];simp only[dN] at this;omega
    .obtain⟨k,z⟩:=a8 a;clear a;obtain rfl:=beq_eq k;obtain⟨h,D,p⟩:=fq z;have u:=(j.up g _ h D).2.cells;have ag:(pv B (pe E c)).cells.length=B.sz g:=by rw[u.1,j.wid]
     refine⟨_,p,pz o,fin h (.agg (pv B (pe E c)).cells) ?_ (by omega) λf m b F y=>u.2 f m b F y⟩
     rw[List.drop_eq_nil_of_le (by rw[j.wid];omega)];simp[PV.cells]
   .rename_i ah n G;obtain⟨af,o⟩:=fx G;obtain⟨ad,z⟩:=a8 a;clear a;obtain rfl:=beq_eq ad;obtain⟨k,p⟩:=a8 z;have s:=ei k;rw[eu,eu] at s;refine⟨_,p,pz o,λd ty pos aft K T l=>?_⟩
    have t:=df (l.lN (.inl (by simp)) o);refine lI (QH (P:=P) (e:=.agg (aP B n)) (e':=.agg (aP B (oJ n f (dN (pe E c))))) (by rw[l.pe (x:=x) (by simp[dd]),Q];rfl) t rfl (l.pe (x:=c) (by simp[dd])) N O J (by simp[aY]) ?_ ?_) ?_
    .rw[show(pv B (pe E c)).cells.length=(dN (pe E c)).length by rw[nB,dk]];simp only[PV.cells,db,dk];exact s
    .rw[l5];show aP B _=(aP B n).take f++aP B (dN (pe E c))++(aP B n).drop (f+(aP B (dN (pe E c))).length)
     rw[Jh];simp[db]
    .rintro v U ⟨rfl,rfl⟩;refine⟨rfl,?_⟩
     rw[mc];simp[aY,ap2 s]
   .cases a
  .cases a
 .cases a
structure vF (P:Program) (B:Tb) (op:Op) (E:En B.D) (H:List (Ob B.D)) (n:Nat) (xs:List (B.D n)) (rd:List Nat):Prop where
 fz:∀d ty pos aft E' H',Ag op (aX rd []) E E' H H'->fJ P ⟨d,op,ty,pos,aft,c6⟩ (aU B E') (av B H') λv K=>v= .vs (B.sz n) (xs.map (B.ty n).enc)/\K=av B H'
 own:∀d ty pos aft E' H' q,(∀x,x∈op.operands->PE (aU B E') x=pv B (pe E x))->(∀i o,i∈rd->nth H i=c4 o->nth H' i=c4 o)->(av B H')[q]?=c4 ⟨0,1,[],0⟩->
  fJ P ⟨d,op,ty,pos,aft,c6⟩ (aU B E') (av B H') λv K=>v= .fl q 1/\K=(av B H').set q ⟨n,B.sz n,xs.map (B.ty n).enc,1⟩
def vF.sound{m:Op}{E:En B.D}{H:List (Ob B.D)}{n:Nat}{e:List (B.D n)}{rd:List Nat}{fz:Bool}{k:cr B.D->Option R}(o:vF P B m E H n e rd)
 (h:(bif fz then k ⟨.row n e,[],0,rd⟩ else k ⟨.fl (len H) 1,[(len H,⟨1,1,.aap n e⟩)],1,rd⟩)=c4 r):∃az,k az=c4 r/\iZ H az/\gY P m E H az:=by
 cases fz with
 |true=>
  refine⟨_,h,S6,λd ty pos l c j a=>?_⟩
  refine o.fz d ty pos l c j ⟨a.e,λi hi=>?_,?_⟩
  .rw[a.h i hi];show nth (aX H []) i=_;rw[bK,q4]
  .have:=a.le;simpa[bK,dx] using this
 |false=>
  refine⟨_,h,xO,λd ty pos l c j a=>?_⟩
  refine lI (o.own d ty pos l c j (len H) (λx t=>a.pe t) (λi w hi s=>a.lN (.inl hi) s) a.ov) ?_
  rintro v u ⟨rfl,rfl⟩;exact⟨rfl,by rw[mc];rfl⟩
def qY{b:Nat}{d:Option Nat}{z:Option Value}(a:lB b d z=true):d=c4 b/\∃v,z=c4 v/\v.cells.size=b:=by
 unfold lB at a
 split at a
 .rename_i e v;cases c:e4 b e with
  |true=>rw[c] at a;exact⟨by rw[beq_eq c],v,rfl,beq_eq a⟩
  |false=>rw[c] at a;cases a
 .cases a
def J2(f:cU P B){a:Nat}{e:List (B.D a)}:∀b,b∈e.map (B.ty a).enc->cE 0 b:=λb d=>by
 obtain⟨c,_,rfl⟩:=ng.1 d;exact f.lt a c
def MY(p:cU P B){c b k:Nat}{a x:Operand}{e:En B.D}{F:List (Ob B.D)}{g t:List (B.D b)}{w:List Nat}(I:pe e a= .bg\/pe e a= .z0)(J:yd B F (pe e x) b g w)
 (y:dU P c=c4 b) (E:kB P b=c4 (k+1)) (U:lB (B.sz b) (cH P b) (dV P b)=true) (Q:bj (k+1) [] g=c4 t):
 vF P B (.call {callee:=.builtin .append,args:=#[a,x],argTypes:=#[c,c]}) e F b t w:=by
 obtain⟨u,rfl⟩:=AN Q;obtain⟨D,Y,A,K⟩:=qY U;simp only[l0,gx,o2] at u⊢;have C:(g.map (B.ty b).enc).length<=9223372036854775807:=by
  rw[dk];have:=ga g.length (l3 k);simp only[hS] at this;omega
 have L:(g.map (B.ty b).enc).length*(k+1)<=140737488355328:=by rw[dk];exact u
 have h:a∈(o8 {callee:=.builtin .append,args:=#[a,x],argTypes:=#[c,c]}).operands/\x∈(o8 {callee:=.builtin .append,args:=#[a,x],argTypes:=#[c,c]}).operands:=by simp[dd,hP]
 have G:∀{m:Env},PE m a=pv B (pe e a)->PE m a= .bg\/PE m a= .z0:=λj=>I.imp (λf=>by rw[j,f];rfl) (λf=>by rw[j,f];rfl)
 have H:∀r v,pv B (pe e a)≠ .fl r v:=λr v=>by rcases I with f |f <;> rw[f] <;> simp[pv]
 refine⟨λd ty pos aft N o s=>?_,λd ty pos aft N o q M T z=>?_⟩
 .have W:=s.pe h.1;refine uL (x:=x) (by rw[s.pe h.2];exact J o λi X V S=>by rw[s.h i (by rw[bK];simp[V])];exact S) λO n l=>?_
  exact ab0 (G (l a _ W H)) rfl n (p.pos b) y D E A K L C (J2 p)
 .refine uL (x:=x) (by rw[M x h.2];exact J o T) λO n l=>?_
  have j:=Oh (P:=P) (d:=d) (ty:=ty) (pos:=pos) (aft:=aft) z (G (l a _ (M a h.1) H)) rfl n (p.pos b) y D E A K L C;exact qX j (by unfold ek;rw[ee (c9 z)]) rfl
def YX(W:cU P B){t a f q v p:Nat}{s x:Operand}{E:En B.D}{H:List (Ob B.D)}{b e m:List (B.D a)}{n:List Nat}(M:pe E s= .fl q v)(h:nth H q=c4 ⟨p,v,.aap a b⟩)(O:yd B H (pe E x) a e n)
 (z:dU P t=c4 a) (K:kB P a=c4 (f+1)) (L:lB (B.sz a) (cH P a) (dV P a)=true) (I:bj (f+1) b e=c4 m):
 gY P (.call {callee:=.builtin .append,args:=#[s,x],argTypes:=#[t,t]}) E H ⟨.fl q (v+1),[(q,⟨dJ H q,v+1,.aap a m⟩)],0,q::n⟩:=by
 obtain⟨y,rfl⟩:=AN I;obtain⟨J,V,F,Q⟩:=qY L;have G:b.length+e.length<=9223372036854775807:=by
  have:=ga (b.length+e.length) (l3 f);simp only[hS] at this;omega
 have l:s∈(o8 {callee:=.builtin .append,args:=#[s,x],argTypes:=#[t,t]}).operands/\x∈(o8 {callee:=.builtin .append,args:=#[s,x],argTypes:=#[t,t]}).operands:=by simp[dd,hP]
 intro d ty pos aft C w g;have c:=df (g.lN (.inl (by simp)) h);have S:PE (aU B C) s= .fl q v:=by rw[g.pe l.1,M];rfl
 obtain⟨j,rfl,u⟩:=ri S;refine yP u c rfl ?_
 have k:=JM (x:=x) (by rw[g.pe l.2];exact O w λi o N h=>g.lN (.inl (by simp[N])) h) u c;refine uL (x:=x) k λD k A=>?_
 have T:=Pb (P:=P) (E:=D) (H:=av B w) (d:=d) (ty:=ty) (pos:=pos) (aft:=aft) (s:=.tmp j) (r:=q) (v:=v) (len:=b.length) (by_:=f+1) (t:=t) (x:=x) (o:=aY B ⟨p,v,.aap a b⟩) (A (.tmp j) (.sl q v 0 b.length) (by show Bml.look _ j=_;rw[ni];simp[aY]) (by simp)) c rfl rfl k z J K F Q (by rw[dk];exact y) (by rw[dk];exact G);refine lI (qX T (by unfold ek;rw[ee (c9 c)]) (by simp[aY])) ?_
 rintro v U ⟨rfl,rfl⟩;refine⟨rfl,?_⟩
 rw[mc];simp[aY,hY]
def OL{f:List (Ob B.D)}{q a d b:Nat}{c:List (TV B.D)}(h:nth f q=c4 ⟨d,a,.hole b [] c⟩){e:List (Ob B.D)}(g:nth e q=c4 ⟨d,a,.hole b [] c⟩):kV (av B e) (.fl q a) (B.sz b) (aP B c):=
 .inr ⟨q,_,rfl,df g,rfl,by simp[aY]⟩
def agG(am:cU P B){t n p:Nat}{s x:Operand}{E:En B.D}{H:List (Ob B.D)}{U:cr B.D->Option R}(a:GI B H n (p+1) (pe E s) (pe E x) U=c4 r)
 (S:dU P t=c4 n) (Y:kB P n=c4 (p+1)) (ai:lB (B.sz n) (cH P n) (dV P n)=true):
 ∃M,U M=c4 r/\iZ H M/\gY P (.call {callee:=.builtin .append,args:=#[s,x],argTypes:=#[t,t]}) E H M:=by
 obtain⟨X,ap,W,ac⟩:=qY ai;have A:s∈(o8 {callee:=.builtin .append,args:=#[s,x],argTypes:=#[t,t]}).operands/\x∈(o8 {callee:=.builtin .append,args:=#[s,x],argTypes:=#[t,t]}).operands:=by simp[dd,hP]
 unfold GI at a
 split at a
 .rename_i q aq ab
  split at a
  .rename_i j f an;obtain⟨ao,C⟩:=fx an;obtain⟨ag,a⟩:=a8 a;obtain rfl:=beq_eq ag;have V:(aP B f).length=len f:=by rw[db,dk,eu]
   split at a
   .rename_i O;obtain⟨c,w⟩:=a8 a;have c:=ei c;refine⟨_,w,xO,λd ty pos aft T ad e=>?_⟩
    have af:=e.lN (.inl (by simp)) C;refine uL (x:=x) (sz:=B.sz j) (ys:=aP B f) (by rw[e.pe A.2,ab];exact OL C af) λI y G=>?_
    have J:(aP B f).length<=9223372036854775807:=by
     have:=ga (len f) (l3 p);simp only[hS] at this;omega
    have a:=Oh (P:=P) (E:=I) (d:=d) (ty:=ty) (pos:=pos) (aft:=aft) (s:=s) e.ov (.inl (G s .bg (by rw[e.pe A.1,O];rfl) (by simp))) rfl y (am.pos j) S X Y W ac (by rw[V];exact c) J;refine lI (qX a (by unfold ek;rw[ee (c9 e.ov)]) rfl) ?_
    rintro v ae ⟨rfl,rfl⟩;exact⟨rfl,by rw[mc];rfl⟩
   .rename_i h l O;have go:∀(m:Nat) (b F:Bd B.D) (g:List PV),nth H h=c4 ⟨m,l,b⟩->(∀s v,aY B ⟨s,v,b⟩=⟨j,B.sz j,g,v⟩)->(∀s v,aY B ⟨s,v,F⟩=⟨j,B.sz j,g++aP B f,v⟩)->(g.length+len f)*(p+1)<=140737488355328->
     gY P (.call {callee:=.builtin .append,args:=#[s,x],argTypes:=#[t,t]}) E H ⟨.fl h (l+1),[(h,⟨dJ H h,l+1,F⟩)],0,[h,q]⟩:=λm b F g k ak ah c=>by
     have J:g.length+(aP B f).length<=9223372036854775807:=by
      have:=ga (g.length+len f) (l3 p);simp only[hS] at this;omega
     intro d ty pos aft T ad e;have u:=df (e.lN (.inl (by simp)) k);have al:=e.lN (i:=q) (.inl (by simp)) C;rw[ak] at u;have aj:PE (aU B T) s= .fl h l:=by rw[e.pe A.1,O];rfl
     obtain⟨N,rfl,Z⟩:=ri aj;refine yP Z u rfl ?_
     have y:=JM (x:=x) (by rw[e.pe A.2,ab];exact OL C al) Z u;refine uL (x:=x) y λI y G=>?_
     have a:=Pb (P:=P) (E:=I) (H:=av B ad) (d:=d) (ty:=ty) (pos:=pos) (aft:=aft) (s:=.tmp N) (r:=h) (v:=l) (len:=g.length) (by_:=p+1) (t:=t) (x:=x) (o:=⟨j,B.sz j,g,l⟩) (G (.tmp N) (.sl h l 0 g.length) (by show Bml.look _ N=_;rw[ni]) (by simp)) u rfl rfl y S X Y W ac (by rw[V];exact c) J;refine lI (qX a (by unfold ek;rw[ee (c9 u)]) (by simp)) ?_
     rintro v ae ⟨rfl,rfl⟩;refine⟨rfl,?_⟩
     rw[mc,ah];simp[hY]
    split at a
    .rename_i Q z aa D;obtain⟨m,k⟩:=fx D;obtain⟨ys,L,a⟩:=fq a;obtain⟨rfl,K⟩:=AG L;obtain rfl:z=ys:=K;obtain⟨c,w⟩:=a8 a;have c:=ei c;refine⟨_,w,pz k,go m _ _ (z.map (B.ty Q).enc++aP B aa) k (λs v=>rfl) (λs v=>by simp[aY,bK,db]) ?_⟩
     rw[eH,dk,db,dk, <-eu aa];exact c
    .rename_i Q z D;obtain⟨m,k⟩:=fx D;obtain⟨ys,L,a⟩:=fq a;obtain⟨rfl,K⟩:=AG L;obtain rfl:z=ys:=K;obtain⟨c,w⟩:=a8 a;have c:=ei c;refine⟨_,w,pz k,go m _ _ (z.map (B.ty Q).enc) k (λs v=>rfl) (λs v=>rfl) ?_⟩
     rw[dk];exact c
    .cases a
   .cases a
  .cases a
 .cases a
end
def am7{b a:PV}(d:Cc b a)(c:a.one=true):b.one=true:=by
 cases d with
 |refl=>exact c
 |nil=>rfl
 |z0=>rfl
 |agg=>cases c
def ahf{vs:List PV}{a:PV}(b:Cc (.bu vs) a):a= .bu vs:=by
 cases b;rfl
def ajW{c a:PV}(h:Cc c a)(e:a.cells.all PV.one=true):c.cells.all PV.one=true:=by
 obtain⟨j,i⟩:=h.cells;refine h7.2 λk g=>?_
 obtain⟨d,f,rfl⟩:=ej g;have b:d<a.cells.length:=by omega
 exact am7 (i d _ _ (c5 f) (c5 b)) (h7.1 e _ (List.getElem_mem b))
section
variable {P:Program}{B:Tb}{R:Type}{r:R}
def acz{d:En B.D}{f e:Operand}(a:Cf f e=true):pe d e=pe d f:=by
 unfold Cf at a
 split at a
 .rw[beq_eq a]
 .rename_i h i b g;cases c:fV h b with
  |false=>rw[c] at a;cases a
  |true=>
   rw[c] at a;obtain rfl:=qh c;have:i=g:=of_decide_eq_true a;rw[this]
 .cases a
def aoF(t:cU P B){s a x:Nat}{l o:Operand}{v:En B.D}{W:List (Ob B.D)}{L:IntKind}{d:Int}{z:Value}{m:B.D a}{F:List (B.D a)}(Z:Cf l o=true)(E:pe v l= .int L d)
 (K:dU P s=c4 a) (S:dV P a=c4 z) (V:kB P a=c4 (x+1)) (Y:lB (B.sz a) (cH P a) (dV P a)=true) (O:jj (dN (cv (D:=B.D) z))=true) (X:B.up a (cv z)=c4 m) (w:gP (x+1) m d=c4 F):
 vF P B (.makeSlice s l o) v W a F []:=by
 obtain⟨G,A,rfl⟩:=SF w;obtain⟨U,ag,af,ah⟩:=qY Y;obtain⟨M,y⟩:=t.up a _ m X;have Q:d.toNat<=9223372036854775807:=by
  have:=ga d.toNat (l3 x);simp only[hS] at this;omega
 have T:(pv B (cv z)).cells.length=B.sz a:=by rw[y.cells.1,t.wid]
 have J:∀h c j g f k,(∀p,p∈(Op.makeSlice s l o).operands->PE (aU B f) p=pv B (pe v p))->nY P (aU B f) (av B k) ⟨h,.makeSlice s l o,c,j,g,c6⟩ a (B.sz a) (hB d.toNat (pv B (cv z))) (λq n=>.sl q n 0 d.toNat):=λh c j g f k e=>
  aax (by rw[e l (by simp[dd]),E];rfl) (by rw[e o (by simp[dd]),acz Z,E];rfl) G G K U V (by omega) Q S (DK B z).symm T (t.pos a) (by rw[l5];exact oK O)
 have I:∀c n,jB ⟨c,B.sz a,hB d.toNat (pv B (cv z)),n⟩ ⟨c,B.sz a,(hB d.toNat m).map (B.ty a).enc,n⟩:=λc n=>by
  refine jB.of (by simp) (λi ae b aa A=>?_) λi N e=>?_
  .have ac:=dT aa;have H:=dT A;rw[oo] at H;rw[hQ ac,hQ H];exact y
  .have C:=dT e;rw[oo] at C;rw[hQ C];exact t.wid a m
 refine⟨λh c j g f k ad=>?_,λh c j g f k q e _ u=>?_⟩
 .exact Pf (J5 (J h c j g f k λp w=>ad.pe w) (by simp) λN e=>by rw[hQ e];exact M) (I 0 0)
 .have ab:=tu (sX u (J h c j g f k e)) (c9 u) (I a 1) (.refl _);exact qX ab (by unfold ek;rw[ee (c9 u)]) (by simp)
def NO(o:cU P B){e:En B.D}{j:Nat}:∀{b:List (Nat×Operand)} {i:Nat} {f:List (B.D j)},rn B e j i b=c4 f->
 f.length=b.length/\(∀g:En B.D,(∀p,p∈b->PE (aU B g) p.2=pv B (pe e p.2))->qn (aU B g) b (mY i (b.map λp=>pv B (pe e p.2))))/\
 (∀(c:Nat) (k h:PV),(b.map λp=>pv B (pe e p.2))[c]?=c4 k->(f.map (B.ty j).enc)[c]?=c4 h->Cc k h)/\∀l,l∈(b.map λp=>pv B (pe e p.2))->cE 0 l
 |[],i,f,a=>by
  simp only[rn,m4] at a;subst a;exact⟨rfl,λ_ _=>trivial,by simp,by simp⟩
 |p::b,i,f,a=>by
  simp only[rn] at a;obtain⟨x,a⟩:=a8 a
  split at a
  .rename_i t C y w;injection a with a
   subst a;obtain⟨s,z,v,A⟩:=NO o w;obtain⟨u1,u2⟩:=o.up j _ t y;refine⟨by simp[s],λg d=>⟨beq_eq x,d p (by simp),z g λq u=>d q (km _ u)⟩,λc k h n m=>?_,λl d=>?_⟩
   .cases c with
    |zero=>simp at n m;subst n;subst m;exact u2
    |succ c=>exact v c k h (by simpa using n) (by simpa using m)
   .rcases mb.1 d with rfl |d
    .exact u1
    .exact A l d
  .cases a
def Js:∀{l:List Value},Ax l=true->l.all (·.oneCell')=true
 |[],_=>rfl
 |v::l,a=>by
  simp only[Ax] at a;cases b:v.oneCell' with
  |false=>rw[b] at a;cases a
  |true=>rw[b] at a;simp[b,Js (l:=l) a]
def aaJ(j:cU P B){t n f:Nat}{ps:Array (Nat×Operand)}{E:En B.D}{H:List (Ob B.D)}{g:List (B.D n)}(D:dU P t=c4 n)(u:rn B E n 0 ps.toList=c4 g)(M:e4 (len g) f=true)
 (O:lB (B.sz n) (cH P n) (dV P n)=true) (C:Ix (dV P n)=true) (N:hK (f*B.sz n) 16777216=true):vF P B (.buildSlice t f ps) E H n g []:=by
 obtain⟨J,zv,x,Q⟩:=qY O;obtain⟨V,S,w,T⟩:=NO j u;have W:g.length=f:=by rw[<-eu];exact beq_eq M
 rw[x] at C;have F:=Js C;have y:∀e,e∈(ps.toList.map λp=>pv B (pe E p.2))->∃a:B.D n,Cc e ((B.ty n).enc a):=λe b=>by
  obtain⟨s,v,rfl⟩:=ej b;have G:s<g.length:=by rw[dk] at v;omega
  exact⟨g[s],w s _ _ (c5 v) (by rw[e6,c5 G];rfl)⟩
 have z:∀d ty pos aft c h,(∀a,a∈(Op.buildSlice t f ps).operands->PE (aU B c) a=pv B (pe E a))->nY P (aU B c) (av B h) ⟨d,.buildSlice t f ps,ty,pos,aft,c6⟩ n (B.sz n) (ps.toList.map λp=>pv B (pe E p.2)) (λq k=>.sl q k 0 f):=λd ty pos aft c h b=>by
  have l:=Pn (P:=P) (E:=aU B c) (H:=av B h) (d:=d) (ty:=ty) (pos:=pos) (aft:=aft) (t:=t) (te:=n) (sz:=B.sz n) (n:=f) (zv:=zv) (ps:=ps.toList) (es:=ps.toList.map λp=>pv B (pe E p.2))
   (S c λp K=>b p.2 (by simp[dd];exact⟨p.1,hM.1 K⟩)) (by rw[dk];omega)
   (h7.2 λe b=>by
    obtain⟨a,m⟩:=y e b;rw[m.cells.1,j.wid,ajW m (j.one n a),k7];rfl)
   (λe b I L=>by
    obtain⟨a,m⟩:=y e b;subst L;exact j.xw n a I (ahf m)) D J x Q F (j.pos n) (ei N)
  rw[j4] at l;exact l
 have A:∀ty k,jB ⟨ty,B.sz n,ps.toList.map λp=>pv B (pe E p.2),k⟩ ⟨ty,B.sz n,g.map (B.ty n).enc,k⟩:=λty k=>
  jB.of (by rw[dk,dk];omega) w λi e b=>by
   obtain⟨a,_,rfl⟩:=ng.1 (dT b);exact j.wid n a
 refine⟨λd ty pos aft c h U=>?_,λd ty pos aft c h q b _ o=>?_⟩
 .exact Pf (J5 (z d ty pos aft c h λa u=>U.pe u) (by rw[dk];omega) T) (A 0 0)
 .have l:=tu (sX o (z d ty pos aft c h b)) (c9 o) (A n 1) (.refl _);exact qX l (by unfold ek;rw[ee (c9 o)]) (by rw[dk];omega)
def aco(M:cU P B){t n g:Nat}{ps:Array (Nat×Operand)}{E:En B.D}{H:List (Ob B.D)}{h:cr B.D->Option R}(a:FK B E H n ps.toList g h=c4 r)(s:dU P t=c4 n)
 (J:lB (B.sz n) (cH P n) (dV P n)=true) (m:Ix (dV P n)=true) (G:hK (g*B.sz n) 16777216=true):∃c,h c=c4 r/\iZ H c/\gY P (.buildSlice t g ps) E H c:=by
 obtain⟨D,zv,i,K⟩:=qY J;rw[i] at m;have y:=Js m;unfold FK at a
 split at a
 .rename_i p k;obtain⟨h0,a⟩:=a8 a;obtain⟨A,a⟩:=a8 a;obtain⟨o,a⟩:=a8 a;obtain⟨I,a⟩:=a8 a;obtain⟨z,x⟩:=a8 a;obtain rfl:=beq_eq A;refine⟨_,x,xO,λd ty pos aft b l f=>?_⟩
  have u:PE (aU B b) p.2=pv B (pe E p.2):=f.pe (by simp[dd];exact⟨p.1,hM.1 (by rw[k];simp)⟩);have L:(pv B (pe E p.2)).cells.length=B.sz n:=by rw[nB,dk, <-eu];exact beq_eq o
  have N:nY P (aU B b) (av B l) ⟨d,.buildSlice t 1 ps,ty,pos,aft,c6⟩ n (B.sz n) [pv B (pe E p.2)] (λq F=>.sl q F 0 1):=by
   have a:=Pn (P:=P) (E:=aU B b) (H:=av B l) (d:=d) (ty:=ty) (pos:=pos) (aft:=aft) (t:=t) (te:=n) (sz:=B.sz n) (n:=1) (zv:=zv) (ps:=ps.toList) (es:=[pv B (pe E p.2)])
    (by rw[k];exact⟨beq_eq h0,u,trivial⟩) rfl
    (h7.2 λw e=>by
     rw[k0.1 e,L,l5,oK I,k7];rfl)
    (λw e C j=>by
     rw[k0.1 e] at j;exact zk z C j) s D i K y (M.pos n) (ei G)
   rw[j4] at a;exact a
  have a:=sX f.ov N;refine lI (qX a (by unfold ek;rw[ee (c9 f.ov)]) rfl) ?_
  rintro v O ⟨rfl,rfl⟩;exact⟨rfl,by rw[mc];rfl⟩
 .cases a
def M4{e:En B.D}:∀{b:List (Nat×Operand)} {c:List (Nat×List (TV B.D))},ul B e b=c4 c->c=b.map (λp=>(p.1,dN (pe e p.2)))/\∀p,p∈b->tF (pe e p.2)=true
 |[],c,a=>by simp[ul] at a;subst a;exact⟨rfl,by simp⟩
 |p::b,c,a=>by
  simp only[ul] at a;obtain⟨i,a⟩:=a8 a
  split at a
  .rename_i j h;injection a with a
   subst a;obtain⟨f,g⟩:=M4 h;refine⟨by rw[f];rfl,λq d=>?_⟩
   rcases mb.1 d with rfl |d
   .exact i
   .exact g q d
  .cases a
def Ko{c:En B.D}{place:Nat->Option (Nat×Nat)}{k:List (Nat×Nat)}(g:∀i p,nth k i=c4 p->place i=c4 p):∀{e:List (Nat×Operand)} {b d:List (TV B.D)},fill k b (e.map λp=>(p.1,dN (pe c p.2)))=c4 d->
 mE place (aP B b) (e.map λp=>(p.1,pv B (pe c p.2)))=c4 (aP B d)
 |[],b,d,a=>by simp[fill] at a;subst a;rfl
 |p::e,b,d,a=>by
  simp only[ma,fill] at a
  split at a
  .rename_i q size m;obtain⟨n,a⟩:=a8 a;obtain⟨h,a⟩:=a8 a;obtain⟨o,a⟩:=a8 a;have f:=beq_eq n;rw[eu] at f h;have j:=Ko g a;rw[Jh,f] at j;simp only[ma,mE,g _ _ m];have l:(pv B (pe c p.2)).cells=aP B (dN (pe c p.2)):=l5 _;rw[l,oK o];rw[show(aP B (dN (pe c p.2))).length=size by rw[db,dk];exact f,show(aP B b).length=b.length by rw[db,dk],h,k7];exact j
  .cases a
def RI{b:Nat}:∀{n i k:Nat} {p:Nat×Nat},nth (AA b n i) k=c4 p->p=((i+k)*b,b)
 |0,_,_,_,a=>by cases a
 |n+1,i,0,p,a=>by simp[AA,nth] at a;exact a.symm
 |n+1,i,k+1,p,a=>by
  have:=RI (n:=n) (i:=i+1) (k:=k) (p:=p) a;rw[this]
  congr 2
  omega
def agn{t:TypeId}{f:Array (Nat×Operand)}{E:En B.D}{H:List (Ob B.D)}{z:Array Value}{o:List (Nat×Nat)}{x:List (Nat×List (TV B.D))}{l:List (TV B.D)}(m:dV P t=c4 (.agg z))(a:placesOf P t=c4 o)
 (F:jj (rq (D:=B.D) z.toList)=true) (I:ul B E f.toList=c4 x) (n:fill o (rq z.toList) x=c4 l):fW P (.build t f) E H [] (.agg l):=by
 intro d ty pos aft g w G _;obtain⟨rfl,y⟩:=M4 I;have u:∀{e:List (Nat×Operand)},(∀p,p∈e->p∈f.toList)->qn (aU B g) e (e.map λp=>(p.1,pv B (pe E p.2))):=λ{e}=>by
  induction e with
  |nil=>intro _;trivial
  |cons p e K=>
   intro c;exact⟨rfl,G p.2 (by simp[dd];exact⟨p.1,hM.1 (c p (by simp))⟩),K λq A=>c q (km _ A)⟩
 have k:∀i v,(i,v)∈(f.toList.map λp=>(p.1,pv B (pe E p.2)))->∀h,v≠ .bu h:=λi v L h=>by
  obtain⟨p,b,j⟩:=ng.1 L;injection j with _ j
  rw[<-j];exact zk (y p b) h
 have s:(z.toList.map jq).all PV.one=true:=by rw[<-r8 B];exact oK F
 unfold placesOf at a
 split at a
 .rename_i S C;injection a with a
  subst a;have c:=ahR (P:=P) (E:=aU B g) (H:=av B w) (d:=d) (ty:=ty) (pos:=pos) (aft:=aft) (gd:=c6) (t:=t) (zs:=z.toList) (by simpa using m) (r8 B _).symm (by rw[r8];exact s) C (u λp b=>b) k
   (Ko (λi p b=>by rw[cJ] at b;simpa using b) n)
  rw[j4] at c;exact c
 .split at a
  .rename_i N O M
   split at a
   .rename_i Q J;injection a with a
    subst a;have c:=VH (P:=P) (E:=aU B g) (H:=av B w) (d:=d) (ty:=ty) (pos:=pos) (aft:=aft) (gd:=c6) (t:=t) (zs:=z.toList) (by simpa using m) (r8 B _).symm (by rw[r8];exact s) M J (u λp b=>b) k
     (Ko (λi p b=>by rw[RI b,gx]) n)
    rw[j4] at c;exact c
   .cases a
  .cases a
end
end Go.X
namespace Go.Bml
open Go
inductive Wf (f:Nat->Nat->Prop):PV->Prop
 |any:Wf f .any
 |bool (b:Bool):Wf f (.bool b)
 |int (k:IntKind) (m:Int):Wf f (.int k m)
 |str (s:ByteArray):Wf f (.str s)
 |fS:Wf f .fS
 |bg:Wf f .bg
 |z0:Wf f .z0
 |dB:Wf f .dB
 |dw (cs:List PV) (j:Nat):Wf f (.dw cs j)
 |vs (sz:Nat) (es:List PV):Wf f (.vs sz es)
 |ptr (r v i j:Nat) (h:f r v):Wf f (.ptr r v i j)
 |sl (r v off len:Nat) (h:f r v):Wf f (.sl r v off len)
 |fl (r v:Nat) (h:f r v):Wf f (.fl r v)
 |agg (cs:List PV) (h:∀c,c∈cs->Wf f c):Wf f (.agg cs)
 |bu (cs:List PV) (h:∀c,c∈cs->Wf f c):Wf f (.bu cs)
 |fn (g:Nat) (cs ds:List PV) (h:∀c,c∈cs->Wf f c) (h2:∀c,c∈ds->Wf f c):Wf f (.fn g cs ds)
section
variable {g g':Gh}{H H':List aO}{w w':World}
def qB{p:PV->Prop}{b:List PV}{c:List Value}(j:b.length=c.length)(e:∀(i:Nat) (a:PV) (d:Value),b[i]?=c4 a->c[i]?=c4 d->p a):∀a,a∈b->p a:=λa f=>by
 obtain⟨i,h,rfl⟩:=ej f;exact e i _ _ (c5 h) (c5 (by omega))
def VI.wf{F:Nat->Prop}{f:Nat->Nat->Prop}{c:PV}{x:Value}(h:VI F w c x):Wf f c:=by
 induction h with
 |any x=>exact .any
 |bool b=>exact .bool b
 |int k n=>exact .int k n
 |str s=>exact .str s
 |fS=>exact .fS
 |bg=>exact .bg
 |z0 a=>exact .z0
 |dB=>exact .dB
 |dw e B b off o y D u l d=>exact .dw e B
 |eX sz a cap=>exact .vs sz []
 |vs sz es b off cap o j y I D u l d=>exact .vs sz es
 |agg e m j l d=>exact .agg e (qB j d)
 |bu e m j l d=>exact .bu e (qB j d)
 |fn f e C m G j l t E d A=>exact .fn f e C (qB j d) (qB t A)
def VR.wf{c:PV}{x:Value}(h:VR g H w c x):Wf (λr v=>∃e,H[r]?=c4 e/\v<=e.aF) c:=by
 induction h with
 |aW h=>exact h.wf
 |ptr r v i u e a j d D=>exact .ptr r v i u ⟨e,j,d⟩
 |sl r v off len e x j d s A=>exact .sl r v off len ⟨e,j,d⟩
 |fl r v e x j d s A=>exact .fl r v ⟨e,j,d⟩
 |agg m n k d l=>exact .agg m (qB k l)
 |bu m n k d l=>exact .bu m (qB k l)
 |fn f m y n C k d o B l t=>exact .fn f m y (qB k l) (qB o t)
def VR.uz{f:Nat->Nat->Prop}(R:∀b,g.F b->g'.F b)(N:∀b,g.F b->w'.heap[b]?=w.heap[b]?)
 (L:∀r v d,f r v->H[r]?=c4 d->v<=d.aF->∃j,H'[r]?=c4 j/\v<=j.aF/\(v=j.aF->v=d.aF/\j.sz=d.sz/\j.es.length=d.es.length/\g'.β r=g.β r))
 {c:PV} {x:Value} (h:VR g H w c x) (o:Wf f c):VR g' H' w' c x:=by
 induction h with
 |aW h=>exact .aW (h.mono R N)
 |ptr r v i M d a A m U=>
  cases o with
  |ptr _ _ _ _ E=>
   obtain⟨j,s,G,t⟩:=L r v d E A m;refine .ptr r v i M j a s G λe=>?_
   obtain⟨u,J,n,B⟩:=t e;rw[J,n,B];exact U u
 |sl r v off len d x A m K k=>
  cases o with
  |sl _ _ _ _ E=>
   obtain⟨j,s,G,t⟩:=L r v d E A m;refine .sl r v off len j x s G K λe=>?_
   obtain⟨u,J,n,B⟩:=t e;exact(k u).step J n B
 |fl r v d x A m K k=>
  cases o with
  |fl _ _ E=>
   obtain⟨j,s,G,t⟩:=L r v d E A m;refine .fl r v j x s G K λe=>?_
   obtain⟨u,J,n,B⟩:=t e;rw[n];exact(k u).step J n B
 |agg y F C m I=>cases o with |agg _ D=>exact .agg y F C λi c x l k=>I i c x l k (D c (dT l))
 |bu y F C m I=>cases o with |bu _ D=>exact .bu y F C λi c x l k=>I i c x l k (D c (dT l))
 |fn f y Q F T C m O V I S=>
  cases o with
  |fn _ _ _ D P=>exact .fn f y Q F T C (λi c x l k=>I i c x l k (D c (dT l))) O (λi c x l k=>S i c x l k (P c (dT l)))
def VR.re{f:Nat->Nat->Prop}(k:∀b,g.F b->g'.F b)
 (j:∀r v a,f r v->H[r]?=c4 a->v<=a.aF->∃d,H'[r]?=c4 d/\v<=d.aF/\(v=d.aF->v=a.aF/\d.sz=a.sz/\d.es.length=a.es.length/\g'.β r=g.β r))
 {c:PV} {x:Value} (h:VR g H w c x) (e:Wf f c):VR g' H' w c x:=VR.uz k (λ_ _=>rfl) j h e
def dj(g:Gh)(d:Nat->Option Nat)(a:Nat->Prop):Gh:={F:=λb=>g.F b\/∃r c,a r/\g.β r=c4 (b,c),β:=λq=>(d q).bind g.β}
def bF.re(o:bF g H w){a:Nat->Option Nat}{fz:Nat->Prop}(af:∀r,fz r->∀q,a q≠c4 r)(inj:∀q u r,a q=c4 r->a u=c4 r->q=u)(m8:∀q r,a q=c4 r->q<H'.length)
 (obj:∀q d,H'[q]?=c4 d->0<d.sz/\(∀(i:Nat) (e:PV),d.es[i]?=c4 e->e.cells.length=d.sz)/\(a q=c6->d.es=[])/\
  ∀r,a q=c4 r->∃l,H[r]?=c4 l/\d.ty=l.ty/\d.sz=l.sz/\d.es.length=l.es.length/\∀i n t,abk d.es i n=c4 t->∃c,abk l.es i n=c4 c/\∀s,VR g H w c s->VR (dj g a fz) H' w t s):
 bF (dj g a fz) H' w:=by
 have y:∀{q b C},(dj g a fz).β q=c4 (b,C)->∃r,a q=c4 r/\g.β r=c4 (b,C):=λ{q b C} h=>by
  show ∃r,a q=c4 r/\_
  have m:(a q).bind g.β=c4 (b,C):=h;cases k:a q with
  |none=>rw[k] at m;cases m
  |some r=>rw[k] at m;exact⟨r,rfl,m⟩
 refine⟨λb j=>?_,λq u b C G h m=>?_,λq b C h=>?_,λq d W=>?_⟩
 .rcases j with j |⟨r,C,_,j⟩
  .exact o.fb b j
  .exact o.qD j
 .obtain⟨r,A,K⟩:=y h;obtain⟨I,X,T⟩:=y m;obtain rfl:=o.inj r I b C G K T;exact inj q u r A X
 .obtain⟨r,A,_⟩:=y h;exact m8 q r A
 .obtain⟨E,ac,O,Q⟩:=obj q d W;refine⟨E,ac,?_⟩
  cases k:a q with
  |none=>
   have:(dj g a fz).β q=c6:=by show(a q).bind g.β=c6;rw[k];rfl
   rw[this];exact O k
  |some r=>
   have N:(dj g a fz).β q=g.β r:=by show(a q).bind g.β=_;rw[k];rfl
   rw[N];obtain⟨l,U,P,D,B,V⟩:=Q r k;have x:=(o.obj r l U).mem;cases j:g.β r with
   |none=>
    rw[j] at x;exact e5 (by rw[B,x];rfl)
   |some R=>
    obtain⟨b,C⟩:=R;rw[j] at x;obtain⟨Y,cells,J,M,ae,Z,F⟩:=x;refine⟨?_,cells,by rw[P];exact J,by rw[D];exact M,ae,by rw[B];exact Z,λi n t ag=>?_⟩
    .rintro(S |⟨r2,C2,ab,aa⟩)
     .exact Y S
     .obtain rfl:=o.inj r r2 b C C2 j aa;exact af _ ab q k
    .obtain⟨c,L,ad⟩:=V i n t ag;obtain⟨s,u1,u2,u3⟩:=F i n c L;exact⟨s,by rw[D];exact u1,u2,ad s u3⟩
def GStep.re{n:Nat}{j:Nat->Option Nat}{fz:Nat->Prop}(s:∀r c,r<n->H[r]?=c4 c->∃d,H'[r]?=c4 d/\c.aF<=d.aF/\(d.aF=c.aF->j r=c4 r/\d.sz=c.sz/\d.es.length=c.es.length)):GStep n g H w (dj g j fz) H' w:=by
 refine⟨rfl,rfl,rfl,ef _,λ_ h=>.inl h,λ_ _=>rfl,λ_ _ _=>rfl,λb a=>?_,λq b C a=>?_,λr c y t=>?_⟩
 .rcases a with a |⟨r,C,_,a⟩
  .exact .inl a
  .exact .inr (.inr ⟨r,C,a⟩)
 .have k:(j q).bind g.β=c4 (b,C):=a;cases l:j q with
  |none=>rw[l] at k;cases k
  |some r=>rw[l] at k;exact .inr ⟨r,C,k⟩
 .obtain⟨d,m,o,u⟩:=s r c y t;refine⟨d,m,o,λe=>?_⟩
  obtain⟨A,B,x⟩:=u e;exact⟨B,x,by show(j r).bind g.β=_;rw[A];rfl⟩
end
end Go.Bml
