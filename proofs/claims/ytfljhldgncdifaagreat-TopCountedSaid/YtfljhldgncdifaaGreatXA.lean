/- For TopCounted, part 1. -/
import Derived.WalkKit
import Derived.Maps.AppendAt
import Derived.Orders
import Derived.Deep.LoopGhost
import Derived.Laws.MakeOwn
import Derived.Laws.BytesArg
import Derived.Laws.StructEq
import Derived.Laws.Slices
set_option linter.defProp false
set_option linter.unusedVariables false
set_option linter.unusedSimpArgs false
open Decidable renaming decide → c3
open Option renaming some → c4, none → c6, bind_eq_some_iff → ec, bind_some → hU, map_none → ie, isSome_iff_exists → m6, map_some → o1
open List renaming getElem?_eq_getElem → c5, getElem?_eq_some_iff → c7, length_map → dk, getElem?_append_right → dt, getElem?_append_left → dv, mem_of_getElem? → dT, getElem?_take_of_lt → e0, eq_nil_of_length_eq_zero → e5, getElem?_map → e6, getElem?_drop → ea, getElem?_set_self → ee, getElem_of_mem → ej, getElem?_set_ne → ey, append_assoc → eE, length_append → eH, length_take → ft, getElem?_take → h6, all_eq_true → h7, getElem?_range → h9, replicate → hB, getElem?_eq_none → hI, eq_of_mem_replicate → hQ, take_of_length_le → hY, length_drop → j5, map_drop → j7, map_take → j8, mem_singleton → k0, size_toArray → kc, getElem?_toArray → kd, mem_cons_of_mem → km, length_nil → l0, extract_eq_take_drop → m0, flatMap_cons → m5, map_cons → ma, mem_cons → mb, length_cons → my, range → n2, mem_map → ng, nil_append → o2, length_set → o3, take_zero → o7, length_pos_iff → o9, map_replicate → oo, append_nil → q4, map_set → r0
open Go.Op renaming operands → dd, equalIn → j9, binOp → la, equal → mx, intArith → o4, call → o8, eqFields → q2
open Nat renaming beq → e4, le_refl → ef, le_of_ble_eq_true → ei, add_mul → eo, mul_le_mul_right → ev, le_mul_of_pos_right → ga, zero_add → gx, eq_of_beq_eq_true → h5, le_trans → hq, ble → hK, succ_eq_add_one → hS, one_mul → hX, add_assoc → j1, add_sub_cancel_left → k6, beq_refl → k7, add_zero → l1, mul_comm → l2, succ_pos → l3, lt_of_lt_of_le → l4, blt → m1, lt_or_ge → oq, mod_eq_of_lt → p0, lt_succ_self → p7, zero_le → pc, mul_add_mod → q3, mod_lt → q5, zero_mul → qq
open Go.Result renaming andThen_ok → ez
open Array renaming getElem?_toList → fe, length_toList → gy, mem_toList_iff → hM, getD_eq_getD_getElem? → j2, toArray_toList → j4, getElem?_eq_none → k8, size_append → oS
open Go.Sem renaming run_bind → gb, run_pure → hz
open Go.RowKit.Below renaming heap_alloc → gv
open Go.Addr renaming add_lit → h8
open Go.Instr renaming sureAddr → hD, sliceBounds → j3, sliceAt → j6, sliceBound → kh, fill → kl, slice → m3, loadAt → n1, indexAt → oi, buildSlice → p6, fieldAt → q7, field → r3
open Go.Builtin renaming append_ → hL, zeroCells → m2
open Go.Call renaming operands → hP
open Go.Region renaming wanted → ih
open Option.some renaming injEq → m4
open Go.Oper renaming wp → n0
open Go.Value renaming cells → o6, ownBlock → q6
open Bool renaming false_eq_true → oj, and_eq_true → p4
open Go.Program renaming built → q8
open Go.Exit renaming inBlock → qa
open Ne renaming symm → qb
open Go.Act renaming put → r4
namespace Go.Aml
open Go
def qQ{a d:Type}{e:Option a}{c:a->Option d}{r:d}(f:e.bind c=c4 r):∃b,e=c4 b/\c b=c4 r:=ec.1 f
def aj{a:Type}(b:List a)(i:Int):Option a:=if 0<=i then b[i.toNat]? else c6
def xd{d:Type}{c:List d}{i:Int}{b:d}(a:aj c i=c4 b):i=(i.toNat:Int)/\c[i.toNat]?=c4 b:=by
 unfold aj at a
 split at a
 .exact⟨by omega,a⟩
 .cases a
def eG{d:Type}(c:List d)(a b:Int):Option (List d):=if 0<=a/\a<=b/\b<=(c.length:Int) then c4 ((c.take b.toNat).drop a.toNat) else c6
def Kt{d:Type}{l:List d}{a b:Int}{e:List d}(h:eG l a b=c4 e):0<=a/\a<=b/\b<=(l.length:Int)/\(l.take b.toNat).drop a.toNat=e:=by
 unfold eG at h
 split at h
 .rename_i c;exact⟨c.1,c.2.1,c.2.2,by injection h⟩
 .cases h
def ph(c:IntKind)(a b:Int):Option Int:=if b=0 then c6 else c4 (c.wrap (a.tdiv b))
def agK{d:IntKind}{c b r:Int}(a:ph d c b=c4 r):b≠0/\d.wrap (c.tdiv b)=r:=by
 unfold ph at a
 split at a
 .cases a
 .rename_i e;exact⟨e,by injection a⟩
def nG(a b:Int):Option Int:=if b=0 then c6 else c4 (a.tmod b)
def Yg{c b r:Int}(a:nG c b=c4 r):b≠0/\c.tmod b=r:=by
 unfold nG at a
 split at a
 .cases a
 .rename_i d;exact⟨d,by injection a⟩
def uU(a:IntKind)(c b:Int):Option Int:=if 0<=b then c4 (a.wrap (c*2^ (min b.toNat a.bits))) else c6
def alN{c:IntKind}{d b r:Int}(a:uU c d b=c4 r):0<=b/\c.wrap (d*2^ (min b.toNat c.bits))=r:=by
 unfold uU at a
 split at a
 .rename_i e;exact⟨e,by injection a⟩
 .cases a
def iN(c:IntKind)(a b:Int):Option Int:=if 0<=b then c4 (a.fdiv (2^ (min b.toNat c.bits))) else c6
def adR{d:IntKind}{c b r:Int}(a:iN d c b=c4 r):0<=b/\c.fdiv (2^ (min b.toNat d.bits))=r:=by
 unfold iN at a
 split at a
 .rename_i e;exact⟨e,by injection a⟩
 .cases a
def bj{c:Type}(d:Nat)(a b:List c):Option (List c):=if(a.length+b.length)*d<=140737488355328 then c4 (a++b) else c6
def AN{g:Type}{e:Nat}{c b d:List g}(a:bj e c b=c4 d):(c.length+b.length)*e<=140737488355328/\c++b=d:=by
 unfold bj at a
 split at a
 .rename_i f;exact⟨f,by injection a⟩
 .cases a
def gP{b:Type}(c:Nat)(z:b)(a:Int):Option (List b):=if 0<=a/\a.toNat*c<=140737488355328 then c4 (hB a.toNat z) else c6
def SF{c:Type}{d:Nat}{z:c}{a:Int}{e:List c}(b:gP d z a=c4 e):a=(a.toNat:Int)/\a.toNat*d<=140737488355328/\hB a.toNat z=e:=by
 unfold gP at b
 split at b
 .rename_i f;exact⟨by omega,f.2,by injection b⟩
 .cases b
def fY{a b:Type}(f:a->Option (a⊕b)):Nat->a->Option b
 |0,_=>c6
 |d+1,c=>(f c).bind λe=>e.elim (fY f d) c4
def RC{d g:Type}{f:d->Option (d⊕g)}:∀{n:Nat} {c:d} {b:g},fY f n c=c4 b->fY f (n+1) c=c4 b
 |0,_,_,a=>by simp[fY] at a
 |n+1,c,b,a=>by
  unfold fY at a⊢;obtain⟨i,h,e⟩:=qQ a;rw[h];cases i with
  |inl j=>exact RC (n:=n) e
  |inr k=>exact e
def Sn{a d:Type}{f:a->Option (a⊕d)}{e g:Nat}{c:a}{b:d}(i:fY f e c=c4 b)(h:e<=g):fY f g c=c4 b:=by
 induction h with
 |refl=>exact i
 |step _ j=>exact RC j
noncomputable def bO{a c:Type}(f:a->Option (a⊕c))(b:a):Option c:=
 open Classical in if d:∃e,(fY f e b).isSome then fY f d.choose b else c6
def Cd{d i:Type}{f:d->Option (d⊕i)}{n:Nat}{c:d}{b:i}(g:fY f n c=c4 b):bO f c=c4 b:=by
 have a:∃n,(fY f n c).isSome:=⟨n,by rw[g];rfl⟩;unfold bO;rw[dif_pos a];obtain⟨k,e⟩:=m6.1 a.choose_spec;rw[e];have j:=Sn g (Nat.le_max_left n a.choose);have h:=Sn e (Nat.le_max_right n a.choose);rw[j] at h;exact h.symm
def zR{c e:Type}{f:c->Option (c⊕e)}{d:c}{b:e}(a:bO f d=c4 b):∃g,fY f g d=c4 b:=by
 unfold bO at a
 split at a
 .exact⟨_,a⟩
 .cases a
def Qk{i m:Type}(f:i->Option (i⊕m))(e:i):bO f e=(f e).bind λa=>a.elim (bO f) c4:=by
 have j:∀b,bO f e=c4 b↔((f e).bind λa=>a.elim (bO f) c4)=c4 b:=by
  intro b
  constructor
  .intro c;obtain⟨n,g⟩:=zR c;cases n with
   |zero=>simp[fY] at g
   |succ n=>
    unfold fY at g;obtain⟨a,h,d⟩:=qQ g;rw[h];cases a with
    |inl k=>exact Cd (n:=n) d
    |inr l=>exact d
  .intro c;obtain⟨a,h,d⟩:=qQ c;cases a with
   |inl k=>
    obtain⟨n,g⟩:=zR (show bO f k=c4 b from d);refine Cd (n:=n+1) ?_
    unfold fY;rw[h];exact g
   |inr l=>
    refine Cd (n:=1) ?_
    unfold fY;rw[h];exact d
 cases c:bO f e with
 |none=>
  cases d:(f e).bind λa=>a.elim (bO f) c4 with
  |none=>rfl
  |some b=>rw[(j b).2 d] at c;cases c
 |some b=>exact((j b).1 c).symm
structure Lp where
 loop:{α β:Type}->(α->Option (α⊕β))->α->Option β
 ok:∀{α β:Type} (f:α->Option (α⊕β)) (a:α) (b:β),loop f a=c4 b->∃n,fY f n a=c4 b
@[reducible] noncomputable def LC:Lp:=⟨bO,λ_ _ _ a=>zR a⟩
@[reducible] def LN(a:Nat):Lp:=⟨λf c=>fY f a c,λ_ _ _ b=>⟨a,b⟩⟩
end Go.Aml
namespace Go.Bml
open Go
inductive PV:Type where
 |any
 |bool (b:Bool)
 |int (k:IntKind) (n:Int)
 |str (s:ByteArray)
 |fS
 |ptr (r v i j:Nat)
 |dw (cs:List PV) (j:Nat)
 |bg
 |z0
 |vs (sz:Nat) (es:List PV)
 |sl (r v off len:Nat)
 |fl (r v:Nat)
 |agg (cs:List PV)
 |bu (vs:List PV)
 |fn (f:Nat) (first cap:List PV)
 |dB
 deriving Inhabited
def PV.cells:PV->List PV
 | .agg a=>a
 |v=>[v]
def abk(a:List PV)(i b:Nat):Option PV:=(a[i]?).bind λc=>c.cells[b]?
structure aO where
 ty:Nat
 sz:Nat
 es:List PV
 aF:Nat
structure Gh where
 F:Nat->Prop
 β:Nat->Option (Nat×Nat)
inductive VI (F:Nat->Prop) (w:World):PV->Value->Prop
 |any (x:Value):VI F w .any x
 |bool (b:Bool):VI F w (.bool b) (.bool b)
 |int (k:IntKind) (n:Int):VI F w (.int k n) (.int k n)
 |str (s:ByteArray):VI F w (.str s) (.string s)
 |fS:VI F w .fS (.pointer c6)
 |bg:VI F w .bg (.slice c6 0 0)
 |z0 (a:Option Addr):VI F w .z0 (.slice a 0 0)
 |dB:VI F w .dB .nilFunc
 |dw (cs:List PV) (j b off:Nat) (u:Nat->Value) (hF:F b)
  (hc:∀(i:Nat) (c:PV),cs[i]?=c4 c->w.cell? ⟨b,off+i,c6⟩=c4 (u i))
  (h1:∀(i:Nat) (c:PV),cs[i]?=c4 c->(u i).oneCell'=true)
  (hv:∀(i:Nat) (c:PV),cs[i]?=c4 c->VI F w c (u i)):VI F w (.dw cs j) (.pointer (c4 ⟨b,off+j,c6⟩))
 |eX (sz:Nat) (a:Option Addr) (cap:Nat):VI F w (.vs sz []) (.slice a 0 cap)
 |vs (sz:Nat) (es:List PV) (b off cap:Nat) (u:Nat->Nat->Value) (hl:es.length<=cap) (hF:F b)
  (hsz:∀(i:Nat) (e:PV),es[i]?=c4 e->e.cells.length=sz)
  (hc:∀(i j:Nat) (c:PV),abk es i j=c4 c->w.cell? ⟨b,off+(i*sz+j),c6⟩=c4 (u i j))
  (h1:∀(i j:Nat) (c:PV),abk es i j=c4 c->(u i j).oneCell'=true)
  (hv:∀(i j:Nat) (c:PV),abk es i j=c4 c->VI F w c (u i j)):VI F w (.vs sz es) (.slice (c4 ⟨b,off,c6⟩) es.length cap)
 |agg (cs:List PV) (xs:List Value) (hl:cs.length=xs.length) (hv:∀(i:Nat) (c:PV) (x:Value),cs[i]?=c4 c->xs[i]?=c4 x->VI F w c x):VI F w (.agg cs) (.agg xs.toArray)
 |bu (cs:List PV) (xs:List Value) (hl:cs.length=xs.length) (hv:∀(i:Nat) (c:PV) (x:Value),cs[i]?=c4 c->xs[i]?=c4 x->VI F w c x):VI F w (.bu cs) (.tuple xs.toArray)
 |fn (f:Nat) (cs ds:List PV) (xs ys:List Value) (hl:cs.length=xs.length) (hv:∀(i:Nat) (c:PV) (x:Value),cs[i]?=c4 c->xs[i]?=c4 x->VI F w c x)
  (hl2:ds.length=ys.length) (hv2:∀(i:Nat) (c:PV) (x:Value),ds[i]?=c4 c->ys[i]?=c4 x->VI F w c x):VI F w (.fn f cs ds) (.func (.func f) xs.toArray ys.toArray)
def SL(g:Gh)(e:aO)(r c len:Nat)(d:Value):Prop:=
 c+len<=e.es.length/\
 match g.β r with
 |none=>c=0/\len=0/\∃a,d= .slice a 0 0
 |some (b,f)=>∃cap a,d= .slice a len cap/\len<=cap/\(len≠0->a=c4 ⟨b,c*e.sz,c6⟩)/\(c=0->a=c4 ⟨b,0,c6⟩/\cap=f)
inductive VR (g:Gh) (H:List aO) (w:World):PV->Value->Prop
 |aW {c:PV} {x:Value} (h:VI g.F w c x):VR g H w c x
 |ptr (r v i j:Nat) (o:aO) (a:Addr) (ho:H[r]?=c4 o) (hv:v<=o.aF)
  (ha:v=o.aF->i<o.es.length/\∃b C,g.β r=c4 (b,C)/\a=⟨b,i*o.sz+j,c6⟩):VR g H w (.ptr r v i j) (.pointer (c4 a))
 |sl (r v off len:Nat) (o:aO) (x:Value) (ho:H[r]?=c4 o) (hv:v<=o.aF) (h1:x.oneCell'=true) (hx:v=o.aF->SL g o r off len x):VR g H w (.sl r v off len) x
 |fl (r v:Nat) (o:aO) (x:Value) (ho:H[r]?=c4 o) (hv:v<=o.aF) (h1:x.oneCell'=true) (hx:v=o.aF->SL g o r 0 o.es.length x):VR g H w (.fl r v) x
 |agg (cs:List PV) (xs:List Value) (hl:cs.length=xs.length) (hv:∀(i:Nat) (c:PV) (x:Value),cs[i]?=c4 c->xs[i]?=c4 x->VR g H w c x):VR g H w (.agg cs) (.agg xs.toArray)
 |bu (cs:List PV) (xs:List Value) (hl:cs.length=xs.length) (hv:∀(i:Nat) (c:PV) (x:Value),cs[i]?=c4 c->xs[i]?=c4 x->VR g H w c x):VR g H w (.bu cs) (.tuple xs.toArray)
 |fn (f:Nat) (cs ds:List PV) (xs ys:List Value) (hl:cs.length=xs.length) (hv:∀(i:Nat) (c:PV) (x:Value),cs[i]?=c4 c->xs[i]?=c4 x->VR g H w c x)
  (hl2:ds.length=ys.length) (hv2:∀(i:Nat) (c:PV) (x:Value),ds[i]?=c4 c->ys[i]?=c4 x->VR g H w c x):VR g H w (.fn f cs ds) (.func (.func f) xs.toArray ys.toArray)
inductive cE (n:Nat):PV->Prop
 |any:cE n .any
 |bool (b:Bool):cE n (.bool b)
 |int (k:IntKind) (m:Int):cE n (.int k m)
 |str (s:ByteArray):cE n (.str s)
 |fS:cE n .fS
 |bg:cE n .bg
 |z0:cE n .z0
 |dB:cE n .dB
 |dw (cs:List PV) (j:Nat):cE n (.dw cs j)
 |vs (sz:Nat) (es:List PV):cE n (.vs sz es)
 |ptr (r v i j:Nat) (h:r<n):cE n (.ptr r v i j)
 |sl (r v off len:Nat) (h:r<n):cE n (.sl r v off len)
 |fl (r v:Nat) (h:r<n):cE n (.fl r v)
 |agg (cs:List PV) (h:∀c,c∈cs->cE n c):cE n (.agg cs)
 |bu (cs:List PV) (h:∀c,c∈cs->cE n c):cE n (.bu cs)
 |fn (f:Nat) (cs ds:List PV) (h:∀c,c∈cs->cE n c) (h2:∀c,c∈ds->cE n c):cE n (.fn f cs ds)
structure qT (g:Gh) (H:List aO) (w:World) (r:Nat) (o:aO):Prop where
 pos:0<o.sz
 width:∀(i:Nat) (e:PV),o.es[i]?=c4 e->e.cells.length=o.sz
 mem:match g.β r with
  |none=>o.es=[]
  |some (b,C)=>¬g.F b/\∃cells,w.heap[b]?=c4 (.cells cells o.ty (0,0))/\cells.size=C*o.sz/\C<=maxLen/\o.es.length<=C/\
   ∀(i j:Nat) (c:PV),abk o.es i j=c4 c->∃u,cells[i*o.sz+j]?=c4 u/\u.oneCell'=true/\VR g H w c u
structure bF (g:Gh) (H:List aO) (w:World):Prop where
 fb:∀b,g.F b->b<w.heap.size
 inj:∀r r' b C C',g.β r=c4 (b,C)->g.β r'=c4 (b,C')->r=r'
 m8:∀r b C,g.β r=c4 (b,C)->r<H.length
 obj:∀r o,H[r]?=c4 o->qT g H w r o
abbrev Env:=List (Nat×PV)
def look:Env->Nat->PV
 |[],_=>.any
 |(b,v)::r,a=>bif e4 b a then v else look r a
def jq:Value->PV
 | .bool b=>.bool b
 | .int d a=>.int d a
 | .string c=>.str c
 | .pointer c6=>.fS
 | .slice c6 0 0=>.bg
 | .nilFunc=>.dB
 |_=>.any
def kP:Value->PV
 | .agg a=>.agg (a.toList.map jq)
 |v=>jq v
def PE(b:Env):Operand->PV
 | .tmp a=>look b a
 | .const v=>kP v
 | .global _=>.any
 | .func f=>.fn f [] []
structure fI (g:Gh) (H:List aO) (w:World) (nt:Nat) (E:Env) (a:Act):Prop where
 defers:a.defers=[]
 size:a.tmps.size=nt
 at_:∀t,VR g H w (look E t) (a.tmps.getD t undef)
structure Rel (g:Gh) (nt:Nat) (E:Env) (H:List aO) (a:Act) (w:World):Prop where
 m:bF g H w
 e:fI g H w nt E a
structure GStep (n:Nat) (g:Gh) (H:List aO) (w:World) (g':Gh) (H':List aO) (w':World):Prop where
 os:w'.os=w.os
 tape:w'.tape=w.tape
 output:w'.output=w.output
 size:w.heap.size<=w'.heap.size
 F:∀b,g.F b->g'.F b
 jh:∀b,g.F b->w'.heap[b]?=w.heap[b]?
 rest:∀b,b<w.heap.size->(∀r C,g.β r≠c4 (b,C))->w'.heap[b]?=w.heap[b]?
 oY:∀b,g'.F b->g.F b\/w.heap.size<=b\/∃r C,g.β r=c4 (b,C)
 oZ:∀r b C,g'.β r=c4 (b,C)->w.heap.size<=b\/∃r' C',g.β r'=c4 (b,C')
 dF:∀r o,r<n->H[r]?=c4 o->∃o',H'[r]?=c4 o'/\o.aF<=o'.aF/\(o'.aF=o.aF->o'.sz=o.sz/\o'.es.length=o.es.length/\g'.β r=g.β r)
def GStep.refl(n:Nat)(g:Gh)(H:List aO)(a:World):GStep n g H a g H a:=
 ⟨rfl,rfl,rfl,ef _,λ_ h=>h,λ_ _=>rfl,λ_ _ _=>rfl,λ_ h=>.inl h,λr _ C h=>.inr ⟨r,C,h⟩,λ_ c _ h=>⟨c,h,ef _,λ_=>⟨rfl,rfl,rfl⟩⟩⟩
def GStep.trans{n:Nat}{g s u:Gh}{H t y:List aO}{m w' j:World}(h:GStep n g H m s t w')(k:GStep n s t w' u y j):GStep n g H m u y j:=by
 refine⟨k.os.trans h.os,k.tape.trans h.tape,k.output.trans h.output,hq h.size k.size,λb c=>k.F b (h.F b c),λb c=>(k.jh b (h.F b c)).trans (h.jh b c),λb c x=>?_,λb c=>?_,λr b C c=>?_,?_⟩
 .refine(k.rest b (l4 c h.size) λr C F=>?_).trans (h.rest b c x)
  rcases h.oZ r b C F with a |⟨o,e,a⟩
  .omega
  .exact x _ _ a
 .rcases k.oY b c with a |a |⟨r,C,a⟩
  .exact h.oY b a
  .exact .inr (.inl (hq h.size a))
  .exact .inr (h.oZ r b C a)
 .rcases k.oZ r b C c with a |⟨o,e,a⟩
  .exact .inl (hq h.size a)
  .exact h.oZ o b e a
 intro r A l E;obtain⟨d,Q,I,K⟩:=h.dF r A l E;obtain⟨w,G,L,M⟩:=k.dF r d l Q;refine⟨w,G,hq I L,λhe=>?_⟩
 have N:d.aF=A.aF:=by omega
 have B:w.aF=d.aF:=by omega
 obtain⟨a1,J,R⟩:=K N;obtain⟨O,P,D⟩:=M B;exact⟨O.trans a1,P.trans J,D.trans R⟩
def GStep.less{n m:Nat}{g a:Gh}{H d:List aO}{c w':World}(h:GStep n g H c a d w')(k:m<=n):GStep m g H c a d w':=
 ⟨h.os,h.tape,h.output,h.size,h.F,h.jh,h.rest,h.oY,h.oZ,λr j l e=>h.dF r j (by omega) e⟩
def GStep.every{n:Nat}{g a:Gh}{H e:List aO}{d w':World}(h:GStep H.length g H d a e w'):GStep n g H d a e w':=
 ⟨h.os,h.tape,h.output,h.size,h.F,h.jh,h.rest,h.oY,h.oZ,λr j _ c=>h.dF r j (c7.1 c).1 c⟩
def oW{d:Nat->Prop}{f e:World}(h:∀b,d b->e.heap[b]?=f.heap[b]?){b c:Nat}(g:d b):e.cell? ⟨b,c,c6⟩=f.cell? ⟨b,c,c6⟩:=
 World.cell?_of_block (a:=⟨b,c,c6⟩) (h b g)
def VI.mono{F B:Nat->Prop}{w C:World}(E:∀b,F b->B b)(D:∀b,F b->C.heap[b]?=w.heap[b]?){c:PV}{x:Value}(h:VI F w c x):VI B C c x:=by
 induction h with
 |any x=>exact .any x
 |bool b=>exact .bool b
 |int k n=>exact .int k n
 |str s=>exact .str s
 |fS=>exact .fS
 |bg=>exact .bg
 |z0 a=>exact .z0 a
 |dB=>exact .dB
 |dw j t b off u l y A o d=>exact .dw j t b off u (E b l) (λi c hi=>(oW D l).trans (y i c hi)) A d
 |eX sz a cap=>exact .eX sz a cap
 |vs sz es b off cap u e l I y A o d=>exact .vs sz es b off cap u e (E b l) I (λi t c hi=>(oW D l).trans (y i t c hi)) A d
 |agg j m e o d=>exact .agg j m e d
 |bu j m e o d=>exact .bu j m e d
 |fn f j G m K e o H L d J=>exact .fn f j G m K e d H J
def SL.step{g d:Gh}{c a:aO}{r off len:Nat}{x:Value}(h:SL g c r off len x)(k:a.sz=c.sz)(e:a.es.length=c.es.length)(j:d.β r=g.β r):SL d a r off len x:=by
 unfold SL at*;rw[k,e,j];exact h
def VR.step{n:Nat}{g g':Gh}{H O:List aO}{w N:World}(G:GStep n g H w g' O N){c:PV}{x:Value}(h:VR g H w c x)(l:cE n c):VR g' O N c x:=by
 induction h with
 |aW h=>exact .aW (h.mono G.F G.jh)
 |ptr r v i Q o a A k V=>
  cases l with
  |ptr _ _ _ _ s=>
   obtain⟨m,L,F,B⟩:=G.dF r o s A;refine .ptr r v i Q m a L (hq k F) λe=>?_
   have X:m.aF=o.aF:=by omega
   obtain⟨K,J,D⟩:=B X;obtain⟨hi,b,C,R,rfl⟩:=V (by omega);exact⟨by omega,b,C,D.trans R,by rw[K]⟩
 |sl r v off len o x A k M j=>
  cases l with
  |sl _ _ _ _ s=>
   obtain⟨m,L,F,B⟩:=G.dF r o s A;refine .sl r v off len m x L (hq k F) M λe=>?_
   obtain⟨K,J,D⟩:=B (by omega);exact(j (by omega)).step K J D
 |fl r v o x A k M j=>
  cases l with
  |fl _ _ s=>
   obtain⟨m,L,F,B⟩:=G.dF r o s A;refine .fl r v m x L (hq k F) M λe=>?_
   obtain⟨K,J,D⟩:=B (by omega);rw[J];exact(j (by omega)).step K J D
 |agg u y t k I=>
  cases l with
  |agg _ E=>exact .agg u y t λi c x d j=>I i c x d j (E c (dT d))
 |bu u y t k I=>
  cases l with
  |bu _ E=>exact .bu u y t λi c x d j=>I i c x d j (E c (dT d))
 |fn f u P y W t k S Y I U=>
  cases l with
  |fn _ _ _ E T=>exact .fn f u P y W t (λi c x d j=>I i c x d j (E c (dT d))) S (λi c x d j=>U i c x d j (T c (dT d)))
def VR.ltN{g:Gh}{H:List aO}{w:World}{c:PV}{x:Value}(h:VR g H w c x):cE H.length c:=by
 induction h with
 |aW h=>
  induction h with
  |any x=>exact .any
  |bool b=>exact .bool b
  |int k n=>exact .int k n
  |str s=>exact .str s
  |fS=>exact .fS
  |bg=>exact .bg
  |z0 a=>exact .z0
  |dB=>exact .dB
  |dw e y b off G D d B l j=>exact .dw e y
  |eX sz a cap=>exact .vs sz []
  |vs sz es b off cap G m D K d B l j=>exact .vs sz es
  |agg e o m l j=>
   refine .agg e λc d=>?_
   obtain⟨i,hi,rfl⟩:=ej d;exact j i _ _ (c5 hi) (c5 (by omega))
  |bu e o m l j=>
   refine .bu e λc d=>?_
   obtain⟨i,hi,rfl⟩:=ej d;exact j i _ _ (c5 hi) (c5 (by omega))
  |fn f e u o I m l E F j A=>
   refine .fn f e u (λc d=>?_) (λc d=>?_)
   .obtain⟨i,hi,rfl⟩:=ej d;exact j i _ _ (c5 hi) (c5 (by omega))
   .obtain⟨i,hi,rfl⟩:=ej d;exact A i _ _ (c5 hi) (c5 (by omega))
 |ptr r v i y C a t l L=>exact .ptr r v i y (c7.1 t).1
 |sl r v off len C x t l B J=>exact .sl r v off len (c7.1 t).1
 |fl r v C x t l B J=>exact .fl r v (c7.1 t).1
 |agg e o m l j=>
  refine .agg e λc d=>?_
  obtain⟨i,hi,rfl⟩:=ej d;exact j i _ _ (c5 hi) (c5 (by omega))
 |bu e o m l j=>
  refine .bu e λc d=>?_
  obtain⟨i,hi,rfl⟩:=ej d;exact j i _ _ (c5 hi) (c5 (by omega))
 |fn f e u o I m l E F j A=>
  refine .fn f e u (λc d=>?_) (λc d=>?_)
  .obtain⟨i,hi,rfl⟩:=ej d;exact j i _ _ (c5 hi) (c5 (by omega))
  .obtain⟨i,hi,rfl⟩:=ej d;exact A i _ _ (c5 hi) (c5 (by omega))
def VR.nZ{g g':Gh}{H d:List aO}{w a:World}(e:GStep H.length g H w g' d a){c:PV}{x:Value}(h:VR g H w c x):VR g' d a c x:=h.step e h.ltN
def fI.step{g d:Gh}{H k:List aO}{j e:World}{c:Nat}{E:Env}{a:Act}(l:GStep H.length g H j d k e)(h:fI g H j c E a):fI d k e c E a:=
 ⟨h.defers,h.size,λt=>(h.at_ t).nZ l⟩
def VR.any{g:Gh}{H:List aO}{w:World}(x:Value):VR g H w .any x:=.aW (.any x)
def KQ(a:Nat->Prop)(b:World)(v:Value):VI a b (jq v) v:=by
 unfold jq
 split <;> first |exact .bool _ |exact .int _ _ |exact .str _ |exact .fS |exact .bg |exact .dB |exact .any _
def AE(F:Nat->Prop)(w:World)(v:Value):VI F w (kP v) v:=by
 unfold kP
 split
 .rename_i b;have:=VI.agg (F:=F) (w:=w) (b.toList.map jq) b.toList (by simp) (λi e c a d=>by
   rw[e6,d] at a;simp at a;subst a;exact KQ F w c)
  simpa using this
 .exact KQ F w v
def fI.eval{g:Gh}{H:List aO}{c:World}{d:Nat}{E:Env}{a:Act}(h:fI g H c d E a)(x:Operand):VR g H c (PE E x) (a.eval x):=by
 cases x with
 |tmp t=>exact h.at_ t
 |const v=>exact .aW (AE _ _ _)
 |global b=>exact .any _
 |func f=>exact .aW (.fn f [] [] [] [] rfl (λ_ _ _ h=>by simp at h) rfl (λ_ _ _ h=>by simp at h))
def ni(a:Nat)(v:PV)(b:Env):look ((a,v)::b) a=v:=by simp[look]
def Ar{b a:Nat}(v:PV)(c:Env)(e:b≠a):look ((b,v)::c) a=look c a:=by
 have:e4 b a=false:=by
  cases d:e4 b a with
  |false=>rfl
  |true=>exact absurd (h5 d) e
 simp[look,this]
def fI.put{g:Gh}{H:List aO}{e:World}{c:Nat}{E:Env}{a:Act}(h:fI g H e c E a){d:Nat}(j:d<c){v:PV}{x:Value}(k:VR g H e v x):fI g H e c ((d,v)::E) (a.put (c4 d) x):=by
 refine⟨h.defers,by simp[r4,h.size],λt=>?_⟩
 by_cases ht:d=t
 .subst ht;rw[ni];have l:d<a.tmps.size:=by rw[h.size];exact j
  simpa[r4,l] using k
 .rw[Ar v E ht];have:=h.at_ t;simpa[r4,Array.getElem?_setIfInBounds_ne ht] using this
def li(a:Env):Option Nat->PV->Env
 |some b,v=>(b,v)::a
 |none,_=>a
def fL(b:Nat):Option Nat->Bool
 |some a=>m1 a b
 |none=>true
def fI.tn{g:Gh}{H:List aO}{c:World}{e:Nat}{E:Env}{a:Act}(h:fI g H c e E a){d:Option Nat}(j:fL e d=true){v:PV}{x:Value}(k:VR g H c v x):fI g H c e (li E d v) (a.put d x):=by
 cases d with
 |none=>exact h
 |some d=>exact h.put (by simpa[fL] using j) k
def vo:Env->Env->Prop
 |[],_=>True
 |(b,v)::r,a=>look a b=v/\vo r a
def vo.look{a E:Env}(h:vo a E)(t:Nat):look a t= .any\/look a t=look E t:=by
 induction a with
 |nil=>exact .inl rfl
 |cons p r e=>
  obtain⟨d,v⟩:=p
  by_cases c:d=t
  .subst c;rw[ni];exact .inr h.1.symm
  .rw[Ar v r c];exact e h.2
def fI.sub{g:Gh}{H:List aO}{c:World}{d:Nat}{E j:Env}{a:Act}(h:fI g H c d E a)(k:vo j E):fI g H c d j a:=
 ⟨h.defers,h.size,λt=>by
  rcases k.look t with e |e
  .rw[e];exact .any _
  .rw[e];exact h.at_ t⟩
abbrev qk:=Env->List aO->Prop
abbrev fE:=Exit->qk
def iX(nt n:Nat)(b:Gh)(H0:List aO)(e:World)(d:qk)(c:Act)(a:World):Prop:=
 ∃E H g,d E H/\Rel g nt E H c a/\GStep n b H0 e g H a
def eI(nt n:Nat)(c:Gh)(H0:List aO)(d:World)(Q:fE):Exit->Act->World->Prop
 | .panic _,_,_=>False
 | .outgrown,_,_=>False
 | .normal,a,b=>iX nt n c H0 d (Q .normal) a b
 | .ret,a,b=>iX nt n c H0 d (Q .ret) a b
 | .exit e,a,b=>iX nt n c H0 d (Q (.exit e)) a b
 | .goto f,a,b=>iX nt n c H0 d (Q (.goto f)) a b
def iX.trans{nt n:Nat}{c e:Gh}{H0 H1:List aO}{k d:World}{j:qk}{a:Act}{l:World}(s:GStep n c H0 k e H1 d)(h:iX nt n e H1 d j a l):iX nt n c H0 k j a l:=by
 obtain⟨E,H,g,t,o,m⟩:=h;exact⟨E,H,g,t,o,s.trans m⟩
def eI.trans{nt n:Nat}{c j:Gh}{H0 H1:List aO}{k d:World}{Q:fE}{e:Exit}{a:Act}{l:World}(m:GStep n c H0 k j H1 d)(h:eI nt n j H1 d Q e a l):eI nt n c H0 k Q e a l:=by
 cases e <;> first |exact iX.trans m h |exact h
def iX.mono{nt n:Nat}{c:Gh}{H0:List aO}{j:World}{e d:qk}{a:Act}{k:World}(s:∀E H,e E H->d E H)(h:iX nt n c H0 j e a k):iX nt n c H0 j d a k:=by
 obtain⟨E,H,g,m,o,l⟩:=h;exact⟨E,H,g,s _ _ m,o,l⟩
def eT(P:Program)(nt n:Nat)(h:Code)(Q:fE)(E:Env)(H:List aO):Prop:=
 ∀g c a,Rel g nt E H c a->∀e:Exit->Act->World->Prop,(∀d b f,eI nt n g H a Q d b f->e d b f)->h.wp P e c a
def gp(P:Program)(nt n:Nat)(i:Array Oper)(h:List Oper)(Q:fE)(E:Env)(H:List aO):Prop:=
 ∀g c a,Rel g nt E H c a->∀e:Exit->Act->World->Prop,(∀d b f,eI nt n g H a Q d b f->e d b f)->wpList P i e h c a
@[reducible] def Ce(a:qk)(Q:fE):fE
 | .normal=>a
 | .exit d=>Q (.exit d)
 | .goto c=>Q (.goto c)
 | .ret=>Q .ret
 | .panic b=>Q (.panic b)
 | .outgrown=>Q .outgrown
@[reducible] def EY(d:Nat)(Q:fE):fE
 | .exit a=>bif e4 a d then Q .normal else Q (.exit a)
 | .normal=>Q .normal
 | .goto c=>Q (.goto c)
 | .ret=>Q .ret
 | .panic b=>Q (.panic b)
 | .outgrown=>Q .outgrown
section
variable {P:Program}{nt n:Nat}{Q:fE}{E:Env}{H:List aO}
def eT.mono{c:Code}{d:fE}(t:∀e E H,Q e E H->d e E H)(h:eT P nt n c Q E H):eT P nt n c d E H:=
 λg a u o m l=>h g a u o m λe k s j=>l e k s (by cases e <;> first |exact iX.mono (t _) j |exact j)
def rN{d e:Code}(o:eT P nt n d (Ce (eT P nt n e Q) Q) E H):eT P nt n (.seq d e) Q E H:=by
 intro g p j h m b;refine wp_seq (o g p j h _ ?_)
 intro c t l a;cases c with
 |normal=>
  obtain⟨x,w,k,r,q,u⟩:=a;exact r k t l q m λc i f s=>b c i f (eI.trans u s)
 |exit z=>exact b _ _ _ a
 |goto v=>exact b _ _ _ a
 |ret=>exact b _ _ _ a
 |panic y=>exact a.elim
 |outgrown=>exact a.elim
def amF(a:Q .normal E H):eT P nt n .skip Q E H:=
 λg _ _ b _ c=>wp_skip (c .normal _ _ ⟨E,H,g,a,b,GStep.refl _ _ _ _⟩)
def apz(a:Q .ret E H):eT P nt n .ret Q E H:=
 λg _ _ b _ c=>wp_ret (c .ret _ _ ⟨E,H,g,a,b,GStep.refl _ _ _ _⟩)
def V4{a:Nat}(b:Q (.exit a) E H):eT P nt n (.exit a) Q E H:=
 λg _ _ c _ d=>wp_exit (d (.exit a) _ _ ⟨E,H,g,b,c,GStep.refl _ _ _ _⟩)
def agH{c:Nat}(a:Q .normal E H):eT P nt n (.label c) Q E H:=
 λg _ _ b _ d=>wp_label (d .normal _ _ ⟨E,H,g,a,b,GStep.refl _ _ _ _⟩)
def aht{a:Code}(c:Env)(j:vo c E)(e:eT P nt n a Q c H):eT P nt n a Q E H:=
 λg f d b i h=>e g f d ⟨b.m,b.e.sub j⟩ i h
def Ta{b:Nat}{f:Code}(j:eT P nt n f (EY b Q) E H):eT P nt n (.block b f) Q E H:=by
 intro g k o m q d;refine wp_block (j g k o m _ ?_)
 intro l p r a;cases l with
 |exit c=>
  simp only[eI,EY] at a
  by_cases e:c=b
  .have h:e4 c b=true:=by rw[e];exact k7 b
   rw[h] at a;simp only[qa,e,if_true];exact d .normal _ _ a
  .have h:e4 c b=false:=by
    cases i:e4 c b with
    |false=>rfl
    |true=>exact absurd (h5 i) e
   rw[h] at a;simp only[qa,e,if_false];exact d (.exit c) _ _ a
 |normal=>exact d _ _ _ a
 |goto s=>exact d _ _ _ a
 |ret=>exact d _ _ _ a
 |panic f=>exact a.elim
 |outgrown=>exact a.elim
def adk{a:Operand}{i l:Code}{b:Bool}(r:PE E a= .bool b)(q:b=true->eT P nt n i Q E H)(m:b=false->eT P nt n l Q E H):eT P nt n (.cond a i l) Q E H:=by
 intro g c k e j h;have f:=e.e.eval a;rw[r] at f;have p:c.eval a= .bool b:=by
  generalize c.eval a=z at f;cases f with
  |aW o=>cases o;rfl
 exact wp_cond_split p (λd=>q d g c k e j h) (λd=>m d g c k e j h)
def Lc{id:Nat}{a:List Oper}(c:gp P nt n a.toArray a Q E H):eT P nt n (.region id a.toArray false) Q E H:=
 λg d b f h e=>wp_region_lit (c g d b f h e)
def Of{f:Array Oper}(a:Q .normal E H):gp P nt n f [] Q E H:=
 λg b e d _ c=>wpList_nil (c .normal b e ⟨E,H,g,a,d,GStep.refl _ _ _ _⟩)
def Hk(P:Program)(nt n:Nat)(i:Oper)(f:qk)(E:Env)(H:List aO):Prop:=
 ∀g c a,Rel g nt E H c a->∀(d:Act->World->Prop) (h:Exit->Act->World->Prop),(∀b e,iX nt n g H a f b e->d b e)->i.wp P c a d h
def KR{i:Array Oper}{d:List Oper}{c:Oper}{K:qk}(l:c.guard=c6)(t:Hk P nt n c K E H)(y:∀b a,K b a->gp P nt n i d Q b a):gp P nt n i (c::d) Q E H:=by
 intro g u r p f m;refine wpList_plain l λw j=>t g u r p w f ?_
 rintro h e ⟨b,a,s,A,x,z⟩;exact j h e (y b a A s h e x f λv q k o=>m v q k (eI.trans z o))
def cM(P:Program)(d:Oper)(E:Env)(H:List aO)(v:PV):Prop:=
 ∀g nt c a,Rel g nt E H c a->∃b,(execOp c.eval d).run P a= .ok (.value b) a/\VR g H a v b
def aiu{a:Oper}{v:PV}(c:fL nt a.dst=true)(d:cM P a E H v):Hk P nt n a (λl h=>l=li E a.dst v/\h=H) E H:=by
 intro g e j b m o k;obtain⟨p,f,i⟩:=d g nt e j b;unfold n0;rw[f];exact k _ _ ⟨_,H,g,⟨rfl,rfl⟩,⟨b.m,b.e.tn c i⟩,GStep.refl _ _ _ _⟩
def aae{e:Array Oper}{f:List Oper}{a:Option Nat}{b:Op}{d:TypeId}{g:String}{c:Array Edge}{v:PV}(i:cM P ⟨a,b,d,g,c,c6⟩ E H v)(h:fL nt a=true)
 (j:gp P nt n e f Q (li E a v) H):gp P nt n e (⟨a,b,d,g,c,c6⟩::f) Q E H:=
 KR rfl (aiu h i) (by rintro k l ⟨rfl,rfl⟩;exact j)
def Sk{d:Array Oper}{o:List Oper}{f:Option Nat}{k:Op}{m:TypeId}{r:String}{s:Array Edge}{e:Nat}{i b:Bool}{a:Nat}
 (G:(d[e]?).bind (·.dst)=c4 a) (y:look E a= .bool b) (u:b≠i) (w:fL nt f=true)
 (B:gp P nt n d o Q (li E f (.bu [])) H):gp P nt n d (⟨f,k,m,r,s,c4 (e,i)⟩::o) Q E H:=by
 intro g c v h A t;have q:=h.e.at_ a;rw[y] at q;have j:c.tmps.getD a undef= .bool b:=by
  cases q with
  |aW p=>generalize c.tmps.getD a undef=z at p;cases p;rfl
 have D:yielded d c.tmps e=c4 b:=by
  unfold yielded;rw[G];simp only[hU];rcases oq a c.tmps.size with l |C
  .simp[l] at j;simp[l,j]
  .simp[k8 C,undef] at j
 refine wpList_step λI F=>?_
 have x:ih (⟨f,k,m,r,s,c4 (e,i)⟩:Oper) (yielded d c.tmps)=false:=by
  simp[ih,D];exact u
 rw[x];simp only[oj,if_false];exact F _ _ (B g _ v ⟨h.m,h.e.tn w (.aW (.bu [] [] rfl (by simp)))⟩ A t)
def MO{c:Array Oper}{o:List Oper}{e:Option Nat}{k:Op}{m:TypeId}{q:String}{r:Array Edge}{d:Nat}{p:Bool}{a:Nat}
 (G:(c[d]?).bind (·.dst)=c4 a) (x:look E a= .bu []) (v:fL nt e=true)
 (B:gp P nt n c o Q (li E e (.bu [])) H):gp P nt n c (⟨e,k,m,q,r,c4 (d,p)⟩::o) Q E H:=by
 intro g b u f y t;have j:=f.e.at_ a;rw[x] at j;have s:b.tmps.getD a undef= .tuple #[]:=by
  generalize b.tmps.getD a undef=z at j;cases j with
  |aW A=>
   cases A with
   |bu _ i h _=>
    have:i=[]:=e5 (by rw[<-h];rfl);rw[this]
  |bu _ i h _=>
   have:i=[]:=e5 (by rw[<-h];rfl);rw[this]
 have D:yielded c b.tmps d=c6:=by
  unfold yielded;rw[G];simp only[hU];rcases oq a b.tmps.size with l |C
  .simp[l] at s;simp[l,s]
  .simp[k8 C]
 refine wpList_step λI F=>?_
 have w:ih (⟨e,k,m,q,r,c4 (d,p)⟩:Oper) (yielded c b.tmps)=false:=by
  simp[ih,D]
 rw[w];simp only[oj,if_false];exact F _ _ (B g _ u ⟨f.m,f.e.tn v (.aW (.bu [] [] rfl (by simp)))⟩ y t)
def S7{d:Array Oper}{p:List Oper}{h:Option Nat}{f:Op}{i:TypeId}{j:String}{k:Array Edge}{e:Nat}{c:Bool}{b:Nat}
 (B:(d[e]?).bind (·.dst)=c4 b) (v:look E b= .bool c)
 (x:gp P nt n d (⟨h,f,i,j,k,c6⟩::p) Q E H):gp P nt n d (⟨h,f,i,j,k,c4 (e,c)⟩::p) Q E H:=by
 intro g a t m w s;have r:=m.e.at_ b;rw[v] at r;have l:a.tmps.getD b undef= .bool c:=by
  cases r with
  |aW q=>generalize a.tmps.getD b undef=z at q;cases q;rfl
 have A:yielded d a.tmps e=c4 c:=by
  unfold yielded;rw[B];simp only[hU];rcases oq b a.tmps.size with o |y
  .simp[o] at l;simp[o,l]
  .simp[k8 y,undef] at l
 have u:ih (⟨h,f,i,j,k,c4 (e,c)⟩:Oper) (yielded d a.tmps)=true:=by
  simp[ih,A]
 have:=x g a t m w s;unfold wpList at this⊢;rw[u];simp only[ih,if_true] at this⊢;exact this
def fJ(P:Program)(i:Oper)(E:Env)(H:List aO)(j:PV->List aO->Prop):Prop:=
 ∀g nt c e,Rel g nt E H c e->∀(f:Act->World->Prop) (k:Exit->Act->World->Prop),
  (∀h a d v b,j v b->VR d b a v h->bF d b a->GStep H.length g H e d b a->f (c.put i.dst h) a)->i.wp P c e f k
def Sz{l:Array Oper}{h:List Oper}{a:Option Nat}{d:Op}{f:TypeId}{j:String}{k:Array Edge}{K:PV->List aO->Prop}(c:fJ P ⟨a,d,f,j,k,c6⟩ E H K)(o:fL nt a=true)
 (w:∀v b,K v b->gp P nt n l h Q (li E a v) b):gp P nt n l (⟨a,d,f,j,k,c6⟩::h) Q E H:=by
 refine KR (K:=λy H1=>∃v,y=li E a v/\K v H1) rfl ?_ (by rintro _ _ ⟨v,rfl,c⟩;exact w _ _ c)
 intro g s m e t q z;refine c g nt s m e t q ?_
 intro A B p v b r u x i;exact z _ _ ⟨_,b,p,⟨v,rfl,r⟩,⟨x,(e.e.step i).tn o u⟩,i.every⟩
end
section
variable {g:Gh}{H:List aO}{w:World}{x:Value}
def VR.n5{b:Bool}(h:VR g H w (.bool b) x):x= .bool b:=by cases h with |aW h=>cases h;rfl
def VR.fQ{k:IntKind}{n:Int}(h:VR g H w (.int k n) x):x= .int k n:=by cases h with |aW h=>cases h;rfl
def VR.pF(h:VR g H w .bg x):x= .slice c6 0 0:=by cases h with |aW h=>cases h;rfl
def VR.rh(h:VR g H w .z0 x):∃a,x= .slice a 0 0:=by cases h with |aW h=>cases h;exact⟨_,rfl⟩
def VR.ky{j:List PV}(h:VR g H w (.agg j) x):∃a:List Value,x= .agg a.toArray/\j.length=a.length/\∀(i:Nat) (c:PV) (y:Value),j[i]?=c4 c->a[i]?=c4 y->VR g H w c y:=by
 cases h with
 |aW h=>cases h with |agg _ a e l=>exact⟨a,rfl,e,λi c y o s=>.aW (l i c y o s)⟩
 |agg _ a e l=>exact⟨a,rfl,e,l⟩
def VR.Db{j:List PV}(h:VR g H w (.bu j) x):∃a:List Value,x= .tuple a.toArray/\j.length=a.length/\∀(i:Nat) (c:PV) (y:Value),j[i]?=c4 c->a[i]?=c4 y->VR g H w c y:=by
 cases h with
 |aW h=>cases h with |bu _ a e l=>exact⟨a,rfl,e,λi c y o s=>.aW (l i c y o s)⟩
 |bu _ a e l=>exact⟨a,rfl,e,l⟩
def VR.bool(b:Bool):VR g H w (.bool b) (.bool b):=.aW (.bool b)
def VR.int(k:IntKind)(n:Int):VR g H w (.int k n) (.int k n):=.aW (.int k n)
end
def dP(P:Program)(t:TypeId):Option Bool:=(P.underlying t).map λ| .struct _ | .array _ _=>true |_=>false
def cH(P:Program)(t:TypeId):Option Nat:=(P.info? t).map (·.size)
def nU(P:Program)(t:TypeId)(f:Nat):Option (TypeId×Nat):=match P.underlying t with |some (.struct a)=>(a[f]?).map λx=>(x.type,x.offset) |_=>c6
def dU(P:Program)(t:TypeId):Option TypeId:=match P.underlying t with |some (.slice a)=>c4 a |_=>c6
def pk(P:Program)(t:TypeId):Option (Nat×TypeId):=match P.underlying t with |some (.array n a)=>c4 (n,a) |_=>c6
def dV(P:Program)(t:TypeId):Option Value:=(P.info? t).bind (·.zero)
def yi(P:Program)(t:TypeId):Option IntKind:=match P.underlying t with |some (.int k)=>c4 k |_=>c6
def sr(P:Program)(t:TypeId):Bool:=match P.underlying t with |some .bool=>true |_=>false
section
variable {P:Program}{w:World}
def o5{t:TypeId}{b:Bool}(a:dP P t=c4 b):(isAgg t).run P w= .ok b w:=by
 unfold dP at a;cases c:P.underlying t with
 |none=>simp[c] at a
 |some d=>
  rw[c] at a;unfold isAgg;rw[gb,run_underlying c];cases d <;> simp at a <;> subst a <;> rfl
def run_sizeOf{t:TypeId}{n:Nat}(a:cH P t=c4 n):(sizeOf t).run P w= .ok n w:=by
 unfold cH at a;cases b:P.info? t with
 |none=>simp[b] at a
 |some i=>
  simp[b] at a;simp[sizeOf,typeInfo,b,a]
def Ey{t:TypeId}{v:Value}(a:dV P t=c4 v):(zeroValue t).run P w= .ok v w:=by
 unfold dV at a;cases b:P.info? t with
 |none=>simp[b] at a
 |some i=>
  simp[b] at a;simp[zeroValue,typeInfo,b,a]
def gD{t b:TypeId}(a:dU P t=c4 b):P.underlying t=c4 (.slice b):=by
 unfold dU at a
 split at a <;> simp_all
def anQ{t:TypeId}{k:IntKind}(a:yi P t=c4 k):P.underlying t=c4 (.int k):=by
 unfold yi at a
 split at a <;> simp_all
def Kn{t b:TypeId}{n:Nat}(a:pk P t=c4 (n,b)):P.underlying t=c4 (.array n b):=by
 unfold pk at a
 split at a <;> simp_all
def aiw{t:TypeId}(a:sr P t=true):P.underlying t=c4 .bool:=by
 unfold sr at a
 split at a <;> simp_all
def E4{t:TypeId}{f:Nat}{h i:Nat}(a:nU P t f=c4 (h,i)):∃(b:Array Field) (c:Field),P.underlying t=c4 (.struct b)/\b[f]?=c4 c/\c.type=h/\c.offset=i:=by
 unfold nU at a
 split at a
 .rename_i b j;cases e:b[f]? with
  |none=>simp[e] at a
  |some c=>
   simp[e] at a;exact⟨b,c,j,e,a.1,a.2⟩
 .simp at a
end
def ek(H:List aO)(r:Nat)(a:aO):Prop:=H[r]?=c4 a
section
variable {P:Program}{E:Env}{H:List aO}{d:Option Nat}{ty:TypeId}{pos:String}{aft:Array Edge}{gd:Option (Nat×Bool)}{x y z:Operand}{t:TypeId}
def Pt:cM P ⟨d,.move x,ty,pos,aft,gd⟩ E H (PE E x):=λ_ _ b _ a=>⟨b.eval x,rfl,a.e.eval x⟩
def aks:cM P ⟨d,.assign x,ty,pos,aft,gd⟩ E H (PE E x):=λ_ _ b _ a=>⟨b.eval x,rfl,a.e.eval x⟩
def aik{v:PV}(a:PE E x=v):cM P ⟨d,.move x,ty,pos,aft,gd⟩ E H v:=a▸Pt
def ak6{v:PV}(a:PE E x=v):cM P ⟨d,.assign x,ty,pos,aft,gd⟩ E H v:=a▸aks
def Zu{b:Bool}(f:PE E z= .bool b):cM P ⟨d,.pick z x y,ty,pos,aft,gd⟩ E H (bif b then PE E x else PE E y):=by
 intro g h c w a;have e:=(f▸a.e.eval z).n5;cases b
 .exact⟨c.eval y,by simp[execOp,e,asBool],a.e.eval y⟩
 .exact⟨c.eval x,by simp[execOp,e,asBool],a.e.eval x⟩
def yw{a:BinOp}{yt:TypeId}{e v:PV}{b c rv:Value}{p:PV}(o:PE E x=e)(u:PE E y=v)(A:∀(g:Gh) (H:List aO) (w:World) (z:Value),VR g H w e z->z=b)(s:∀(g:Gh) (H:List aO) (w:World) (z:Value),VR g H w v z->z=c)
 (j:eqGuard a t x y b c=pure ()) (q:∀w,(binOp a t b c).run P w= .ok rv w) (h:∀(g:Gh) (H:List aO) (w:World),VR g H w p rv):cM P ⟨d,.binOp a t x y yt,ty,pos,aft,gd⟩ E H p:=by
 intro g B C w f;have l:=A _ _ _ _ (o▸f.e.eval x);have i:=s _ _ _ _ (u▸f.e.eval y);exact⟨rv,by simp[execOp,l,i,j,q],h _ _ _⟩
section ints
variable {yt:TypeId}{k:IntKind}{m n r:Int}
def ka{a:BinOp}{rv:Value}{p:PV}(e:PE E x= .int k m)(h:PE E y= .int k n)(f:∀w,(binOp a t (.int k m) (.int k n)).run P w= .ok rv w)(c:∀(g:Gh) (H:List aO) (w:World),VR g H w p rv):
 cM P ⟨d,.binOp a t x y yt,ty,pos,aft,gd⟩ E H p:=
 yw e h (λ_ _ _ _ b=>b.fQ) (λ_ _ _ _ b=>b.fQ) (eqGuard_at_int a t x y _ k m) f c
def Vz(a:PE E x= .int k m)(b:PE E y= .int k n)(c:k.wrap (m+n)=r):cM P ⟨d,.binOp .add t x y yt,ty,pos,aft,gd⟩ E H (.int k r):=
 ka a b (λw=>by simp[binOp,o4,c]) λ_ _ _=>.int k r
def Zh(a:PE E x= .int k m)(b:PE E y= .int k n)(c:k.wrap (m -n)=r):cM P ⟨d,.binOp .sub t x y yt,ty,pos,aft,gd⟩ E H (.int k r):=
 ka a b (λw=>by simp[binOp,o4,c]) λ_ _ _=>.int k r
def acd(a:PE E x= .int k m)(b:PE E y= .int k n)(c:k.wrap (m*n)=r):cM P ⟨d,.binOp .mul t x y yt,ty,pos,aft,gd⟩ E H (.int k r):=
 ka a b (λw=>by simp[binOp,o4,c]) λ_ _ _=>.int k r
def ae6(a:PE E x= .int k m)(b:PE E y= .int k n)(h0:n≠0)(c:k.wrap (m.tdiv n)=r):cM P ⟨d,.binOp .quo t x y yt,ty,pos,aft,gd⟩ E H (.int k r):=
 ka a b (λw=>by simp[binOp,Op.intDiv,h0,c]) λ_ _ _=>.int k r
def ahN(a:PE E x= .int k m)(b:PE E y= .int k n)(h0:n≠0)(c:m.tmod n=r):cM P ⟨d,.binOp .rem t x y yt,ty,pos,aft,gd⟩ E H (.int k r):=
 ka a b (λw=>by simp[binOp,Op.intDiv,h0,c]) λ_ _ _=>.int k r
def akz(a:PE E x= .int k m)(b:PE E y= .int k n)(c:bits .and k m n=r):cM P ⟨d,.binOp .and t x y yt,ty,pos,aft,gd⟩ E H (.int k r):=
 ka a b (λw=>by rw[binOp_and,intBits_and,c];rfl) λ_ _ _=>.int k r
def YI(a:PE E x= .int k m)(b:PE E y= .int k n)(c:bits .or k m n=r):cM P ⟨d,.binOp .or t x y yt,ty,pos,aft,gd⟩ E H (.int k r):=
 ka a b (λw=>by rw[binOp_or,intBits_or,c];rfl) λ_ _ _=>.int k r
def abR(a:PE E x= .int k m)(b:PE E y= .int k n)(c:bits .xor k m n=r):cM P ⟨d,.binOp .xor t x y yt,ty,pos,aft,gd⟩ E H (.int k r):=
 ka a b (λw=>by rw[binOp_xor,intBits_xor,c];rfl) λ_ _ _=>.int k r
def aeA(a:PE E x= .int k m)(b:PE E y= .int k n)(c:bits .andNot k m n=r):cM P ⟨d,.binOp .andNot t x y yt,ty,pos,aft,gd⟩ E H (.int k r):=
 ka a b (λw=>by rw[binOp_andNot,intBits_andNot,c];rfl) λ_ _ _=>.int k r
def ahs(a:PE E x= .int k m)(b:PE E y= .int k n):cM P ⟨d,.binOp .lss t x y yt,ty,pos,aft,gd⟩ E H (.bool (c3 (m<n))):=
 ka a b (λw=>by rw[binOp_lss];rfl) λ_ _ _=>.bool _
def aj5(a:PE E x= .int k m)(b:PE E y= .int k n):cM P ⟨d,.binOp .leq t x y yt,ty,pos,aft,gd⟩ E H (.bool (c3 (m<=n))):=
 ka a b (λw=>by rw[binOp_leq];rfl) λ_ _ _=>.bool _
def amQ(a:PE E x= .int k m)(b:PE E y= .int k n):cM P ⟨d,.binOp .gtr t x y yt,ty,pos,aft,gd⟩ E H (.bool (c3 (n<m))):=
 ka a b (λw=>by rw[binOp_gtr];rfl) λ_ _ _=>.bool _
def abe(a:PE E x= .int k m)(b:PE E y= .int k n):cM P ⟨d,.binOp .geq t x y yt,ty,pos,aft,gd⟩ E H (.bool (c3 (n<=m))):=
 ka a b (λw=>by rw[binOp_geq];rfl) λ_ _ _=>.bool _
def aea(b:PE E x= .int k m)(c:PE E y= .int k n):cM P ⟨d,.binOp .eql t x y yt,ty,pos,aft,gd⟩ E H (.bool (c3 (m=n))):=
 ka b c (λw=>by rw[binOp_eql,hz]) λg H w=>by
  have:(m==n)=c3 (m=n):=by by_cases a:m=n <;> simp[a]
  rw[this];exact .bool _
def ajI(b:PE E x= .int k m)(c:PE E y= .int k n):cM P ⟨d,.binOp .neq t x y yt,ty,pos,aft,gd⟩ E H (.bool (c3 (m≠n))):=
 ka b c (λw=>by rw[binOp_neq,hz]) λg H w=>by
  have:(m != n)=c3 (m≠n):=by by_cases a:m=n <;> simp[a,bne]
  rw[this];exact .bool _
def apg{b:IntKind}(e:PE E x= .int k m)(f:PE E y= .int b n)(h0:0<=n)(c:k.wrap (m*2^ (min n.toNat k.bits))=r):cM P ⟨d,.binOp .shl t x y yt,ty,pos,aft,gd⟩ E H (.int k r):=
 yw e f (λ_ _ _ _ a=>a.fQ) (λ_ _ _ _ a=>a.fQ) (eqGuard_at_int _ t x y _ k m)
  (λw=>by rw[binOp_shl];unfold Op.shift;rw[if_neg (by omega)];simp only[c];rfl) λ_ _ _=>.int k r
def abz{b:IntKind}(e:PE E x= .int k m)(f:PE E y= .int b n)(h0:0<=n)(c:m.fdiv (2^ (min n.toNat k.bits))=r):cM P ⟨d,.binOp .shr t x y yt,ty,pos,aft,gd⟩ E H (.int k r):=
 yw e f (λ_ _ _ _ a=>a.fQ) (λ_ _ _ _ a=>a.fQ) (eqGuard_at_int _ t x y _ k m)
  (λw=>by rw[binOp_shr];unfold Op.shift;rw[if_neg (by omega)];simp only[c];rfl) λ_ _ _=>.int k r
def ajc(e:PE E x= .int k m)(a:k.wrap (0 -m)=r):cM P ⟨d,.unOp .neg t x,ty,pos,aft,gd⟩ E H (.int k r):=by
 intro g f h w c;have b:=(e▸c.e.eval x).fQ;exact⟨.int k r,by simp only[execOp,b,Op.unary,o4,a];rfl,.int k r⟩
def aoQ{b c:TypeId}{f:IntKind}(l:PE E x= .int f m)(a:(P.underlying b).isSome=true)(e:yi P c=c4 k)(h:k.wrap m=r):cM P ⟨d,.convert b c x,ty,pos,aft,gd⟩ E H (.int k r):=by
 intro g o q w j;have i:=(l▸j.e.eval x).fQ;obtain⟨p,a⟩:=m6.1 a;refine⟨.int k r,?_,.int k r⟩
 simp[execOp,i,convert,run_underlying a,run_underlying (anQ e),Conv.intToInt,h]
end ints
def rd_not{b:Bool}(c:PE E x= .bool b):cM P ⟨d,.unOp .not t x,ty,pos,aft,gd⟩ E H (.bool (!b)):=by
 intro g f h w e;have a:=(c▸e.e.eval x).n5;exact⟨.bool !b,by simp only[execOp,a,Op.unary];rfl,.bool _⟩
def run_equal_bool{t:TypeId}(c:sr P t=true)(w:World)(b a:Bool):(mx t (.bool b) (.bool a)).run P w= .ok (b==a) w:=by
 have e:∀n,(j9 (n+1) t (.bool b) (.bool a)).run P w= .ok (b==a) w:=λn=>by simp[j9,run_underlying (aiw c)]
 exact e 9999
def abj{yt:TypeId}{b a:Bool}(f:PE E x= .bool b)(h:PE E y= .bool a)(e:sr P t=true):cM P ⟨d,.binOp .eql t x y yt,ty,pos,aft,gd⟩ E H (.bool (b==a)):=
 yw f h (λ_ _ _ _ c=>c.n5) (λ_ _ _ _ c=>c.n5) (eqGuard_at_bool _ t x y _ b)
  (λw=>by simp only[binOp];simp[run_equal_bool e w b a]) λ_ _ _=>.bool _
def ai2{yt:TypeId}{b a:Bool}(f:PE E x= .bool b)(h:PE E y= .bool a)(e:sr P t=true):cM P ⟨d,.binOp .neq t x y yt,ty,pos,aft,gd⟩ E H (.bool (b != a)):=
 yw f h (λ_ _ _ _ c=>c.n5) (λ_ _ _ _ c=>c.n5) (eqGuard_at_bool _ t x y _ b)
  (λw=>by simp only[binOp];simp only[gb,run_equal_bool e w b a,ez,hz];rfl) λ_ _ _=>.bool _
def aiG{vs:List PV}{i:Nat}{v:PV}(l:PE E x= .bu vs)(c:vs[i]?=c4 v):cM P ⟨d,.extract x i,ty,pos,aft,gd⟩ E H v:=by
 intro g o p w h;obtain⟨b,f,j,e⟩:=(l▸h.e.eval x).Db;have a:i<b.length:=by rw[<-j];exact(c7.1 c).1
 refine⟨b[i],?_,e i v _ c (c5 a)⟩
 simp[execOp,f,Instr.extract,a]
def aam{b:List PV}{f:Nat}{c j:Nat}{v:PV}(A:PE E x= .agg b)(l:nU P t f=c4 (c,j))(s:dP P c=c4 false)(h:b[j]?=c4 v):
 cM P ⟨d,.field t x f,ty,pos,aft,gd⟩ E H v:=by
 intro g D G w o;obtain⟨e,q,p,u⟩:=(A▸o.e.eval x).ky;obtain⟨F,a,C,B,rfl,rfl⟩:=E4 l;have i:a.offset<e.length:=by rw[<-p];exact(c7.1 h).1
 refine⟨e[a.offset],?_,u _ v _ h (c5 i)⟩
 simp[execOp,q,r3,run_underlying C,B,asAgg,part,o5 s,i]
def T8{h:List PV}{f:Nat}{c j n:Nat}{e:List PV}(B:PE E x= .agg h)(l:nU P t f=c4 (c,j))(u:dP P c=c4 true)(D:cH P c=c4 n)(C:(h.drop j).take n=e):
 cM P ⟨d,.field t x f,ty,pos,aft,gd⟩ E H (.agg e):=by
 intro g K M w o;obtain⟨v,s,p,A⟩:=(B▸o.e.eval x).ky;obtain⟨L,q,J,G,rfl,rfl⟩:=E4 l;subst C;refine⟨.agg ((v.drop q.offset).take n).toArray,?_,.agg _ _ (by simp[p]) λi F y a b=>?_⟩
 .simp[execOp,s,r3,run_underlying J,G,asAgg,part,o5 u,run_sizeOf D,m0,k6]
 .rw[h6] at a b
  split at a
  .rename_i I;rw[if_pos I] at b;rw[ea] at a b;exact A _ F y a b
  .simp at a
def adb{r v i b:Nat}(h:PE E x= .ptr r v i b):cM P ⟨d,.nilCheck x,ty,pos,aft,gd⟩ E H (.ptr r v i b):=by
 intro g s c w f;have a:=h▸f.e.eval x;generalize e:c.eval x=z at a;cases a with
 |aW a=>cases a
 |ptr _ _ _ _ p q o l j=>exact⟨_,by simp only[execOp,e];rfl,.ptr r v i b p q o l j⟩
def ZL{e:List PV}{c:Nat}(p:PE E x= .dw e c):cM P ⟨d,.nilCheck x,ty,pos,aft,gd⟩ E H (.dw e c):=by
 intro g v j w o;have a:=p▸o.e.eval x;generalize l:j.eval x=z at a;cases a with
 |aW a=>
  cases a with
  |dw _ _ b u i h s f q=>exact⟨_,by simp only[execOp,l];rfl,.aW (.dw e c b u i h s f q)⟩
def VJ{f:Nat}{c b:List PV}(u:PE E x= .fn f c b):cM P ⟨d,.nilCheck x,ty,pos,aft,gd⟩ E H (.fn f c b):=by
 intro g v q w s;have a:=u▸s.e.eval x;generalize p:q.eval x=z at a;cases a with
 |aW a=>cases a with |fn _ _ _ l i j o e h=>exact⟨_,by simp only[execOp,p];rfl,.aW (.fn f c b l i j o e h)⟩
 |fn _ _ _ l i j o e h=>exact⟨_,by simp only[execOp,p];rfl,.fn f c b l i j o e h⟩
def Qi{P:Program}{w:World}{a:Addr}{f:Field}{n:Nat}(c:cH P f.type=c4 n)(b:n≠0):(fieldPlace a f).run P w= .ok (a.add f.offset) w:=by
 simp[fieldPlace,run_sizeOf c,b]
def apD{r v i c:Nat}{f:Nat}{h j n:Nat}(D:PE E x= .ptr r v i c)(l:nU P t f=c4 (h,j))(I:cH P h=c4 n)(F:n≠0):
 cM P ⟨d,.fieldAddr t x f,ty,pos,aft,gd⟩ E H (.ptr r v i (c+j)):=by
 intro g O B w o;have a:=D▸o.e.eval x;generalize q:B.eval x=z at a;obtain⟨Q,e,L,J,rfl,rfl⟩:=E4 l;cases a with
 |aW a=>cases a
 |ptr _ _ _ _ N M u G s=>
  refine⟨.pointer (c4 (M.add e.offset)),?_,.ptr r v i (c+e.offset) N _ u G λC=>?_⟩
  .simp[execOp,q,q7,run_underlying L,J,hD,Qi I F]
  .obtain⟨K,b,A,p,rfl⟩:=s C;exact⟨K,b,A,p,by rw[h8,j1]⟩
def Ze{e:List PV}{a:Nat}{f:Nat}{i l n:Nat}(B:PE E x= .dw e a)(o:nU P t f=c4 (i,l))(F:cH P i=c4 n)(C:n≠0):
 cM P ⟨d,.fieldAddr t x f,ty,pos,aft,gd⟩ E H (.dw e (a+l)):=by
 intro g K A w p;have c:=B▸p.e.eval x;generalize s:A.eval x=z at c;obtain⟨L,h,J,I,rfl,rfl⟩:=E4 o;cases c with
 |aW c=>
  cases c with
  |dw _ _ b j q G u v D=>
   refine⟨.pointer (c4 ((⟨b,j+a,c6⟩:Addr).add h.offset)),?_,?_⟩
   .simp[execOp,s,q7,run_underlying J,I,hD,Qi F C]
   .rw[h8,j1];exact .aW (.dw e (a+h.offset) b j q G u v D)
def Dc{g:Gh}{w:World}{r v i c:Nat}{a:aO}{p:Value}(G:bF g H w)(l:VR g H w (.ptr r v i c) p)(j:ek H r a)(F:a.aF=v):
 ∃b e cells,p= .pointer (c4 ⟨b,i*a.sz+c,c6⟩)/\g.β r=c4 (b,e)/\i<a.es.length/\w.heap[b]?=c4 (.cells cells a.ty (0,0))/\cells.size=e*a.sz/\a.es.length<=e/\
  ∀i c s,abk a.es i c=c4 s->∃h,cells[i*a.sz+c]?=c4 h/\h.oneCell'=true/\VR g H w s h:=by
 cases l with
 |aW l=>cases l
 |ptr _ _ _ _ J L f K C=>
  unfold ek at j;rw[j] at f;injection f with f
  subst f;obtain⟨I,b,e,o,rfl⟩:=C F.symm;have q:=(G.obj r a j).mem;rw[o] at q;obtain⟨_,cells,D,A,_,u,B⟩:=q;exact⟨b,e,cells,rfl,o,I,D,A,u,B⟩
def AT{r v i j:Nat}{a:aO}{c:PV}(o:PE E x= .ptr r v i j)(C:ek H r a)(u:a.aF=v)(q:dP P t=c4 false)(A:abk a.es i j=c4 c):
 cM P ⟨d,.load t x,ty,pos,aft,gd⟩ E H c:=by
 intro g F I w f;obtain⟨b,G,cells,l,_,_,s,_,_,p⟩:=Dc f.m (o▸f.e.eval x) C u;obtain⟨e,D,_,h⟩:=p i j c A;refine⟨e,?_,h⟩
 have B:w.cell? ⟨b,i*a.sz+j,c6⟩=c4 e:=by rw[cell_of_row w b _ cells a.ty (0,0) s];exact D
 simp[execOp,l,n1,hD,loadVar,o5 q,B]
def gw{c:List PV}{i e:Nat}{h:PV}(a:abk c i e=c4 h):∃b,c[i]?=c4 b/\e<b.cells.length:=by
 unfold abk at a;cases f:c[i]? with
 |none=>simp[f] at a
 |some b=>
  simp[f] at a;exact⟨b,rfl,(c7.1 a).1⟩
def Ig{r v i a n:Nat}{j:aO}{e:PV}{p:List PV}(O:PE E x= .ptr r v i a)(L:ek H r j)(Q:j.aF=v)(K:dP P t=c4 true)(R:cH P t=c4 n)(T:j.es[i]?=c4 e)
 (G:(e.cells.drop a).take n=p) (C:p.length=n):cM P ⟨d,.load t x,ty,pos,aft,gd⟩ E H (.agg p):=by
 intro g Y aa w A;obtain⟨b,Z,cells,J,_,_,F,ab,X,U⟩:=Dc A.m (O▸A.e.eval x) L Q;subst G;have M:∀k (c:k<n),∃h,abk j.es i (a+k)=c4 h/\((e.cells.drop a).take n)[k]?=c4 h:=λk c=>by
  have B:k<((e.cells.drop a).take n).length:=by rw[C];exact c
  refine⟨_,?_,c5 B⟩
  unfold abk;rw[T];simp only[hU];rw[<-ea, <-e0 c];exact c5 B
 have S:∃f:Nat->Value,∀k,k<n->cells[i*j.sz+a+k]?=c4 (f k)/\(∀h,((e.cells.drop a).take n)[k]?=c4 h->VR g H w h (f k)):=by
  refine⟨λk=>cells.getD (i*j.sz+a+k) undef,λk c=>?_⟩
  obtain⟨h,l,N⟩:=M k c;obtain⟨I,s,_,V⟩:=U i (a+k) h l;rw[<-j1] at s;have:cells.getD (i*j.sz+a+k) undef=I:=by simp[j2,s]
  refine⟨s.trans (congrArg c4 this.symm),λW o=>?_⟩
  rw[N] at o;injection o with o
  subst o;show VR g H w h (cells.getD (i*j.sz+a+k) undef)
  rw[this];exact V
 obtain⟨f,u⟩:=S;refine⟨.agg ((n2 n).map f).toArray,?_,.agg _ _ (by simp[C]) λk h y l q=>?_⟩
 .have D:=run_loadCells (P:=P) w ⟨b,i*j.sz+a,c6⟩ n f (λk c=>by
   rw[h8,cell_of_row w b _ cells j.ty (0,0) F];exact(u k c).1)
  simp[execOp,J,n1,hD,loadVar,o5 K,run_sizeOf R,D]
 .have c:k<n:=by
   have:=(c7.1 l).1;omega
  rw[e6,h9 c] at q;simp at q;subst q;exact(u k c).2 h l
def acR{f:List PV}{a:Nat}{c:PV}(q:PE E x= .dw f a)(s:dP P t=c4 false)(h:f[a]?=c4 c):
 cM P ⟨d,.load t x,ty,pos,aft,gd⟩ E H c:=by
 intro g B l w p;have e:=q▸p.e.eval x;generalize o:l.eval x=z at e;cases e with
 |aW e=>
  cases e with
  |dw _ _ b C i A j v u=>
   refine⟨i a,?_,.aW (u a c h)⟩
   simp[execOp,o,n1,hD,loadVar,o5 s,j a c h]
def Z6{e:List PV}{a n:Nat}{l:List PV}(I:PE E x= .dw e a)(D:dP P t=c4 true)(K:cH P t=c4 n)(B:(e.drop a).take n=l)(u:l.length=n):
 cM P ⟨d,.load t x,ty,pos,aft,gd⟩ E H (.agg l):=by
 intro g O G w A;have i:=I▸A.e.eval x;generalize C:G.eval x=z at i;cases i with
 |aW i=>
  cases i with
  |dw _ _ b M q Q L o J=>
   subst B;have s:∀k (c:k<n),∃f,e[a+k]?=c4 f/\((e.drop a).take n)[k]?=c4 f:=λk c=>by
    have o:k<((e.drop a).take n).length:=by rw[u];exact c
    refine⟨_,?_,c5 o⟩
    rw[<-ea, <-e0 c];exact c5 o
   refine⟨.agg ((n2 n).map λk=>q (a+k)).toArray,?_,.aW (.agg _ _ (by simp[u]) λk f y h p=>?_)⟩
   .have v:=run_loadCells (P:=P) w ⟨b,M+a,c6⟩ n (λk=>q (a+k)) (λk c=>by
     obtain⟨f,h,_⟩:=s k c;rw[h8,j1];exact L _ f h)
    simp[execOp,C,n1,hD,loadVar,o5 D,run_sizeOf K,v]
   .have c:k<n:=by
     have:=(c7.1 h).1;omega
    rw[e6,h9 c] at p;simp at p;subst p;obtain⟨N,F,j⟩:=s k c;rw[h] at j;injection j with j
    subst j;exact J _ _ F
def Zx{ix:Operand}{h:Nat}{o:List PV}{e:PV}{k:IntKind}{m:Int}{i:Nat}{s:TypeId}(I:PE E x= .vs h o)(O:PE E ix= .int k m)(N:m=(i:Int))(l:o[i]?=c4 e)
 (B:dU P t=c4 s) (K:cH P s=c4 h):cM P ⟨d,.indexAddr t x ix,ty,pos,aft,gd⟩ E H (.dw e.cells 0):=by
 intro g S G w p;have j:=I▸p.e.eval x;have L:=(O▸p.e.eval ix).fQ;generalize A:G.eval x=z at j;subst N;have q:i<o.length:=(c7.1 l).1;cases j with
 |aW j=>
  cases j with
  |eX=>simp at q
  |vs _ _ b u cap v Q M R C D J=>
   refine⟨.pointer (c4 ⟨b,u+i*h,c6⟩),?_,?_⟩
   .simp[execOp,A,L,oi,asIntOf,run_underlying (gD B),run_sizeOf K,q,h8]
   .have:=VI.dw (F:=g.F) (w:=w) e.cells 0 b (u+i*h) (v i) M
     (λa c f=>by
      have:=C i a c (by unfold abk;rw[l];exact f);rw[<-j1] at this;exact this)
     (λa c f=>D i a c (by unfold abk;rw[l];exact f))
     (λa c f=>J i a c (by unfold abk;rw[l];exact f))
    exact .aW this
def lh{g:Gh}{w:World}{r v f len:Nat}{o:aO}{c:Value}(b:VR g H w (.sl r v f len) c)(e:ek H r o)(i:o.aF=v):SL g o r f len c:=by
 cases b with
 |aW b=>cases b
 |sl _ _ _ _ l _ a p j h=>
  unfold ek at e;rw[e] at a;injection a with a
  subst a;exact h i.symm
def Hm{ix:Operand}{r v e len:Nat}{c:aO}{k:IntKind}{m:Int}{i:Nat}{j:TypeId}(u:PE E x= .sl r v e len)(G:PE E ix= .int k m)(F:m=(i:Int))(B:i<len)(h:ek H r c)(A:c.aF=v)
 (q:dU P t=c4 j) (C:cH P j=c4 c.sz):cM P ⟨d,.indexAddr t x ix,ty,pos,aft,gd⟩ E H (.ptr r v (e+i) 0):=by
 intro g J K w f;have a:=lh (u▸f.e.eval x) h A;have D:=(G▸f.e.eval ix).fQ;subst F;unfold SL at a;obtain⟨L,a⟩:=a
 split at a
 .obtain⟨_,rfl,_⟩:=a;omega
 .rename_i b s o;obtain⟨cap,M,p,I,l,_⟩:=a;obtain rfl:=l (by omega);refine⟨.pointer (c4 ⟨b,e*c.sz+i*c.sz,c6⟩),?_,.ptr r v (e+i) 0 c _ h (by omega) λ_=>⟨by omega,b,s,o,by rw[l1,eo]⟩⟩
  simp[execOp,p,D,oi,asIntOf,run_underlying (gD q),run_sizeOf C,B,h8]
def aqx{e:Operand}{r v i h n c:Nat}{k:IntKind}{m:Int}{q:Nat}{l:TypeId}(G:PE E x= .ptr r v i h)(f:PE E e= .int k m)(L:m=(q:Int))(B:q<n)
 (s:pk P t=c4 (n,l)) (J:cH P l=c4 c):cM P ⟨d,.indexAddr t x e,ty,pos,aft,gd⟩ E H (.ptr r v i (h+q*c)):=by
 intro g O D w j;have a:=G▸j.e.eval x;have K:=(f▸j.e.eval e).fQ;generalize p:D.eval x=z at a;subst L;cases a with
 |aW a=>cases a
 |ptr _ _ _ _ N M A I u=>
  refine⟨.pointer (c4 (M.add (q*c))),?_,.ptr r v i _ N _ A I λF=>?_⟩
  .simp[execOp,p,K,oi,hD,asIntOf,run_underlying (Kn s),run_sizeOf J,B]
  .obtain⟨f,b,C,o,rfl⟩:=u F;exact⟨f,b,C,o,by rw[h8,j1]⟩
def ac0{a:Operand}{f:List PV}{n:Nat}{k:IntKind}{m:Int}{q:Nat}{b:TypeId}{c:PV}(A:PE E x= .agg f)(F:PE E a= .int k m)(D:m=(q:Int))(u:q<n)
 (p:pk P t=c4 (n,b)) (B:cH P b=c4 1) (s:dP P b=c4 false) (i:f[q]?=c4 c):cM P ⟨d,.index t x a,ty,pos,aft,gd⟩ E H c:=by
 intro g G I w e;obtain⟨h,o,l,v⟩:=(A▸e.e.eval x).ky;have C:=(F▸e.e.eval a).fQ;subst D;have j:q<h.length:=by rw[<-l];exact(c7.1 i).1
 refine⟨h[q],?_,v q c _ i (c5 j)⟩
 simp[execOp,o,C,Instr.index,asIntOf,run_underlying (Kn p),run_sizeOf B,u,part,o5 s,j]
def Gi{n:Nat}{ci:Array TypeId}(c:∃f,dU P t=c4 f)(l:ci=#[t])(j:∀(g:Gh) (b:Nat) (a:Act) (w:World),Rel g b E H a w->∃e cap,a.eval x= .slice e n cap):
 cM P ⟨d,.call {callee:=.builtin .len,args:=#[x],argTypes:=ci},ty,pos,aft,gd⟩ E H (.int .i64 (n:Int)):=by
 intro g b a w i;obtain⟨f,c⟩:=c;obtain⟨e,cap,h⟩:=j g b a w i;subst l;refine⟨.int .i64 (n:Int),?_,.int _ _⟩
 simp[execOp,resolve,invoke,builtin,h,Builtin.len_,run_underlying (gD c),goInt]
def ap9{b:TypeId}{a:Array TypeId}(e:PE E x= .bg)(h:a=#[t])(c:dU P t=c4 b):
 cM P ⟨d,.call {callee:=.builtin .len,args:=#[x],argTypes:=a},ty,pos,aft,gd⟩ E H (.int .i64 0):=
 Gi (n:=0) ⟨b,c⟩ h λ_ _ _ _ f=>⟨c6,0,(e▸f.e.eval x).pF⟩
def acm{b:TypeId}{a:Array TypeId}(h:PE E x= .z0)(j:a=#[t])(e:dU P t=c4 b):
 cM P ⟨d,.call {callee:=.builtin .len,args:=#[x],argTypes:=a},ty,pos,aft,gd⟩ E H (.int .i64 0):=
 Gi (n:=0) ⟨b,e⟩ j λ_ _ _ _ f=>let ⟨i,c⟩:=(h▸f.e.eval x).rh;⟨i,0,c⟩
def akg{k:IntKind}{m n:Int}{f:Array TypeId}(h:PE E x= .int k m)(i:PE E y= .int k n):
 cM P ⟨d,.call {callee:=.builtin .min,args:=#[x,y],argTypes:=f},ty,pos,aft,gd⟩ E H (.int k (min m n)):=by
 intro g j l w a;have e:=(h▸a.e.eval x).fQ;have b:=(i▸a.e.eval y).fQ;have c:(if n<m then n else m)=min m n:=by split <;> omega
 refine⟨.int k (min m n),?_,.int _ _⟩
 simp[execOp,resolve,invoke,builtin,e,b,Builtin.min_,Builtin.min2,c]
def ae4{k:IntKind}{m n:Int}{f:Array TypeId}(h:PE E x= .int k m)(i:PE E y= .int k n):
 cM P ⟨d,.call {callee:=.builtin .max,args:=#[x,y],argTypes:=f},ty,pos,aft,gd⟩ E H (.int k (max m n)):=by
 intro g j l w a;have e:=(h▸a.e.eval x).fQ;have b:=(i▸a.e.eval y).fQ;have c:(if m<n then n else m)=max m n:=by split <;> omega
 refine⟨.int k (max m n),?_,.int _ _⟩
 simp[execOp,resolve,invoke,builtin,e,b,Builtin.max_,Builtin.max2,c]
end
end Go.Bml
namespace Go.Bml
open Go
open Go.RowKit (Below)
def gI(g:Gh)(H:List aO)(w:World)(d:Nat)(b:List PV)(f:List Value):Prop:=
 f.length=b.length*d/\∀i e c,abk b i e=c4 c->∃a,f[i*d+e]?=c4 a/\a.oneCell'=true/\VR g H w c a
def nN{w:World}{b:Nat}{c:Obj}(a:w.heap[b]?=c4 c):b<w.heap.size:=(Array.getElem?_eq_some_iff.1 a).1
section
variable {g:Gh}{H:List aO}{w:World}
def bF.qD(h:bF g H w){r b C:Nat}(c:g.β r=c4 (b,C)):b<w.heap.size:=by
 have e:=h.m8 r b C c;have a:=(h.obj r _ (c5 e)).mem;rw[c] at a;obtain⟨_,cells,d,_⟩:=a;exact nN d
def Gh.push(g:Gh)(r:Nat)(p:Option (Nat×Nat)):Gh:={F:=g.F,β:=λq=>if q=r then p else g.β q}
def Gh.kg(g:Gh)(r:Nat)(p:Option (Nat×Nat)):(g.push r p).β r=p:=by simp[Gh.push]
def Gh.kS(g:Gh){r q:Nat}(p:Option (Nat×Nat))(h:q≠r):(g.push r p).β q=g.β q:=by simp[Gh.push,h]
def bF.T6(h:bF g H w)(ty sz:Nat)(D:0<sz):
 GStep H.length g H w (g.push H.length c6) (H++[⟨ty,sz,[],0⟩]) w/\bF (g.push H.length c6) (H++[⟨ty,sz,[],0⟩]) w:=by
 have x:GStep H.length g H w (g.push H.length c6) (H++[⟨ty,sz,[],0⟩]) w:=
  ⟨rfl,rfl,rfl,ef _,λ_ a=>a,λ_ _=>rfl,λ_ _ _=>rfl,λ_ a=>.inl a,λq b C a=>by
   by_cases e:q=H.length
   .subst e;rw[Gh.kg] at a;cases a
   .rw[Gh.kS g _ e] at a;exact .inr ⟨q,C,a⟩,λr o n d=>⟨o,by rw[dv n];exact d,ef _,λ_=>⟨rfl,rfl,Gh.kS g _ (by omega)⟩⟩⟩
 refine⟨x,⟨h.fb,?_,?_,?_⟩⟩
 .intro r u b C1 C2 l k
  by_cases j:r=H.length
  .subst j;rw[Gh.kg] at l;cases l
  .by_cases t:u=H.length
   .subst t;rw[Gh.kg] at k;cases k
   .rw[Gh.kS g _ j] at l;rw[Gh.kS g _ t] at k;exact h.inj r u b C1 C2 l k
 .intro r b s a
  by_cases j:r=H.length
  .subst j;simp
  .rw[Gh.kS g _ j] at a;have:=h.m8 r b s a;simp;omega
 .intro r o d
  by_cases j:r=H.length
  .subst j;rw[dt (ef _)] at d;simp at d;subst d;exact⟨D,by simp,by rw[Gh.kg]⟩
  .have n:r<H.length:=by
    have:=(c7.1 d).1;simp at this;omega
   rw[dv n] at d;obtain⟨a1,F,m⟩:=h.obj r o d;refine⟨a1,F,?_⟩
   rw[Gh.kS g _ j];cases a:g.β r with
   |none=>rw[a] at m;exact m
   |some p=>
    obtain⟨b,s⟩:=p;rw[a] at m;obtain⟨N,G,L,E,I,M,K⟩:=m;refine⟨N,G,L,E,I,M,λi y c J=>?_⟩
    obtain⟨B,l,k,A⟩:=K i y c J;exact⟨B,l,k,A.nZ x⟩
def wG(g:Gh)(H:List aO)(w h:World)(a:aO):Option (Nat×Nat)->Prop
 |none=>a.es=[]
 |some (b,c)=>∃cells,h.heap[b]?=c4 (.cells cells a.ty (0,0))/\cells.size=c*a.sz/\c<=maxLen/\a.es.length<=c/\∀i f e,abk a.es i f=c4 e->∃d,cells[i*a.sz+f]?=c4 d/\d.oneCell'=true/\VR g H w e d
def bF.set(h:bF g H w){r:Nat}{o o':aO}{w':World}{p:Option (Nat×Nat)}(G:H[r]?=c4 o)(W:w'.os=w.os)(X:w'.tape=w.tape)(Y:w'.output=w.output)(R:w.heap.size<=w'.heap.size)
 (N:∀b,b<w.heap.size->(∀C,g.β r≠c4 (b,C))->w'.heap[b]?=w.heap[b]?)
 (ac:o.aF<=o'.aF) (aa:o'.aF=o.aF->o'.sz=o.sz/\o'.es.length=o.es.length/\p=g.β r)
 (s:∀b C,p=c4 (b,C)->(∃d,g.β r=c4 (b,d))\/w.heap.size<=b)
 (ae:0<o'.sz) (V:∀(i:Nat) (e:PV),o'.es[i]?=c4 e->e.cells.length=o'.sz)
 (U:wG g H w w' o' p)
 :
  GStep H.length g H w (g.push r p) (H.set r o') w'/\bF (g.push r p) (H.set r o') w':=by
  have O:r<H.length:=(c7.1 G).1;have Z:=h.obj r o G;have Q:∀b C,g.β r=c4 (b,C)->¬g.F b:=λb C a=>by
   have:=Z.mem;rw[a] at this;exact this.1
  have J:GStep H.length g H w (g.push r p) (H.set r o') w':=by
   refine⟨W,X,Y,R,λ_ a=>a,λb a=>N b (h.fb b a) λC m=>Q b C m a,λb a ab=>N b a λC=>ab r C,λ_ a=>.inl a,λq b C a=>?_,λq A al n=>?_⟩
   .by_cases e:q=r
    .subst e;rw[Gh.kg] at a;rcases s b C a with⟨d,m⟩ |t
     .exact .inr ⟨q,d,m⟩
     .exact .inl t
    .rw[Gh.kS g _ e] at a;exact .inr ⟨q,C,a⟩
   by_cases e:q=r
   .subst e;rw[G] at n;injection n with n
    subst n;refine⟨o',by simp[O],ac,λah=>?_⟩
    obtain⟨af,aj,ak⟩:=aa ah;exact⟨af,aj,by rw[Gh.kg];exact ak⟩
   .exact⟨A,by rw[ey (qb e)];exact n,ef _,λ_=>⟨rfl,rfl,Gh.kS g _ e⟩⟩
  refine⟨J,⟨λb a=>l4 (h.fb b a) R,?_,?_,?_⟩⟩
  .intro q S b C1 C2 k j
   by_cases l:q=r <;> by_cases y:S=r
   .omega
   .subst l;rw[Gh.kg] at k;rw[Gh.kS g _ y] at j;rcases s b C1 k with⟨d,m⟩ |t
    .exact h.inj _ _ b d C2 m j
    .have:=h.qD j;omega
   .subst y;rw[Gh.kg] at j;rw[Gh.kS g _ l] at k;rcases s b C2 j with⟨d,m⟩ |t
    .exact h.inj _ _ b C1 d k m
    .have:=h.qD k;omega
   .rw[Gh.kS g _ l] at k;rw[Gh.kS g _ y] at j;exact h.inj q S b C1 C2 k j
  .intro q b d a
   by_cases l:q=r
   .subst l;simpa using O
   .rw[Gh.kS g _ l] at a;simpa using h.m8 q b d a
  .intro q A n
   by_cases l:q=r
   .subst l;simp[O] at n;subst n;refine⟨ae,V,?_⟩
    rw[Gh.kg];cases p with
    |none=>exact U
    |some F=>
     obtain⟨b,C⟩:=F;obtain⟨cells,u,I,K,P,M⟩:=U;refine⟨λT=>?_,cells,u,I,K,P,λi B c L=>?_⟩
     .rcases s b C rfl with⟨d,m⟩ |t
      .exact Q b d m T
      .have:=h.fb b T;omega
     .obtain⟨E,k,j,D⟩:=M i B c L;exact⟨E,k,j,D.nZ J⟩
   .rw[ey (qb l)] at n;obtain⟨a1,ad,x⟩:=h.obj q A n;refine⟨a1,ad,?_⟩
    rw[Gh.kS g _ l];cases a:g.β q with
    |none=>rw[a] at x;exact x
    |some F=>
     obtain⟨b,d⟩:=F;rw[a] at x;obtain⟨ai,ag,u,I,K,P,M⟩:=x;refine⟨ai,ag,(N b (nN u) λC m=>l (h.inj _ _ b _ _ a m)).trans u,I,K,P,λi B c L=>?_⟩
     obtain⟨E,k,j,D⟩:=M i B c L;exact⟨E,k,j,D.nZ J⟩
end
def Ez{g:Gh}{m:Nat}{H:List aO}{w:World}(c:bF g H w):GStep m g H w g H w.drew/\bF g H w.drew:=by
 have k:∀m,GStep m g H w g H w.drew:=λm=>⟨rfl,rfl,rfl,ef _,λ_ a=>a,λ_ _=>rfl,λ_ _ _=>rfl,λ_ a=>.inl a,λr _ j a=>.inr ⟨r,j,a⟩,λr f _ e=>⟨f,e,ef _,λ_=>⟨rfl,rfl,rfl⟩⟩⟩
 refine⟨k m,c.fb,c.inj,c.m8,λr f e=>?_⟩
 obtain⟨l,v,d⟩:=c.obj r f e;refine⟨l,v,?_⟩
 cases h:g.β r with
 |none=>rw[h] at d;exact d
 |some s=>
  obtain⟨b,j⟩:=s;rw[h] at d;obtain⟨E,x,C,u,z,D,B⟩:=d;exact⟨E,x,C,u,z,D,λi n y A=>let ⟨p,t,q,o⟩:=B i n y A;⟨p,t,q,o.nZ (k _)⟩⟩
def PV.one:PV->Bool
 | .agg _ | .bu _ | .any=>false
 |_=>true
def VR.M8{g:Gh}{H:List aO}{w:World}{c:PV}{x:Value}(h:VR g H w c x)(e:c.one=true):x.oneCell'=true:=by
 cases h with
 |aW h=>cases h <;> first |rfl |(simp[PV.one] at e;done)
 |ptr=>rfl
 |sl r v off len o x n d a j=>exact a
 |fl r v o x n d a j=>exact a
 |agg l m k d=>simp[PV.one] at e
 |bu l m k d=>simp[PV.one] at e
 |fn=>rfl
end Go.Bml
namespace Go.Bml
open Go
section
variable {g:Gh}{H:List aO}{w:World}
def VR.tZ{v:PV}{x:Value}(h:VR g H w v x)(j:v.cells.all PV.one=true)(ht:∀vs,v≠ .bu vs):x.cells.toList.length=v.cells.length/\
 ∀(e:Nat) (c:PV),v.cells[e]?=c4 c->∃k,x.cells[e]?=c4 k/\k.oneCell'=true/\VR g H w c k:=by
 by_cases s:∃o,v= .agg o
 .obtain⟨o,rfl⟩:=s;obtain⟨u,rfl,n,D⟩:=h.ky;refine⟨by simp[o6,PV.cells,n],λe c a=>?_⟩
  simp only[PV.cells] at a j;have B:e<u.length:=by rw[<-n];exact(c7.1 a).1
  have A:=D e c _ a (c5 B);refine⟨u[e],by simp[o6,B],A.M8 ?_,A⟩
  exact h7.1 j c (dT a)
 .have l:v.cells=[v]:=by cases v <;> first |rfl |exact absurd ⟨_,rfl⟩ s
  have C:v.one=true:=by rw[l] at j;simpa using j
  have m:=h.M8 C;have F:x.cells=#[x]:=by cases x <;> first |rfl |(simp[Value.oneCell'] at m;done)
  rw[l,F];refine⟨rfl,λe c a=>?_⟩
  match e,a with
  |0,a=>
   simp at a;subst a;exact⟨x,rfl,m,h⟩
def Rk{v:PV}{i c:Nat}{b:PV}(a:abk [v] i c=c4 b):i=0/\v.cells[c]?=c4 b:=by
 unfold abk at a
 match i,a with
 |0,a=>exact⟨rfl,by simpa using a⟩
 |i+1,a=>simp at a
end
section
variable {P:Program}{nt:Nat}{Q:fE}{E:Env}{H:List aO}{d:Option Nat}{ty:TypeId}{pos:String}{aft:Array Edge}{x y z:Operand}{t:TypeId}{all:Array Oper}{rest:List Oper}
def nY(P:Program)(E:Env)(H:List aO)(r:Oper)(elem a:Nat)(b:List PV)(v:Nat->Nat->PV):Prop:=
 ∀g nt (k:Act) w,Rel g nt E H k w->∃(cells:Array Value) (c:Nat) (x:Value) (f:World),(execOp k.eval r).run P w= .ok (.value x) (f.alloc (.cells cells elem))/\(f=w\/f=w.drew)/\
  0<a/\(∀(i:Nat) (m:PV),b[i]?=c4 m->m.cells.length=a)/\cells.size=c*a/\c<=maxLen/\b.length<=c/\
  (∀i l j,abk b i l=c4 j->∃e,cells[i*a+l]?=c4 e/\e.oneCell'=true/\VR g H w j e)/\
  (∀n o p q h,n.β q=c4 (w.heap.size,c)->o[q]?=c4 ⟨elem,a,b,h⟩->VR n o p (v q h) x)
def sX{s:Op}{elem e q Y G c:Nat}{f:List PV}{v:Nat->Nat->PV}(p:H[q]?=c4 ⟨Y,G,[],c⟩)
 (h:nY P E H ⟨d,s,ty,pos,aft,c6⟩ elem e f v):
 fJ P ⟨d,s,ty,pos,aft,c6⟩ E H λK S=>K=v q (c+1)/\S=H.set q ⟨elem,e,f,c+1⟩:=by
 intro g nt X w o ak aj ag;obtain⟨cells,k,x,a,ad,F,U,N,ae,ab,I,D,Z⟩:=h g nt X w o;unfold n0;rw[ad];have T:=(c7.1 p).1;have C:∀a:World,bF g H a->(∀i l n,abk f i l=c4 n->∃j,cells[i*e+l]?=c4 j/\j.oneCell'=true/\VR g H a n j)->
  GStep H.length g H a (g.push q (c4 (a.heap.size,k))) (H.set q ⟨elem,e,f,c+1⟩) (a.alloc (.cells cells elem))/\
  bF (g.push q (c4 (a.heap.size,k))) (H.set q ⟨elem,e,f,c+1⟩) (a.alloc (.cells cells elem)):=λa A V=>by
  have ai:=(A.obj q _ p).mem;refine A.set p rfl rfl rfl (by simp) (λb J _=>gv a _ b J) (by simp) (λh=>absurd h (by simp)) (λb ah h=>?_) U N ?_
  .injection h with h;injection h with r B;subst r;exact .inr (ef _)
  .refine⟨cells,heap_alloc_new a _,ae,ab,I,V⟩
 have L:GStep H.length g H w (g.push q (c4 (w.heap.size,k))) (H.set q ⟨elem,e,f,c+1⟩) (a.alloc (.cells cells elem))/\
  bF (g.push q (c4 (w.heap.size,k))) (H.set q ⟨elem,e,f,c+1⟩) (a.alloc (.cells cells elem)):=by
  rcases F with rfl |rfl
  .exact C _ o.m D
  .obtain⟨u,O⟩:=Ez (m:=H.length) o.m;obtain⟨W,R⟩:=C _ O λi l n ac=>let ⟨j,r,B,M⟩:=D i l n ac;⟨j,r,B,M.nZ u⟩
   exact⟨u.trans W,R⟩
 obtain⟨aa,af⟩:=L;exact ag x _ (g.push q (c4 (w.heap.size,k))) (v q (c+1)) (H.set q ⟨elem,e,f,c+1⟩) ⟨rfl,rfl⟩ (Z _ _ _ _ _ (Gh.kg _ _ _) (by simp[T])) af aa
def P7{e:Gh}{f:List aO}{j:World}{elem h c b q a:Nat}{v:PV}(i:e.β q=c4 (b,c))(k:f[q]?=c4 ⟨elem,h,[v],a⟩):
 VR e f j (.ptr q a 0 0) (.pointer (c4 ⟨b,0,c6⟩)):=
 .ptr _ a 0 0 _ _ k (ef _) λ_=>⟨by simp,b,c,i,by simp⟩
def FO{g':Gh}{f:List aO}{w':World}{elem h c b q e:Nat}{a:List PV}(j:g'.β q=c4 (b,c))(k:f[q]?=c4 ⟨elem,h,a,e⟩)(i:a.length<=c):
 VR g' f w' (.sl q e 0 a.length) (.slice (c4 ⟨b,0,c6⟩) a.length c):=
 .sl _ e 0 _ _ _ k (ef _) rfl λ_=>by
  refine⟨by simp,?_⟩
  rw[j];exact⟨c,_,rfl,i,λ_=>by simp,λ_=>⟨rfl,rfl⟩⟩
def alO{elem b:Nat}{v:PV}(p:PE E x=v)(m:v.cells.length=b)(s:0<b)(k:v.cells.all PV.one=true)(l:∀vs,v≠ .bu vs):
 nY P E H ⟨d,.box elem x,ty,pos,aft,c6⟩ elem b [v] (λq e=>.ptr q e 0 0):=by
 intro g nt o w h;have r:=p▸h.e.eval x;obtain⟨A,B⟩:=r.tZ k l;refine⟨(o.eval x).cells,1,.pointer (c4 ⟨w.heap.size,0,c6⟩),w,?_,.inl rfl,s,?_,?_,by simp[maxLen],by simp,?_,λC F D q e j n=>P7 j n⟩
 .simp[execOp,Instr.box,newVar,newRow]
 .intro i G a
  match i,a with
  |0,a=>simp at a;subst a;exact m
  |i+1,a=>simp at a
 .simp at A;omega
 .intro i f u c;obtain⟨rfl,c⟩:=Rk c;simpa using B f u c
def Hl(z:Value)(vs:List PV):kP z≠ .bu vs:=by
 unfold kP
 split
 .simp
 .unfold jq
  split <;> simp
def Ug{elem c:Nat}{b:Value}{v:PV}(m:dV P elem=c4 b)(f:kP b=v)(n:v.cells.length=c)(p:0<c)(l:v.cells.all PV.one=true):
 nY P E H ⟨d,.alloc elem,ty,pos,aft,c6⟩ elem c [v] (λq h=>.ptr q h 0 0):=by
 intro g nt G w B;have A:VR g H w v b:=f▸ .aW (AE _ _ _);obtain⟨s,u⟩:=A.tZ l (λvs=>f▸Hl b vs);refine⟨b.cells,1,.pointer (c4 ⟨w.heap.size,0,c6⟩),w,?_,.inl rfl,p,?_,?_,by simp[maxLen],by simp,?_,λC F D q h k o=>P7 k o⟩
 .simp[execOp,Instr.alloc,Ey m,newVar,newRow]
 .intro i I a
  match i,a with
  |0,a=>simp at a;subst a;exact n
  |i+1,a=>simp at a
 .simp at s;omega
 .intro i j r e;obtain⟨rfl,e⟩:=Rk e;simpa using u j r e
def kB(P:Program)(t:TypeId):Option Nat:=(P.info? t).map (·.bytes)
def Rq{c:Nat}{v:PV}{i f:Nat}{e:PV}(a:abk (hB c v) i f=c4 e):i<c/\v.cells[f]?=c4 e:=by
 unfold abk at a
 by_cases b:i<c
 .rw[List.getElem?_replicate_of_lt b] at a;exact⟨b,by simpa using a⟩
 .rw[hI (by simpa using b)] at a;simp at a
def aax{m j:Operand}{elem b l:Nat}{c:Value}{v:PV}{u s:IntKind}{G A:Int}{a:Nat}(I:PE E m= .int u G)(f:PE E j= .int s A)(ac:G=(a:Int))(ai:A=(a:Int))(S:dU P t=c4 elem)(o:cH P elem=c4 b)(T:kB P elem=c4 l)
 (ao:a*l<=281474976710656) (aq:a<=9223372036854775807) (U:dV P elem=c4 c) (C:kP c=v) (r:v.cells.length=b) (ab:0<b) (O:v.cells.all PV.one=true):
 nY P E H ⟨d,.makeSlice t m j,ty,pos,aft,c6⟩ elem b (hB a v) (λq F=>.sl q F 0 a):=by
 intro g nt am w n;have ah:VR g H w v c:=C▸ .aW (AE _ _ _);obtain⟨ad,ag⟩:=ah.tZ O (λvs=>C▸Hl c vs);have X:=(I▸n.e.eval m).fQ;have ae:=(f▸n.e.eval j).fQ;subst ac;subst ai;cases k:P.info? elem with
 |none=>simp[cH,k] at o
 |some e=>
  have R:e.zero=c4 c:=by simpa[dV,k] using U
  have D:e.size=b:=by simpa[cH,k] using o
  have Z:e.bytes=l:=by simpa[kB,k] using T
  have J:(e.bytes:Int)*(a:Int)<=281474976710656:=by
   have:((e.bytes*a:Nat):Int)<=281474976710656:=by rw[Z,l2];omega
   rwa [Int.natCast_mul] at this
  have B:=run_make (P:=P) w t elem e c (gD S) k R u s a a (by omega) (by omega) J (by omega);simp only[Int.toNat_natCast] at B;have aa:c.cells.size=b:=by simp at ad;omega
  refine⟨madeCells c.cells (a*e.size),a,.slice (c4 ⟨w.heap.size,0,c6⟩) a a,w,?_,.inl rfl,ab,?_,?_,by unfold maxLen;omega,by simp,?_,λg' al w' q F K W=>?_⟩
  .simp[execOp,X,ae,B]
  .intro i an af;have p:=(c7.1 af).2;simp at p;subst p;exact r
  .rw[size_madeCells,D]
  .intro i h j f;obtain⟨ap,f⟩:=Rq f;obtain⟨M,ak,Y,N⟩:=ag h j f;have aj:h<b:=by rw[<-r];exact(c7.1 f).1
   refine⟨M,?_,Y,N⟩
   have L:i*b+h<a*b:=by
    have:(i+1)*b<=a*b:=ev _ (by omega);rw[eo,hX] at this;omega
   have V:(i*b+h)%c.cells.size=h:=by
    rw[aa,l2,q3,p0 aj]
   simp only[madeCells,D];rw[Array.getElem?_map,Array.getElem?_range];rw[if_pos L];simp only[o1,V];rw[getElem!_def,ak]
  .have:=FO (g':=g') (w':=w') K W (by simp);simpa using this
end
section
variable {P:Program}{nt:Nat}{Q:fE}{E:Env}{H:List aO}{d:Option Nat}{ty:TypeId}{pos:String}{aft:Array Edge}{x y z:Operand}{t:TypeId}{all:Array Oper}{rest:List Oper}
def WX{b:List PV}{i:Nat}{g f:PV}(h:b[i]?=c4 g)(a e:Nat):abk (b.set i f) a e=if a=i then f.cells[e]? else abk b a e:=by
 unfold abk
 by_cases c:a=i
 .subst c;have j:=(c7.1 h).1;simp[j]
 .simp[c,ey (qb c)]
def QH{r v i a:Nat}{o:aO}{p e e':PV}(aD:PE E x= .ptr r v i a)(R:ek H r o)(au:o.aF=v)(aH:PE E y=p)(aB:cH P t=c4 p.cells.length)
 (ao:p.cells.all PV.one=true) (aC:∀vs,p≠ .bu vs) (M:o.es[i]?=c4 e) (aS:a+p.cells.length<=e.cells.length) (W:e'.cells=e.cells.take a++p.cells++e.cells.drop (a+p.cells.length)):
 fJ P ⟨d,.store t x y,ty,pos,aft,c6⟩ E H λay H1=>ay= .any/\H1=H.set r ⟨o.ty,o.sz,o.es.set i e',o.aF⟩:=by
 intro g nt l u F aL aX ar;obtain⟨b,C,aK,aj,K,am,ad,aa,aA,U⟩:=Dc F.m (aD▸F.e.eval x) R au;have aG:=aH▸F.e.eval y;obtain⟨G,Y⟩:=aG.tZ ao aC;have I:=F.m.obj r o R;have aM:=I.width i e M;have B:i*o.sz+a+0+(l.eval y).cells.toList.length<=aK.size:=by
  rw[aa,G];have:(i+1)*o.sz<=C*o.sz:=ev _ (by omega);rw[eo,hX] at this;omega
 have S:∀c∈(l.eval y).cells.toList,c.oneCell'=true:=by
  intro c j;obtain⟨s,Z,rfl⟩:=ej j;have al:s<p.cells.length:=by omega
  obtain⟨c,j,m,_⟩:=Y s _ (c5 al);have:(l.eval y).cells.toList[s]=c:=by
   rw[<-fe,c5 Z] at j;injection j
  rw[this];exact m
 have ae:=run_storeCells_at P b (i*o.sz+a) o.ty (l.eval y).cells.toList 0 aK u ad B S;simp only[l1] at ae;have ap:H[r]?=c4 o:=R;have aq:(execOp l.eval ⟨d,.store t x y,ty,pos,aft,c6⟩).run P u= .ok .skip (u.setRow b (aK.toList.take (i*o.sz+a)++(l.eval y).cells.toList++aK.toList.drop (i*o.sz+a+(l.eval y).cells.toList.length)).toArray):=by
  have aE:(l.eval y).cells.size=p.cells.length:=by simpa using G
  simp only[execOp,aj,Instr.storeAt,hD,gb,hz,ez,storeVar,run_sizeOf aB,aE,ne_eq,not_true_eq_false,if_false,ae]
 unfold n0;rw[aq];generalize O:(aK.toList.take (i*o.sz+a)++(l.eval y).cells.toList++aK.toList.drop (i*o.sz+a+(l.eval y).cells.toList.length)).toArray=n;have ax:n.size=aK.size:=by
  rw[<-O];simp only[kc,eH,ft,j5,gy];simp at B⊢;omega
 have ag:∀s,s<p.cells.length->n[i*o.sz+a+s]?=(l.eval y).cells[s]? :=λs Z=>by
  rw[<-O,kd,eE,dt (by simp;omega),dv (by simp at G⊢;omega)];simp
  congr 1
  simp at B;omega
 have N:∀q,q<i*o.sz+a\/i*o.sz+a+p.cells.length<=q->n[q]?=aK[q]? :=λq L=>by
  rw[<-O,kd];simp at B;rcases L with L |L
  .rw[eE,dv (by simp;omega),e0 L];simp
  .rw[dt (by simp at G⊢;omega),ea];simp at G⊢
   congr 1
   omega
 have aT:i*o.sz+a<=aK.size:=by simp at B;omega
 have ai:=F.m.set (r:=r) (o:=o) (o':=⟨o.ty,o.sz,o.es.set i e',o.aF⟩) (w':=u.setRow b n) (p:=c4 (b,C)) ap rfl rfl rfl (by simp)
  (λab aR af=>setRow_other u b ab n (λe=>af C (by rw[e];exact K))) (ef _) (λ_=>⟨rfl,by simp,K.symm⟩)
  (λab aI V=>by injection V with V;injection V with S m;subst S;exact .inl ⟨C,K⟩) I.pos
  (λh T D=>by
   by_cases A:h=i
   .subst A;simp[am] at D;subst D;rw[W];simp;omega
   .simp only at D;rw[ey (qb A)] at D;exact I.width h T D)
  (by
   have X:=I.mem;rw[K] at X;obtain⟨_,aV,aQ,aY,aF,aU,aP⟩:=X;refine⟨n,setRow_heap u b aK n o.ty (0,0) ad,by rw[ax,aa],aF,by simpa using aA,λh k J f=>?_⟩
   show ∃c,n[h*o.sz+k]?=c4 c/\c.oneCell'=true/\VR g H u J c
   simp only at f;rw[WX M] at f
   by_cases A:h=i
   .subst A;rw[if_pos rfl,W,eE] at f
    by_cases ak:k<a
    .rw[dv (by simp;omega),e0 ak] at f;obtain⟨c,j,m,w⟩:=U h k J (by unfold abk;rw[M];exact f);exact⟨c,(N _ (.inl (by omega))).trans j,m,w⟩
    .rw[dt (by simp;omega)] at f;have az:min a e.cells.length=a:=by omega
     simp only[ft,az] at f
     by_cases ac:k -a<p.cells.length
     .rw[dv ac] at f;obtain⟨c,j,m,w⟩:=Y _ J f;refine⟨c,?_,m,w⟩
      have:=ag (k -a) ac;rw[show h*o.sz+a+(k -a)=h*o.sz+k by omega] at this;exact this.trans j
     .rw[dt (by omega),ea] at f;rw[show a+p.cells.length+(k -a -p.cells.length)=k by omega] at f;obtain⟨c,j,m,w⟩:=U h k J (by unfold abk;rw[M];exact f);exact⟨c,(N _ (.inr (by omega))).trans j,m,w⟩
   .rw[if_neg A] at f;obtain⟨c,j,m,w⟩:=U h k J f;refine⟨c,(N _ ?_).trans j,m,w⟩
    obtain⟨T,an,aN⟩:=gw f;have aJ:=I.width h T an;rcases Nat.lt_or_gt_of_ne A with ah |jo
    .have:(h+1)*o.sz<=i*o.sz:=ev _ ah;rw[eo,hX] at this;exact .inl (by omega)
    .have:(i+1)*o.sz<=h*o.sz:=ev _ jo;rw[eo,hX] at this;exact .inr (by omega))
 obtain⟨av,aw⟩:=ai;exact ar undef _ (g.push r (c4 (b,C))) .any _ ⟨rfl,rfl⟩ (.any _) aw av
def lE(H:List aO)(p:PV)(c:Nat)(b:List PV):Prop:=
 p= .vs c b\/(p= .bg/\b=[])\/(p= .z0/\b=[])\/∃r v e len a,p= .sl r v e len/\ek H r a/\a.aF=v/\a.sz=c/\b=(a.es.drop e).take len
def Jv{b a q:Nat}(c:0<a)(e:q<b*a):q/a<b/\q%a<a/\q/a*a+q%a=q:=by
 refine⟨(Nat.div_lt_iff_lt_mul c).2 e,q5 _ c,?_⟩
 rw[l2];exact Nat.div_add_mod q a
def Gg{a:List PV}{c i b:Nat}(h:∀(i:Nat) (e:PV),a[i]?=c4 e->e.cells.length=c)(j:i<a.length)(k:b<c):∃g,abk a i b=c4 g:=by
 have f:=c5 j;have:=h i _ f;refine⟨a[i].cells[b]'(by omega),?_⟩
 unfold abk;rw[f];exact c5 (by omega)
def gI.one{g:Gh}{H:List aO}{s:World}{sz:Nat}{es:List PV}{l:List Value}(h:gI g H s sz es l)(o:0<sz)(w:∀(i:Nat) (e:PV),es[i]?=c4 e->e.cells.length=sz):∀j∈l,j.oneCell'=true:=by
 intro j C;obtain⟨q,k,rfl⟩:=ej C;obtain⟨m,u,n⟩:=Jv o (h.1▸k);obtain⟨c,B⟩:=Gg w m u;obtain⟨j,a,A,_⟩:=h.2 _ _ _ B;rw[n,c5 k] at a;injection a with a
 rw[a];exact A
def lE.real{g:Gh}{w:World}{p:PV}{sz:Nat}{l:List PV}{v:Value}(af:bF g H w)(h:lE H p sz l)(s:VR g H w p v)(N:0<sz):
 (∀(i:Nat) (e:PV),l[i]?=c4 e->e.cells.length=sz)/\∃a cap,v= .slice a l.length cap/\(l=[]\/∃R K,a=c4 R/\gI g H w sz l K/\∀j m,K[j]?=c4 m->w.cell? (R.add j)=c4 m):=by
 rcases h with rfl |⟨rfl,rfl⟩ |⟨rfl,rfl⟩ |⟨r,al,off,len,k,rfl,L,X,A,rfl⟩
 .cases s with
  |aW s=>
   cases s with
   |eX sz a cap=>exact⟨by simp,a,cap,rfl,.inl rfl⟩
   |vs _ _ b off cap m F am A o J ag=>
    refine⟨A,c4 ⟨b,off,c6⟩,cap,rfl,.inr ⟨⟨b,off,c6⟩,(n2 (l.length*sz)).map λq=>m (q/sz) (q%sz),rfl,⟨by simp,λi j c B=>?_⟩,λq an D=>?_⟩⟩
    .obtain⟨e,he,ak⟩:=gw B;have hi:=(c7.1 he).1;have W:=A i e he;have G:i*sz+j<l.length*sz:=by
      have:(i+1)*sz<=l.length*sz:=ev _ (by omega);rw[eo,hX] at this;omega
     refine⟨m i j,?_,J i j c B,.aW (ag i j c B)⟩
     rw[e6,h9 G];have ah:(i*sz+j)/sz=i:=by rw[l2,Nat.mul_add_div N,Nat.div_eq_of_lt (by omega)];omega
     have S:(i*sz+j)%sz=j:=by rw[l2,q3,p0 (by omega)]
     simp[ah,S]
    .have M:q<l.length*sz:=by
      have:=(c7.1 D).1;simpa using this
     rw[e6,h9 M] at D;simp at D;subst D;obtain⟨ac,aa,ae⟩:=Jv N M;obtain⟨c,B⟩:=Gg A ac aa;have:=o _ _ _ B;rw[ae] at this;rw[h8];exact this
 .exact⟨by simp,c6,0,s.pF,.inl rfl⟩
 .obtain⟨a,Z⟩:=s.rh;exact⟨by simp,a,0,Z,.inl rfl⟩
 .have u:=lh s L X;have I:=af.obj r k L;subst A;unfold SL at u;obtain⟨ao,u⟩:=u;have F:((k.es.drop off).take len).length=len:=by simp;omega
  refine⟨λi e he=>?_,?_⟩
  .rw[h6] at he
   split at he
   .rw[ea] at he;exact I.width _ e he
   .cases he
  .rw[F]
   split at u
   .obtain⟨_,rfl,a,rfl⟩:=u;exact⟨a,0,rfl,.inl (by simp)⟩
   .rename_i b C U;obtain⟨cap,a,rfl,_,T,_⟩:=u;refine⟨a,cap,rfl,?_⟩
    by_cases h0:len=0
    .exact .inl (by simp[h0])
    .obtain rfl:=T h0;have O:=I.mem;rw[U] at O;obtain⟨_,cells,aj,ab,ap,aq,ai⟩:=O;have Y:(off+len)*k.sz<=C*k.sz:=ev _ (by omega);rw[eo] at Y;refine .inr ⟨⟨b,off*k.sz,c6⟩,(cells.toList.drop (off*k.sz)).take (len*k.sz),rfl,⟨by rw[F,ft,j5,gy,ab];omega,λi j c o=>?_⟩,λq m n=>?_⟩
     .obtain⟨e,he,ak⟩:=gw o;rw[h6] at he
      split at he
      .rename_i hi;rw[ea] at he;have W:=I.width _ e he;have ad:abk k.es (off+i) j=c4 c:=by
        unfold abk at o⊢;rw[e0 hi,ea] at o;exact o
       obtain⟨m,n,J,V⟩:=ai _ _ _ ad;refine⟨m,?_,J,V⟩
       have G:i*k.sz+j<len*k.sz:=by
        have:(i+1)*k.sz<=len*k.sz:=ev _ (by omega);rw[eo,hX] at this;omega
       rw[e0 G,ea,fe, <-j1, <-eo];exact n
      .cases he
     .rw[h6] at n
      split at n
      .rw[ea,fe] at n;rw[h8,cell_of_row w b _ cells k.ty (0,0) aj];exact n
      .cases n
end
section
variable {P:Program}{nt:Nat}{Q:fE}{E:Env}{H:List aO}{d:Option Nat}{ty:TypeId}{pos:String}{aft:Array Edge}{x y z:Operand}{t:TypeId}{all:Array Oper}{rest:List Oper}
def xr{f:World}{k e:TypeId}{h b cap g:Nat}{a c:Option Addr}(j:P.underlying t=c4 (.slice e))(i:cH P e=c4 h)(l:b<=cap):
 (hL #[t,t] k #[.slice a b cap,.slice c 0 g]).run P f= .ok (.slice a b cap) f:=by
 cases a <;> cases c <;> simp[hL,run_underlying j,run_sizeOf i,Builtin.lenOf,Builtin.firstCells,l,loadCells,loadCellsFrom,storeCells]
def Ei{c:Operand}{a:Act}{b:World}:(execOp a.eval ⟨d,.call {callee:=.builtin .append,args:=#[c,x],argTypes:=#[t,t]},ty,pos,aft,c6⟩).run P b=
 ((hL #[t,t] ty #[a.eval c,a.eval x]).run P b).andThen λv e=>.ok (.value v) e:=by
 simp[execOp,resolve,invoke,builtin]
def Pb{s:Operand}{r v len by_:Nat}{o:aO}{p:PV}{c:List PV}{K:Value}(bj:PE E s= .sl r v 0 len)(au:ek H r o)(bi:o.aF=v)(bs:PE E x=p)(a6:lE H p o.sz c)
 (O:dU P t=c4 o.ty) (Y:cH P o.ty=c4 o.sz) (br:kB P o.ty=c4 by_) (aZ:dV P o.ty=c4 K) (az:K.cells.size=o.sz) (aI:(len+c.length)*by_<=140737488355328) (a4:len+c.length<=9223372036854775807):
 fJ P ⟨d,.call {callee:=.builtin .append,args:=#[s,x],argTypes:=#[t,t]},ty,pos,aft,c6⟩ E H λbo H1=>bo= .sl r (v+1) 0 (len+c.length)/\H1=H.set r ⟨o.ty,o.sz,o.es.take len++c,v+1⟩:=by
 intro g nt aQ a X bw bE ba;have Z:=X.m.obj r o au;have ai:=Z.pos;have a1:=lh (bj▸X.e.eval s) au bi;obtain⟨aC,bh,U,aY,ay⟩:=a6.real X.m (bs▸X.e.eval x) ai;obtain⟨bk,ac⟩:=id a1;simp only[gx] at bk;have aF:H[r]?=c4 o:=au;have am:len+c.length<=maxLen:=by unfold maxLen;omega
 cases I:P.info? o.ty with
 |none=>simp[cH,I] at Y
 |some J=>
 have ak:J.zero=c4 K:=by simpa[dV,I] using aZ
 have aA:J.size=o.sz:=by simpa[cH,I] using Y
 have W:J.bytes=by_:=by simpa[kB,I] using br
 have ae:(o.es.take len).length=len:=by simp;omega
 have aN:∀(i:Nat) (m:PV),(o.es.take len++c)[i]?=c4 m->m.cells.length=o.sz:=by
  intro i m F
  by_cases ad:i<len
  .rw[dv (by omega),e0 ad] at F;exact Z.width i m F
  .rw[dt (by omega)] at F;exact aC _ m F
 have aV:∃(C:Value) (j:World) (q:Option (Nat×Nat)),(hL #[t,t] ty #[aQ.eval s,aQ.eval x]).run P a= .ok C j/\
  j.os=a.os/\j.tape=a.tape/\j.output=a.output/\a.heap.size<=j.heap.size/\(∀b,b<a.heap.size->(∀e,g.β r≠c4 (b,e))->j.heap[b]?=a.heap[b]?)/\
  (∀b e,q=c4 (b,e)->(∃L,g.β r=c4 (b,L))\/a.heap.size<=b)/\
  wG g H a j ⟨o.ty,o.sz,o.es.take len++c,v+1⟩ q/\
  (match q with
   |none=>len+c.length=0/\∃w,C= .slice w 0 0
   |some (b,e)=>C= .slice (c4 ⟨b,0,c6⟩) (len+c.length) e/\len+c.length<=e):=by
  have aq:∀(S n:List Value) (cells:Array Value),S.length=len*o.sz->gI g H a o.sz c n->(∀i h l,i<len->abk o.es i h=c4 l->∃k,S[i*o.sz+h]?=c4 k/\k.oneCell'=true/\VR g H a l k)->
   cells.toList.take ((len+c.length)*o.sz)=S++n->∀i h l,abk (o.es.take len++c) i h=c4 l->∃k,cells[i*o.sz+h]?=c4 k/\k.oneCell'=true/\VR g H a l k:=by
   intro S n cells N B aj bd i h l A;obtain⟨m,F,bb⟩:=gw A;have bA:=aN i m F;have ad:=(c7.1 F).1;rw[eH,ae] at ad;have bc:i*o.sz+h<(len+c.length)*o.sz:=by
    have:(i+1)*o.sz<=(len+c.length)*o.sz:=ev _ (by omega);rw[eo,hX] at this;omega
   have bp:cells[i*o.sz+h]?=(S++n)[i*o.sz+h]? :=by rw[<-bd,e0 bc,fe]
   rw[bp]
   by_cases ax:i<len
   .have av:abk o.es i h=c4 l:=by
     unfold abk at A⊢;rw[dv (by omega),e0 ax] at A;exact A
    obtain⟨k,M,D,G⟩:=aj i h l ax av;refine⟨k,?_,D,G⟩
    rw[dv (c7.1 M).1];exact M
   .have av:abk c (i -len) h=c4 l:=by
     unfold abk at A⊢;rw[dt (by omega),ae] at A;exact A
    obtain⟨k,M,D,G⟩:=B.2 _ _ _ av;refine⟨k,?_,D,G⟩
    have aL:i*o.sz=len*o.sz+(i -len)*o.sz:=by rw[<-eo];congr 1;omega
    rw[dt (by rw[N,aL];omega),N,aL];rw[show len*o.sz+(i -len)*o.sz+h -len*o.sz=(i -len)*o.sz+h by omega];exact M
  rw[aY];cases aa:g.β r with
  |none=>
   rw[aa] at ac;obtain⟨_,rfl,aw,ap⟩:=ac;rw[ap];have bx:o.es=[]:=by have:=Z.mem;rw[aa] at this;exact this
   rcases ay with rfl |⟨w,n,rfl,B,ag⟩
   .exact⟨_,a,c6,xr (gD O) Y (ef _),rfl,rfl,rfl,ef _,λ_ _ _=>rfl,(λ_ _ f=>by cases f),by simp[wG],by simp⟩
   .by_cases aJ:c=[]
    .subst aJ;exact⟨_,a,c6,xr (gD O) Y (ef _),rfl,rfl,rfl,ef _,λ_ _ _=>rfl,(λ_ _ f=>by cases f),by simp[wG],by simp⟩
    .have bn:0<c.length:=o9.2 aJ;have aR:n.length=c.length*J.size:=by rw[aA];exact B.1
     simp only[gx] at aI a4 am;have bm:∃e,(hL #[t,t] ty #[.slice aw 0 0,.slice (c4 w) c.length U]).run P a= .ok (.slice (c4 ⟨a.heap.size,0,c6⟩) c.length e) (a.drew.alloc (.cells (n.toArray++m2 K.cells (e -c.length)) o.ty))/\c.length<=e/\e<=maxLen:=by
      refine⟨grownCap a c.length 0 o.ty,?_,grownCap_ge a _ _ _,grownCap_le_maxLen a _ _ _ am⟩
      cases aw with
      |none=>exact run_append_nil a t ty o.ty J K (gD O) I ak w c.length U n aR ag bn (by omega) (by rw[W];omega)
      |some aX=>
       have:=run_append_grow (P:=P) a t ty o.ty J K (gD O) I ak aX 0 0 [] (by simp) (by simp) w c.length U n aR ag (by omega) (by omega) (growslice_fits (by omega) (by rw[W,gx];omega));simpa using this
     obtain⟨e,V,aD,a8⟩:=bm;refine⟨_,_,c4 (a.heap.size,e),V,rfl,rfl,rfl,by simp,λb a2 _=>gv a.drew _ b a2,λb L f=>by injection f with f;injection f with D G;exact .inr (by omega),?_,by simp,by simpa using aD⟩
     refine⟨_,heap_alloc_new a.drew _,?_,a8,by simpa using aD,?_⟩
     .simp only[oS,kc,size_zeroCells,az,B.1, <-eo]
      congr 1
      omega
     .refine aq [] n _ (by simp) B (λi h l I=>by omega) ?_
      simp only[Array.toList_append,o2,gx];rw[<-B.1];exact List.take_left
  |some R=>
   obtain⟨b,e⟩:=R;rw[aa] at ac;obtain⟨cap,aw,ap,ah,_,has⟩:=ac;obtain⟨rfl,rfl⟩:=has rfl;rw[ap];have aG:=Z.mem;rw[aa] at aG;obtain⟨bC,aK,aH,aP,aS,bD,a9⟩:=aG;have aj:∀i h l,i<len->abk o.es i h=c4 l->∃k,(aK.toList.take (len*o.sz))[i*o.sz+h]?=c4 k/\k.oneCell'=true/\VR g H a l k:=by
    intro i h l ad A;obtain⟨k,M,D,G⟩:=a9 i h l A;refine⟨k,?_,D,G⟩
    obtain⟨m,F,bb⟩:=gw A;have bz:=Z.width i m F;have aU:i*o.sz+h<len*o.sz:=by
     have:(i+1)*o.sz<=len*o.sz:=ev _ (by omega);rw[eo,hX] at this;omega
    rw[e0 aU,fe];exact M
   have N:(aK.toList.take (len*o.sz)).length=len*o.sz:=by
    have:len*o.sz<=cap*o.sz:=ev _ ah;simp;omega
   have aE:c=[]->∃(C:Value) (j:World) (q:Option (Nat×Nat)),(hL #[t,t] ty #[.slice (c4 ⟨b,0,c6⟩) len cap,.slice bh c.length U]).run P a= .ok C j/\
    j.os=a.os/\j.tape=a.tape/\j.output=a.output/\a.heap.size<=j.heap.size/\(∀u,u<a.heap.size->(∀e,c4 (b,cap)≠c4 (u,e))->j.heap[u]?=a.heap[u]?)/\
    (∀u e,q=c4 (u,e)->(∃L,c4 (b,cap)=c4 (u,L))\/a.heap.size<=u)/\
    wG g H a j ⟨o.ty,o.sz,o.es.take len++c,v+1⟩ q/\
    (match q with
     |none=>len+c.length=0/\∃w,C= .slice w 0 0
     |some (b,e)=>C= .slice (c4 ⟨b,0,c6⟩) (len+c.length) e/\len+c.length<=e):=by
    rintro rfl;refine⟨_,a,c4 (b,cap),xr (gD O) Y ah,rfl,rfl,rfl,ef _,λ_ _ _=>rfl,λu L f=>by injection f with f;injection f with D G;exact .inl ⟨cap,by rw[D]⟩,?_,by simp,by simpa using ah⟩
    refine⟨aK,aH,aP,aS,by simp;omega,aq _ [] aK N ⟨by simp,by simp[abk]⟩ aj (by simp)⟩
   rcases ay with rfl |⟨w,n,rfl,B,ag⟩
   .exact aE rfl
   .have a5:a.ownsRow 0 o.ty o.sz (.slice (c4 ⟨b,0,c6⟩) len cap) len (aK.toList.take (len*o.sz)):=
     ⟨N,.inr ⟨b,cap,aK,rfl,pc _,aH,ah,aS,aP,rfl⟩⟩
    obtain⟨bB,j,V,bf,T,_,aM⟩:=run_append_own_at (P:=P) a 0 t ty o.ty J K o.sz by_ (gD O) I ak aA W az ai _ len _ a5 w c.length U n B.1 ag (B.one ai aC) am aI (pc _);rcases bf.2 with⟨rfl,h0⟩ |⟨a0,a7,aB,rfl,_,an,ab,ao,ar,al⟩
    .refine aE ?_
     have:c.length=0:=by omega
     exact e5 this
    .refine⟨_,j,c4 (a0,a7),V,T.os,T.tape,T.output,T.size,λu W aT=>T.block u W (λm=>aT cap (by simp[q6] at m;rw[m])),λu L f=>?_,⟨aB,an,ar,ao,by rw[eH,ae];exact ab,aq _ n aB N B aj al⟩,rfl,ab⟩
     injection f with f
     injection f with D G
     subst D;simp only[q6] at aM;rcases aM with f |f
     .injection f with f
      exact .inl ⟨cap,by rw[f]⟩
     .injection f with f
      exact .inr (by omega)
 obtain⟨C,j,q,V,an,ab,ao,ar,al,be,bt,af⟩:=aV;unfold n0;rw[Ei,V];obtain⟨bv,bl⟩:=X.m.set (o':=⟨o.ty,o.sz,o.es.take len++c,v+1⟩) aF an ab ao ar al (by simp;omega) (λm=>absurd m (by simp;omega)) be ai aN bt;have a3:r<H.length:=(c7.1 aF).1;refine ba C j (g.push r q) _ _ ⟨rfl,rfl⟩ ?_ bl bv
 refine .sl r (v+1) 0 _ ⟨o.ty,o.sz,o.es.take len++c,v+1⟩ C (by rw[ee a3]) (ef _) ?_ λ_=>?_
 .cases q with
  |none=>obtain⟨_,w,rfl⟩:=af;rfl
  |some R=>obtain⟨b,e⟩:=R;obtain⟨rfl,_⟩:=af;rfl
 .refine⟨by simp[ae],?_⟩
  rw[Gh.kg];cases q with
  |none=>
   obtain⟨h0,w,rfl⟩:=af;exact⟨rfl,h0,w,rfl⟩
  |some R=>
   obtain⟨b,e⟩:=R;obtain⟨rfl,bq⟩:=af;exact⟨e,_,rfl,bq,λ_=>by simp,λ_=>⟨rfl,rfl⟩⟩
end
section
variable {P:Program}{nt:Nat}{Q:fE}{E:Env}{H:List aO}{d:Option Nat}{ty:TypeId}{pos:String}{aft:Array Edge}{gd:Option (Nat×Bool)}{x y z:Operand}{t:TypeId}{all:Array Oper}{rest:List Oper}
def PO{j:Operand}{c h u:Nat}{p:PV}{a:List PV}{f:Value}(r:PE E j= .bg\/PE E j= .z0)(ai:PE E x=p)(ak:lE H p h a)(G:0<h)
 (D:dU P t=c4 c) (F:cH P c=c4 h) (ac:kB P c=c4 u) (ad:dV P c=c4 f) (ah:f.cells.size=h) (ar:a.length*u<=140737488355328) (aq:a.length<=9223372036854775807) (M:a≠[]):
 nY P E H ⟨d,.call {callee:=.builtin .append,args:=#[j,x],argTypes:=#[t,t]},ty,pos,aft,c6⟩ c h a (λq I=>.sl q I 0 a.length):=by
 have T:∀g nt (o:Act) b,Rel g nt E H o b->∃s,o.eval j= .slice s 0 0:=λg nt o b k=>by
  rcases r with r |r
  .exact⟨c6,(r▸k.e.eval j).pF⟩
  .exact(r▸k.e.eval j).rh
 have aj:a.length<=maxLen:=by unfold maxLen;omega
 intro g nt o b k;obtain⟨s,am⟩:=T g nt o b k;obtain⟨O,ax,v,aa,ab⟩:=ak.real k.m (ai▸k.e.eval x) G;rcases ab with rfl |⟨A,n,rfl,w,K⟩
 .exact absurd rfl M
 cases m:P.info? c with
 |none=>simp[cH,m] at F
 |some l=>
 have C:l.zero=c4 f:=by simpa[dV,m] using ad
 have al:l.size=h:=by simpa[cH,m] using F
 have L:l.bytes=u:=by simpa[kB,m] using ac
 have J:n.length=a.length*l.size:=by rw[al];exact w.1
 have V:0<a.length:=o9.2 M;have U:∃e,(hL #[t,t] ty #[.slice s 0 0,.slice (c4 A) a.length v]).run P b= .ok (.slice (c4 ⟨b.heap.size,0,c6⟩) a.length e) (b.drew.alloc (.cells (n.toArray++m2 f.cells (e -a.length)) c))/\a.length<=e/\e<=maxLen:=by
  refine⟨grownCap b a.length 0 c,?_,grownCap_ge b _ _ _,grownCap_le_maxLen b _ _ _ aj⟩
  cases s with
  |none=>exact run_append_nil b t ty c l f (gD D) m C A a.length v n J K V (by omega) (by rw[L];omega)
  |some Z=>
   have:=run_append_grow (P:=P) b t ty c l f (gD D) m C Z 0 0 [] (by simp) (by simp) A a.length v n J K (by omega) (by omega) (growslice_fits (by omega) (by rw[L,gx];omega));simpa using this
 obtain⟨e,ap,B,ao⟩:=U;refine⟨n.toArray++m2 f.cells (e -a.length),e,.slice (c4 ⟨b.heap.size,0,c6⟩) a.length e,b.drew,?_,.inr rfl,G,O,?_,ao,B,λi R an ae=>?_,λau aw av q I S af=>FO S af B⟩
 .rw[Ei,am,aa,ap]
  rfl
 .simp only[oS,kc,size_zeroCells,ah,w.1, <-eo]
  congr 1
  omega
 .obtain⟨X,N,ag,Y⟩:=w.2 i R an ae;refine⟨X,?_,ag,Y⟩
  have W:=(c7.1 N).1;rw[Array.getElem?_append_left (by simpa using W)];simpa using N
def Oh{s:Operand}{e a n q O C f:Nat}{p:PV}{c:List PV}{o:Value}(l:H[q]?=c4 ⟨O,C,[],f⟩)(h:PE E s= .bg\/PE E s= .z0)(v:PE E x=p)(w:lE H p a c)(m:0<a)
 (r:dU P t=c4 e) (u:cH P e=c4 a) (J:kB P e=c4 n) (K:dV P e=c4 o) (N:o.cells.size=a) (D:c.length*n<=140737488355328) (B:c.length<=9223372036854775807):
 fJ P ⟨d,.call {callee:=.builtin .append,args:=#[s,x],argTypes:=#[t,t]},ty,pos,aft,c6⟩ E H λG H1=>G= .sl q (f+1) 0 c.length/\H1=H.set q ⟨e,a,c,f+1⟩:=by
 have F:∀g nt (j:Act) i,Rel g nt E H j i->∃k,j.eval s= .slice k 0 0:=λg nt j i b=>by
  rcases h with h |h
  .exact⟨c6,(h▸b.e.eval s).pF⟩
  .exact(h▸b.e.eval s).rh
 have Y:c.length<=maxLen:=by unfold maxLen;omega
 by_cases A:c=[]
 .subst A;intro g nt j i b W V U;obtain⟨k,R⟩:=F g nt j i b;obtain⟨_,Z,X,I,_⟩:=w.real b.m (v▸b.e.eval x) m;unfold n0;rw[Ei,R,I,l0,xr (gD r) u (ef _)];have L:=(c7.1 l).1;obtain⟨S,T⟩:=b.m.set (o':=⟨e,a,[],f+1⟩) (p:=c6) l rfl rfl rfl (ef _) (λ_ _ _=>rfl) (by simp) (λM=>absurd M (by simp)) (by simp) m (by simp) rfl;refine U (.slice k 0 0) i (g.push q c6) _ _ ⟨rfl,rfl⟩ ?_ T S
  refine .sl _ (f+1) 0 0 ⟨e,a,[],f+1⟩ _ (by simp[L]) (ef _) rfl λ_=>⟨by simp,?_⟩
  rw[Gh.kg];exact⟨rfl,rfl,k,rfl⟩
 .exact sX l (PO h v w m r u J K N D B A)
def mU(E:Env)(c:Nat):Option Operand->Nat->Prop
 |none,a=>a=c
 |some f,a=>∃e b,PE E f= .int e b/\b=(a:Int)
def sQ{m:World}{A q:Nat}{o:Option Addr}{len cap a c:Nat}{f h:Option Operand}{e:Act}{g:Gh}{H:List aO}(s:fI g H m nt E e)(B:dU P t=c4 A)(k:cH P A=c4 q)(u:mU E 0 f a)(w:mU E len h c)(r:a<=c)(v:c<=cap):
 (j6 t (.slice o len cap) (f.map e.eval) (h.map e.eval) (c6:Option Value)).run P m= .ok (.slice (if cap=a then o else o.map (·.add (a*q))) (c -a) (cap -a)) m:=by
 have l:=gD B;have i:f=c6/\a=0\/∃b,f.map e.eval=c4 (.int b (a:Int)):=by
  cases f with
  |none=>exact .inl ⟨rfl,u⟩
  |some p=>
   obtain⟨b,C,n,rfl⟩:=u;exact .inr ⟨b,by simp[(n▸s.eval p).fQ]⟩
 have j:h=c6/\c=len\/∃b,h.map e.eval=c4 (.int b (c:Int)):=by
  cases h with
  |none=>exact .inl ⟨rfl,w⟩
  |some p=>
   obtain⟨b,C,n,rfl⟩:=w;exact .inr ⟨b,by simp[(n▸s.eval p).fQ]⟩
 have D:((c:Nat):Int)<=(cap:Int):=by omega
 have G:((a:Nat):Int)<=(c:Int):=by omega
 rcases i with⟨rfl,rfl⟩ |⟨b,i⟩ <;> rcases j with⟨rfl,rfl⟩ |⟨F,j⟩
 .simp[j6,m3,run_underlying l,j3,run_sizeOf k]
 .simp[j6,m3,run_underlying l,j3,run_sizeOf k,j,kh,asIntOf,v]
 .simp[j6,m3,run_underlying l,j3,run_sizeOf k,i,kh,asIntOf,r]
 .simp[j6,m3,run_underlying l,j3,run_sizeOf k,i,j,kh,asIntOf,r,v]
def FV{f:List PV}{b c i h:Nat}{g:PV}(a:abk ((f.take c).drop b) i h=c4 g):abk f (b+i) h=c4 g/\b+i<c:=by
 unfold abk at*;rw[ea] at a
 by_cases e:b+i<c
 .rw[e0 e] at a;exact⟨a,e⟩
 .rw[hI (by simp;omega)] at a;simp at a
def aaK{a I l h:Nat}{c C:List PV}{G B:Option Operand}(Y:PE E x= .vs a c)(u:dU P t=c4 I)(A:cH P I=c4 a)(r:mU E 0 G l)(v:mU E c.length B h)(q:l<=h)(o:h<=c.length)(e:(c.take h).drop l=C):
 cM P ⟨d,.slice t x G B c6,ty,pos,aft,gd⟩ E H (.vs a C):=by
 intro g nt W w m;have n:=Y▸m.e.eval x;subst e;have J:((c.take h).drop l).length=h -l:=by simp;omega
 generalize s:W.eval x=ac at n;cases n with
 |aW n=>
  cases n with
  |eX a K cap=>
   simp only[l0,Nat.le_zero] at o;subst o;have S:l=0:=by omega
   subst S;refine⟨.slice (if cap=0 then K else K.map (·.add (0*a))) (0 -0) (cap -0),?_,.aW (.eX a _ _)⟩
   have V:mU E 0 B 0:=v;simp only[execOp,s,ie,gb,sQ m.e u A r V q (pc _),ez,hz]
  |vs _ _ b p cap O D Z R T U aa=>
   by_cases ab:l<h
   .refine⟨.slice (c4 ⟨b,p+l*a,c6⟩) (h -l) (cap -l),?_,?_⟩
    .have L:¬cap=l:=by omega
     simp only[execOp,s,ie,gb,sQ m.e u A r v q (hq o D),ez,hz,if_neg L,o1,h8]
    .have:=VI.vs (F:=g.F) (w:=w) a ((c.take h).drop l) b (p+l*a) (cap -l) (λi f=>O (l+i) f) (by omega) Z
      (λi X e=>by
       rw[ea] at e
       by_cases N:l+i<h
       .rw[e0 N] at e;exact R _ X e
       .rw[hI (by simp;omega)] at e;cases e)
      (λi f j k=>by
       have:=T (l+i) f j (FV k).1;rw[eo] at this;rw[<-this]
       congr 2
       omega)
      (λi f j k=>U _ _ j (FV k).1) (λi f j k=>aa _ _ j (FV k).1)
     rw[J] at this;exact .aW this
   .have ad:l=h:=by omega
    have M:(c.take h).drop l=[]:=e5 (by rw[J];omega);rw[M];refine⟨.slice (if cap=l then c4 ⟨b,p,c6⟩ else(c4 ⟨b,p,c6⟩:Option Addr).map (·.add (l*a))) 0 (cap -l),?_,.aW (.eX a _ _)⟩
    simp only[execOp,s,ie,gb,sQ m.e u A r v q (hq o D),ez,hz];rw[show h -l=0 by omega]
def acJ{f e:Nat}{b a:Option Operand}(j:PE E x= .bg)(k:dU P t=c4 e)(m:cH P e=c4 f)(l:mU E 0 b 0)(h:mU E 0 a 0):
 cM P ⟨d,.slice t x b a c6,ty,pos,aft,gd⟩ E H .bg:=by
 intro g nt n o c;have i:=(j▸c.e.eval x).pF;refine⟨.slice c6 0 0,?_,.aW .bg⟩
 simp only[execOp,i,ie,gb,sQ c.e k m l h (ef _) (ef _),ez,hz]
 rfl
def SC{q r v u len l h:Nat}{c:aO}{lo hi:Option Operand}(G:PE E x= .sl r v u len)(k:ek H r c)(I:c.aF=v)(n:dU P t=c4 q)(s:cH P q=c4 c.sz)(m:mU E 0 lo l)(o:mU E len hi h)(A:l<=h)(J:h<=len):
 cM P ⟨d,.slice t x lo hi c6,ty,pos,aft,gd⟩ E H (.sl r v (u+l) (h -l)):=by
 intro g nt O L i;have a:=lh (G▸i.e.eval x) k I;have p:v<=c.aF:=by omega
 unfold SL at a;obtain⟨S,a⟩:=a;cases f:g.β r with
 |none=>
  rw[f] at a;obtain⟨rfl,rfl,e,j⟩:=a;have h0:h=0:=by omega
  have B:l=0:=by omega
  subst h0;subst B;refine⟨.slice e 0 0,?_,.sl r v _ _ c _ k p rfl λ_=>⟨by omega,?_⟩⟩
  .simp only[execOp,j,ie,gb,sQ i.e n s m o (ef _) (ef _),ez,hz]
   rfl
  .rw[f];exact⟨rfl,rfl,e,rfl⟩
 |some C=>
  obtain⟨b,N⟩:=C;rw[f] at a;obtain⟨cap,e,j,K,w,h0⟩:=a;refine⟨.slice (if cap=l then e else e.map (·.add (l*c.sz))) (h -l) (cap -l),?_,.sl r v _ _ c _ k p rfl λ_=>⟨by omega,?_⟩⟩
  .simp only[execOp,j,ie,gb,sQ i.e n s m o A (hq J K),ez,hz]
  .rw[f];refine⟨cap -l,_,rfl,by omega,λR=>?_,λT=>?_⟩
   .rw[if_neg (by omega),w (by omega),o1,h8,eo]
   .obtain⟨F,M⟩:=h0 (by omega);have D:l=0:=by omega
    subst D;subst F;refine⟨?_,by omega⟩
    split
    .rfl
    .simp[Addr.add_zero']
def Zm{c f:Nat}{e b:Operand}{m i:IntKind}{o:List PV}(p:lE H (PE E x) c o)(q:0<c)(l:dU P t=c4 f)(r:cH P f=c4 c)(n:PE E e= .int m 0)(s:PE E b= .int i 0):
 cM P ⟨d,.slice t x c6 (c4 e) (c4 b),ty,pos,aft,gd⟩ E H .z0:=by
 intro g nt w v a;obtain⟨_,h,cap,k,_⟩:=p.real a.m (a.e.eval x) q;refine⟨.slice h 0 0,?_,.aW (.z0 h)⟩
 have u:=(n▸a.e.eval e).fQ;have j:=(s▸a.e.eval b).fQ;simp[execOp,k,u,j,j6,m3,run_underlying (gD l),j3,run_sizeOf r,kh,asIntOf]
end
def MV(b:Nat):∀(e:List Value) (a:Nat) (c:Array Value),b+a+e.length<=c.size->
 (e.zipIdx a).foldl (λc p=>c.setIfInBounds (b+p.2) p.1) c=(c.toList.take (b+a)++e++c.toList.drop (b+a+e.length)).toArray
 |[],a,c,_=>by simp
 |k::e,a,c,h=>by
  rw[List.zipIdx_cons,List.foldl_cons,MV b e (a+1) _ (by simp at h⊢;omega)];simp only[my] at h
  congr 1
  apply List.ext_getElem?
  intro f;simp only[Array.toList_setIfInBounds,my]
  by_cases i:f<b+a
  .rw[eE,eE,dv (by simp;omega),dv (by simp;omega),e0 (by omega),e0 i,ey (by omega)]
  .by_cases l:f=b+a
   .subst l;rw[eE,eE,dv (by simp;omega),e0 (by omega),ee (by simp;omega),dt (by simp;omega)];have:min (b+a) c.size=b+a:=by omega
    simp[this]
   .rw[eE,eE,dt (l₁:=(c.toList.set (b+a) k).take (b+(a+1))) (by simp;omega),dt (l₁:=c.toList.take (b+a)) (by simp;omega)];have m:min (b+(a+1)) c.size=b+(a+1):=by omega
    have j:min (b+a) c.size=b+a:=by omega
    simp only[ft,o3,gy,m,j,List.cons_append];rw[show f - (b+a)=(f - (b+(a+1)))+1 by omega,List.getElem?_cons_succ]
    by_cases g:f - (b+(a+1))<e.length
    .rw[dv g,dv g]
    .rw[dt (by omega),dt (by omega),ea,ea,ey (by omega)]
     congr 1
     omega
def ajC{place:Nat->Option (Nat×Nat)}{cells:Array Value}{i a size:Nat}{v:Value}{rest:List (Nat×Value)}(c:place i=c4 (a,size))(b:v.cells.size=size)(f:a+size<=cells.size):
 kl place cells ((i,v)::rest)=kl place (cells.toList.take a++v.cells.toList++cells.toList.drop (a+size)).toArray rest:=by
 have e:(c3 (v.cells.size≠size)||c3 (a+v.cells.size>cells.size))=false:=by simp[b];omega
 simp only[kl,c];rw[if_neg (by simp[b];omega)]
 congr 1
 have:=MV a v.cells.toList 0 cells (by simp[b];omega);simp only[l1,gy,b] at this;rw[<-this, <-Array.foldl_toList,Array.toList_zipIdx]
def qn(E:Env):List (Nat×Operand)->List (Nat×PV)->Prop
 |[],[]=>True
 |(i,b)::r,(a,v)::c=>i=a/\PE E b=v/\qn E r c
 |_,_=>False
def mE(place:Nat->Option (Nat×Nat))(cells:List PV):List (Nat×PV)->Option (List PV)
 |[]=>c4 cells
 |(i,v)::r=>
  match place i with
  |none=>c6
  |some (a,size)=>bif e4 v.cells.length size&&hK (a+size) cells.length&&v.cells.all PV.one then mE place (cells.take a++v.cells++cells.drop (a+size)) r else c6
def DO(g:Gh)(H:List aO)(h:World)(e:List PV)(f:Array Value):Prop:=
 f.size=e.length/\∀(c:Nat) (b:PV),e[c]?=c4 b->∃a,f[c]?=c4 a/\a.oneCell'=true/\VR g H h b a
def BQ{g:Gh}{H:List aO}{n:World}{nt:Nat}{E:Env}{u:Act}(A:fI g H n nt E u)(place:Nat->Option (Nat×Nat)):∀(l:List (Nat×Operand)) (vs:List (Nat×PV)) (h:List PV) (f:Array Value) (j:List PV),
 qn E l vs->(∀i v,(i,v)∈vs->∀G,v≠ .bu G)->DO g H n h f->mE place h vs=c4 j->∃B,kl place f (l.map λ(i,x)=>(i,u.eval x))=c4 B/\DO g H n j B
 |[],[],h,f,j,_,_,c,a=>by
  simp only[mE,m4] at a;subst a;exact⟨f,rfl,c⟩
 |(i,D)::l,(U,v)::vs,h,f,j,J,C,c,a=>by
  obtain⟨rfl,K,O⟩:=J;simp only[mE] at a;cases o:place i with
  |none=>simp[o] at a
  |some p=>
   obtain⟨e,size⟩:=p;simp only[o] at a;cases k:(e4 v.cells.length size&&hK (e+size) h.length&&v.cells.all PV.one) with
   |false=>simp[k] at a
   |true=>
    rw[k] at a;simp only[cond_true] at a;simp only[p4] at k;obtain⟨⟨m,q⟩,I⟩:=k;have m:=h5 m;have q:=ei q;have T:=K▸A.eval D;obtain⟨N,S⟩:=T.tZ I (C i v (by simp));have r:(u.eval D).cells.size=size:=by simp at N;omega
    rw[ma,ajC o r (by rw[c.1];exact q)];refine BQ A place l vs _ _ j O (λi v M=>C i v (by simp[M])) ⟨?_,λs w b=>?_⟩ a
    .simp only[kc,eH,ft,j5,gy,c.1,r,m]
    .rw[kd];have R:min e f.size=e:=by rw[c.1];omega
     have F:min e h.length=e:=by omega
     by_cases L:s<e
     .rw[eE,dv (by simp;omega),e0 L] at b⊢;simpa using c.2 s w b
     .rw[eE,dt (by simp;omega)] at b⊢;simp only[ft,gy,R,F] at b⊢
      by_cases V:s -e<size
      .rw[dv (by omega)] at b;rw[dv (by simp;omega)];simpa using S _ w b
      .rw[dt (by omega),ea] at b;rw[dt (by simp;omega),ea];simp only[gy,m,r] at b⊢;simpa using c.2 _ w b
section
variable {P:Program}{nt:Nat}{Q:fE}{E:Env}{H:List aO}{d:Option Nat}{ty:TypeId}{pos:String}{aft:Array Edge}{gd:Option (Nat×Bool)}{x y z:Operand}{t:TypeId}{all:Array Oper}{rest:List Oper}
def Jk(P:Program)(t:TypeId):Option (List (Nat×Nat)):=
 match P.underlying t with
 |some (.struct a)=>a.toList.mapM λf=>(P.info? f.type).map λi=>(f.offset,i.size)
 |_=>c6
def aeV{v:Value}{b:PV}(c:jq v=b)(a:b.one=true):v.oneCell'=true:=by
 subst c;unfold jq at a
 split at a <;> first |rfl |(simp[PV.one] at a;done)
def Qu{g:Gh}{H:List aO}{i:World}{b:List Value}(f:(b.map jq).all PV.one=true):DO g H i (b.map jq) b.toArray:=by
 refine⟨by simp,λh e a=>?_⟩
 rw[e6] at a;cases c:b[h]? with
 |none=>simp[c] at a
 |some z=>
  simp[c] at a;refine⟨z,by simp[c],aeV a ?_,a▸ .aW (KQ _ _ _)⟩
  exact h7.1 f e (by rw[<-a];exact ng.2 ⟨z,dT c,rfl⟩)
def ahR{f:List (Nat×Operand)}{vs:List (Nat×PV)}{zs:List Value}{j a:List PV}{m:List (Nat×Nat)}(e:dV P t=c4 (.agg zs.toArray))(F:zs.map jq=j)(s:j.all PV.one=true)(b:Jk P t=c4 m)
 (I:qn E f vs) (u:∀i v,(i,v)∈vs->∀r,v≠ .bu r) (o:mE (m.toArray[·]?) j vs=c4 a):cM P ⟨d,.build t f.toArray,ty,pos,aft,gd⟩ E H (.agg a):=by
 intro g nt C w p;subst F;obtain⟨c,B,n⟩:=BQ p.e _ f vs _ _ a I u (Qu s) o;refine⟨.agg c,?_,?_⟩
 .have q:P.built t ((f.toArray.map λ(i,x)=>(i,C.eval x)).toList)=c4 c:=by
   unfold Jk at b;unfold dV at e;cases k:P.info? t with
   |none=>simp[k] at e
   |some K=>
    simp[k] at e
    split at b
    .rename_i L l;simp only[q8,k,l,e,b];simpa[o6] using B
    .cases b
  simp only[execOp,gb,run_build w t _ c q,ez]
  rfl
 .have:=VR.agg (g:=g) (H:=H) (w:=w) a c.toList (by simp[n.1]) (λi G x A h=>by
   obtain⟨J,l,_,D⟩:=n.2 i G A;rw[fe,l] at h;injection h with h
   exact h▸D)
  simpa using this
def VH{f:List (Nat×Operand)}{vs:List (Nat×PV)}{zs:List Value}{k a:List PV}{D m j:Nat}(c:dV P t=c4 (.agg zs.toArray))(J:zs.map jq=k)(A:k.all PV.one=true)(u:pk P t=c4 (D,m))(e:cH P m=c4 j)
 (L:qn E f vs) (B:∀i v,(i,v)∈vs->∀s,v≠ .bu s) (p:mE (λi=>c4 (i*j,j)) k vs=c4 a):cM P ⟨d,.build t f.toArray,ty,pos,aft,gd⟩ E H (.agg a):=by
 intro g nt G w q;subst J;obtain⟨b,F,o⟩:=BQ q.e _ f vs _ _ a L B (Qu A) p;refine⟨.agg b,?_,?_⟩
 .have r:P.built t ((f.toArray.map λ(i,x)=>(i,G.eval x)).toList)=c4 b:=by
   unfold dV at c;unfold cH at e;cases n:P.info? t with
   |none=>simp[n] at c
   |some O=>
    simp[n] at c;cases l:P.info? m with
    |none=>simp[l] at e
    |some R=>
     simp[l] at e;simp only[q8,n,Kn u,c,l,e];simpa[o6] using F
  simp only[execOp,gb,run_build w t _ b r,ez]
  rfl
 .have:=VR.agg (g:=g) (H:=H) (w:=w) a b.toList (by simp[o.1]) (λi K x C h=>by
   obtain⟨N,M,_,I⟩:=o.2 i K C;rw[fe,M] at h;injection h with h
   exact h▸I)
  simpa using this
def mY:Nat->List PV->List (Nat×PV)
 |_,[]=>[]
 |a,v::r=>(a,v)::mY (a+1) r
def NE(a:Nat):∀(c:List PV) (b:Nat) (f:List PV),(∀e∈c,e.cells.length=a/\e.cells.all PV.one=true)->f.length=(b+c.length)*a->
 mE (λi=>c4 (i*a,a)) f (mY b c)=c4 (f.take (b*a)++c.flatMap (·.cells))
 |[],b,f,_,j=>by
  simp only[mY,mE,List.flatMap_nil,q4];rw[hY (by simp at j;omega)]
 |e::c,b,f,h,j=>by
  obtain⟨g,m⟩:=h e (by simp);have p:(b+1)*a<=(b+(e::c).length)*a:=ev _ (by simp);rw[eo,hX] at p;have n:e4 e.cells.length a=true:=by rw[g];exact k7 a
  have k:hK (b*a+a) f.length=true:=Nat.ble_eq▸(by omega);simp only[mY,mE,n,k,m,Bool.and_true,cond_true];have l:(f.take (b*a)++e.cells++f.drop (b*a+a)).length=(b+1+c.length)*a:=by
   simp only[eH,ft,j5,g];have:(b+(e::c).length)*a=(b+1+c.length)*a:=by congr 1;simp;omega
   omega
  rw[NE a c (b+1) _ (λe o=>h e (by simp[o])) l]
  congr 1
  have q:min (b*a) f.length=b*a:=by omega
  rw[List.take_append_of_le_length (by simp[g];rw[eo];omega),hY (by simp[g];rw[eo];omega)];simp
def Om{g:Nat}:∀(b:List PV) (i a:Nat) (c:PV),(∀f∈b,f.cells.length=g)->abk b i a=c4 c->(b.flatMap (·.cells))[i*g+a]?=c4 c
 |[],i,a,c,_,e=>by simp[abk] at e
 |f::b,0,a,c,h,e=>by
  simp[abk] at e;rw[m5,qq,gx,dv (c7.1 e).1];exact e
 |f::b,i+1,a,c,h,e=>by
  have j:abk b i a=c4 c:=by simpa[abk] using e
  rw[m5,dt (by rw[h f (by simp),eo];omega),h f (by simp)];rw[show(i+1)*g+a -g=i*g+a by rw[eo];omega];exact Om b i a c (λf k=>h f (by simp[k])) j
def Pn{ps:List (Nat×Operand)}{es:List PV}{te sz n:Nat}{zv:Value}(G:qn E ps (mY 0 es))(ac:es.length=n)(K:es.all (λa=>e4 a.cells.length sz&&a.cells.all PV.one)=true)(Z:∀a∈es,∀R,a≠ .bu R)
 (A:dU P t=c4 te) (B:cH P te=c4 sz) (W:dV P te=c4 zv) (al:zv.cells.size=sz) (T:zv.cells.toList.all (·.oneCell')=true) (D:0<sz) (ah:n*sz<=16777216):
 nY P E H ⟨d,.buildSlice t n ps.toArray,ty,pos,aft,c6⟩ te sz es (λq F=>.sl q F 0 n):=by
 subst ac;have k:∀a∈es,a.cells.length=sz/\a.cells.all PV.one=true:=λa c=>by
  have:=h7.1 K a c;simp only[p4] at this;exact⟨h5 this.1,this.2⟩
 intro g nt C l M
 let z0:List Value:=(n2 (es.length*sz)).map λq=>zv.cells.getD (q%zv.cells.size) undef
 have J:DO g H l ((n2 (es.length*sz)).map λ_=>PV.any) z0.toArray:=by
  refine⟨by simp[z0],λf w h=>?_⟩
  have I:f<es.length*sz:=by
   have:=(c7.1 h).1;simpa using this
  rw[e6,h9 I] at h;simp at h;subst h;refine⟨zv.cells.getD (f%zv.cells.size) undef,by simp[z0,h9 I],?_,.any _⟩
  have o:f%zv.cells.size<zv.cells.size:=q5 _ (by omega);have:=h7.1 T (zv.cells[f%zv.cells.size]) (by simp);simpa[o] using this
 obtain⟨m,j,r⟩:=BQ M.e (λi=>c4 (i*sz,sz)) ps (mY 0 es) _ _ _ G (λi v ad=>by
  have:∀(s:Nat) (b:List PV),(i,v)∈mY s b->v∈b:=by
   intro s b
   induction b generalizing s with
   |nil=>simp[mY]
   |cons C b u=>
    simp only[mY,mb,Prod.mk.injEq];rintro(⟨_,rfl⟩ |e)
    .exact .inl rfl
    .exact .inr (u _ e)
  exact Z v (this 0 es ad)) J (NE sz es 0 _ k (by simp))
 rw[qq,o7,o2] at r;have ae:m.size=es.length*sz:=by
  rw[r.1];have:∀b:List PV,(∀a∈b,a.cells.length=sz)->(b.flatMap (·.cells)).length=b.length*sz:=λb=>by
   induction b with
   |nil=>simp
   |cons a b u=>intro e;rw[m5,eH,e a (by simp),u (λa c=>e a (by simp[c])),my,eo];omega
  exact this es λa c=>(k a c).1
 refine⟨m,es.length,.slice (c4 ⟨l.heap.size,0,c6⟩) es.length es.length,l,?_,.inl rfl,D,λi a c=>(k a (dT c)).1,ae,?_,ef _,λi f w h=>?_,λai ak aj q F O Y=>FO O Y (ef _)⟩
 .have ab:(Array.range (es.length*sz)).map (λx=>zv.cells[x%zv.cells.size]!)=z0.toArray:=by
   apply Array.ext'
   rw[Array.toList_map,Array.toList_range];show _=z0
   apply List.map_congr_left
   intro q _;have o:q%zv.cells.size<zv.cells.size:=q5 _ (by omega);simp[o]
  by_cases h0:es.length*sz=0
  .have N:es=[]:=by
    rcases Nat.mul_eq_zero.1 h0 with e |e
    .exact e5 e
    .omega
   subst N;have U:ps=[]:=by
    cases ps with
    |nil=>rfl
    |cons p ps=>simp[mY,qn] at G
   subst U;have aa:z0=[]:=by simp[z0]
   rw[aa] at j;simp[kl] at j;subst j;simp[execOp,p6,run_underlying (gD A),run_sizeOf B,kl,newRow,Array.range_zero']
  .have X:¬(16777216<es.length*sz):=by omega
   have af:kl (λi=>c4 (i*sz,sz)) z0.toArray (ps.map λp=>(p.1,C.eval p.2))=c4 m:=j;simp[execOp,p6,run_underlying (gD A),run_sizeOf B,X,h0,Ey W,ab,af,newRow]
 .have:es.length<=es.length*sz:=ga _ D;unfold maxLen;omega
 .obtain⟨V,ag,S,L⟩:=r.2 _ w (Om es i f w (λa c=>(k a c).1) h);exact⟨V,ag,S,L⟩
end
def VR.ub{g:Gh}{H:List aO}{w:World}{r v:Nat}{c:aO}{x:Value}(h:VR g H w (.fl r v) x)(e:ek H r c)(n:c.aF=v):VR g H w (.sl r v 0 c.es.length) x:=by
 cases h with
 |aW h=>cases h
 |fl _ _ m _ a l j k=>
  unfold ek at e;rw[e] at a;injection a with a
  subst a;exact .sl r v 0 _ c x e l j k
def VR.aa1{g:Gh}{H:List aO}{w:World}{r v n:Nat}{e:aO}{x:Value}(h:VR g H w (.sl r v 0 n) x)(c:ek H r e)(l:n=e.es.length):VR g H w (.fl r v) x:=by
 subst l;cases h with
 |aW h=>cases h
 |sl _ _ _ _ o _ a m j k=>
  unfold ek at c;rw[c] at a;injection a with a
  subst a;exact .fl r v e x c m j k
def fI.fl{g:Gh}{H:List aO}{e:World}{nt:Nat}{E:Env}{a:Act}{t r v:Nat}{c:aO}(h:fI g H e nt E a)(k:look E t= .fl r v)(m:ek H r c)(l:c.aF=v):fI g H e nt ((t,.sl r v 0 c.es.length)::E) a:=
 ⟨h.defers,h.size,λs=>by
  by_cases j:t=s
  .subst j;rw[ni];exact(k▸h.at_ t).ub m l
  .rw[Ar _ _ j];exact h.at_ s⟩
def RO{P:Program}{c:Oper}{E:Env}{H:List aO}{t r v:Nat}{a:aO}{p:PV}(h:look E t= .fl r v)(j:ek H r a)(i:a.aF=v)(e:cM P c ((t,.sl r v 0 a.es.length)::E) H p):cM P c E H p:=
 λg nt f k b=>e g nt f k ⟨b.m,b.e.fl h j i⟩
def yP{P:Program}{e:Oper}{E:Env}{H:List aO}{t r v:Nat}{a:aO}{b:PV->List aO->Prop}(j:look E t= .fl r v)(m:ek H r a)(l:a.aF=v)(f:fJ P e ((t,.sl r v 0 a.es.length)::E) H b):fJ P e E H b:=
 λg nt h n c i k o=>f g nt h n ⟨c.m,c.e.fl j m l⟩ i k o
end Go.Bml
namespace Go.X
open Go Go.Aml Go.Bml
structure Ty where
 T:Type
 enc:T->PV
inductive TV (D:Nat->Type):Type where
 |any
 |z0
 |fS
 |bg
 |dB
 |int (k:IntKind) (n:Int)
 |bool (b:Bool)
 |str (s:ByteArray)
 |row (n:Nat) (xs:List (D n))
 |rv (n:Nat) (ts:List (TV D))
 |ptr (r v i j:Nat)
 |fl (r v:Nat)
 |sl (r v off len:Nat)
 |vp (cs:List (TV D)) (j:Nat)
 |agg (cs:List (TV D))
 |bu (cs:List (TV D))
 |fn (f:Nat) (cs ds:List (TV D))
 |jC (o:Option Nat)
 deriving Inhabited
inductive Bd (D:Nat->Type):Type where
 |aap (n:Nat) (xs:List (D n))
 |box (ty:Nat) (cs:List (TV D))
 |dead
 |hole (n:Nat) (xs:List (D n)) (es:List (TV D))
structure Ob (D:Nat->Type) where
 st:Nat
 aF:Nat
 bd:Bd D
abbrev En(a:Nat->Type):=List (Nat×TV a)
structure St (D:Nat->Type) where
 E:En D
 H:List (Ob D)
structure Tb where
 ty:Nat->Ty
 tv:(n:Nat)->(ty n).T->TV (λn=>(ty n).T)
 up:(n:Nat)->TV (λn=>(ty n).T)->Option (ty n).T
 sz:Nat->Nat
 flat:Nat->Bool
 el:Nat->Nat
@[reducible] def Tb.D(B:Tb)(n:Nat):Type:=(B.ty n).T
def nth{a:Type}:List a->Nat->Option a
 |[],_=>c6
 |b::_,0=>c4 b
 |_::c,d+1=>nth c d
def me{c:Type}:List c->Nat->c->List c
 |[],_,_=>[]
 |_::a,0,b=>b::a
 |d::a,e+1,b=>d::me a e b
def b8{b:Type}:List b->List (Nat×b)->List b
 |a,[]=>a
 |a,p::c=>b8 (me a p.1 p.2) c
def aX{b:Type}:List b->List b->List b
 |[],a=>a
 |d::c,a=>d::aX c a
def len{b:Type}:List b->Nat
 |[]=>0
 |_::a=>Nat.succ (len a)
def has:List Nat->Nat->Bool
 |[],_=>false
 |c::b,a=>bif e4 c a then true else has b a
def lk{b:Nat->Type}:En b->Nat->TV b
 |[],_=>.any
 |p::r,a=>bif e4 p.1 a then p.2 else lk r a
def fV(a b:IntKind):Bool:=c3 (a=b)
def Cs{a:Nat->Type}:Value->TV a
 | .bool b=>.bool b
 | .int e c=>.int e c
 | .string d=>.str d
 | .pointer c6=>.fS
 | .slice c6 0 0=>.bg
 | .nilFunc=>.dB
 |_=>.any
def rq{D:Nat->Type}:List Value->List (TV D)
 |[]=>[]
 |v::a=>Cs v::rq a
def cv{D:Nat->Type}:Value->TV D
 | .agg a=>.agg (rq a.toList)
 |v=>Cs v
def pe{a:Nat->Type}(c:En a):Operand->TV a
 | .tmp b=>lk c b
 | .const v=>cv v
 | .global _=>.any
 | .func f=>.fn f [] []
def fB{a:Nat->Type}(b:En a):List Operand->List (TV a)
 |[]=>[]
 |c::d=>pe b c::fB b d
def tr{a b:Type}(e:Option a)(d:a->Option b):Option b:=
 match e with
 |some c=>d c
 |none=>c6
inductive CP where
 |any
 |v (n:Nat)
 |p (q:Nat)
 |r (q:Nat)
 |q (cs:List CP)
 |f (cO:Nat) (cs ds:List CP)
 |g (cs:List CP)
 |b (b:Bool)
 |i (k:IntKind) (n:Int)
 |z
 |ns
 deriving Inhabited
inductive OP where
 |aap (m n:Nat)
 |box (ty:Nat) (cs:List CP)
 |dead
 |refs (m:Nat) (qs:List Nat)
 deriving Inhabited
def iQ:List Nat->List CP
 |[]=>[]
 |q::a=>.r q::iQ a
structure bY where
 dF:List (Nat×List Nat×OP)
 dE:List (Nat×CP)
 deriving Inhabited
mutual
def CP.bX:CP->List Nat
 | .v n=>[n]
 | .q a=>CP.gA a
 | .f _ a c=>aX (CP.gA a) (CP.gA c)
 | .g a=>CP.gA a
 |_=>[]
def CP.gA:List CP->List Nat
 |[]=>[]
 |c::a=>aX c.bX (CP.gA a)
end
def OP.bX:OP->List Nat
 | .aap _ n=>[n]
 | .box _ c=>CP.gA c
 | .dead=>[]
 | .refs _ a=>CP.gA (iQ a)
def vu:List (Nat×CP)->List Nat
 |[]=>[]
 |b::a=>aX b.2.bX (vu a)
def rS:List (Nat×List Nat×OP)->List Nat
 |[]=>[]
 |b::a=>aX b.2.2.bX (rS a)
def bY.bX(p:bY):List Nat:=aX (rS p.dF) (vu p.dE)
structure lD where
 dO:List (Nat×Bool×OP)
 new:List (Nat×List Nat×OP)
 dE:List (Nat×CP)
 deriving Inhabited
def ux:List (Nat×Bool×OP)->List Nat
 |[]=>[]
 |b::a=>aX b.2.2.bX (ux a)
def lD.bX(p:lD):List Nat:=aX (ux p.dO) (aX (rS p.new) (vu p.dE))
def bi(a:Nat->Type):List Nat->Type
 |[]=>Unit
 |[b]=>a b
 |b::c::ns=>a b×bi a (c::ns)
section
variable (B:Tb){R:Type}
def m9:(ns:List Nat)->List (TV B.D)->(bi B.D ns->Option R)->Option R
 |[],[],a=>a ()
 |[c],[b],a=>tr (B.up c b) a
 |c::f::ns,b::d,a=>tr (B.up c b) λe=>m9 (f::ns) d λg=>a (e,g)
 |_,_,_=>c6
def rQ:(ns:List Nat)->bi B.D ns->List (TV B.D)
 |[],_=>[]
 |[b],a=>[B.tv b a]
 |b::c::ns,a=>B.tv b a.1::rQ (c::ns) a.2
end
def dN{a:Nat->Type}:TV a->List (TV a)
 | .agg c=>c
 |b=>[b]
def aK{a:Nat->Type}(c:List (Ob a))(r v:Nat):Option (Bd a):=
 match nth c r with
 |some b=>bif e4 b.aF v then c4 b.bd else c6
 |none=>c6
def ml{a:Nat->Type}(b:List (Ob a))(e:List Nat):TV a->TV a
 | .fl r v=>match aK b r v with
  |some (.aap d c)=>bif has e r then .any else .row d c
  |_=>.any
 |_=>.any
def qf{a:Nat->Type}(b:List (Ob a))(c:List Nat):List (TV a)->List (TV a)
 |[]=>[]
 |d::e=>ml b c d::qf b c e
def DA{a:Nat->Type}:List (TV a)->Bool
 |[]=>true
 | .fl _ _::b=>DA b
 |_::_=>false
mutual
def kJ{d:Nat->Type}(b:List (Ob d))(a:List Nat):TV d->TV d
 | .fl r v=>match aK b r v with
  |some (.aap c g)=>bif has a r then .any else .row c g
  |some (.hole c [] h)=>bif has a r then .any else bif DA h then .rv c (qf b a h) else .any
  |_=>.any
 | .sl r v k len=>match aK b r v with
  |some (.aap c g)=>bif has a r then .any else .row c ((g.drop k).take len)
  |_=>.any
 | .agg e=>.agg (jS b a e)
 | .fn f e i=>.fn f (jS b a e) (jS b a i)
 | .ptr .. =>.any
 | .bu _=>.any
 |j=>j
def jS{a:Nat->Type}(b:List (Ob a))(c:List Nat):List (TV a)->List (TV a)
 |[]=>[]
 |d::e=>kJ b c d::jS b c e
end
mutual
def refs{b:Nat->Type}:TV b->List Nat
 | .fl r _=>[r]
 | .sl r _ _ _=>[r]
 | .ptr r _ _ _=>[r]
 | .agg a=>iB a
 | .bu a=>iB a
 | .fn _ a c=>aX (iB a) (iB c)
 |_=>[]
def iB{b:Nat->Type}:List (TV b)->List Nat
 |[]=>[]
 |c::a=>aX (refs c) (iB a)
end
def kY{d:Nat->Type}(a:List (Ob d)):List Nat->List Nat
 |[]=>[]
 |r::b=>match nth a r with
  |some ⟨_,_,.hole _ [] c⟩=>aX (iB c) (kY a b)
  |_=>kY a b
def qE{e:Nat->Type}(a:List (Ob e)):TV e->List Nat->TV e
 |f,[]=>f
 |f,c::d=>match f with
  | .fn _ _ g=>qE a ((nth g c).getD .any) d
  | .agg b=>qE a ((nth b c).getD .any) d
  | .ptr r v 0 0=>match aK a r v with
   |some (.box _ b)=>qE a ((nth b c).getD .any) d
   |_=>.any
  | .fl r v=>match aK a r v with
   |some (.hole _ [] b)=>qE a ((nth b c).getD .any) d
   |_=>.any
  |_=>.any
inductive Rf where
 |bG (r:Nat)
 |new
 |gone
 |bad
def Tf{a:Nat->Type}(b:List (Ob a)):TV a->Rf
 | .fl r v=>match aK b r v with
  |some (.aap _ _)=>.bG r
  |some (.hole _ _ _)=>.bG r
  |_=>.bad
 | .ptr r v 0 0=>match aK b r v with
  |some (.box _ _)=>.bG r
  |_=>.bad
 | .bg=>.new
 | .z0=>.new
 |_=>.bad
def U7{b:Nat->Type}(a:List (Ob b))(r:Nat):List Nat->Rf
 |[]=>.bG r
 |c::d=>match nth a r with
  |some e=>Tf a (qE a (.ptr r e.aF 0 0) (c::d))
  |none=>.bad
def nQ{D:Nat->Type}(b:St D):List (Nat×List Nat×OP)->List Rf
 |[]=>[]
 |a::c=>(bif hK 100000 a.1 then U7 b.H (a.1 -100000) a.2.1 else Tf b.H (qE b.H (lk b.E a.1) a.2.1))::nQ b c
def bL:List Rf->List Nat
 |[]=>[]
 | .bG r::a=>r::bL a
 |_::a=>bL a
def rj:List Nat->Bool
 |[]=>true
 |b::a=>bif has a b then false else rj a
def JG:List Rf->Bool
 |[]=>true
 | .bad::_=>false
 |_::a=>JG a
mutual
def MG:CP->Bool
 | .p _=>false
 | .r _=>false
 | .q a=>ow a
 | .f _ a b=>bif ow a then ow b else false
 | .g a=>ow a
 |_=>true
def ow:List CP->Bool
 |[]=>true
 |b::a=>bif MG b then ow a else false
end
def cat{a:Type}:Option (List a)->Option (List a)->Option (List a)
 |some c,c4 b=>c4 (aX c b)
 |_,_=>c6
mutual
def eR{j:Nat->Type}(c:List (Ob j))(d:List Rf)(h:List Nat):CP->TV j->Option (List (TV j))
 | .any,_=>c4 []
 | .v _,a=>c4 [kJ c h a]
 | .p q,a=>match a with
  | .ptr r v 0 0=>match aK c r v,nth d q with
   |some (.box _ _),c4 (.bG i)=>bif e4 r i then c4 [] else c6
   |_,_=>c6
  |_=>c6
 | .r q,a=>match a with
  | .fl r v=>match aK c r v,nth d q with
   |some (.aap _ _),c4 (.bG i)=>bif e4 r i then c4 [] else c6
   |some (.hole _ _ _),c4 (.bG i)=>bif e4 r i then c4 [] else c6
   |_,_=>c6
  | .bg=>match nth d q with
   |some .new=>c4 []
   |_=>c6
  | .z0=>match nth d q with
   |some .new=>c4 []
   |_=>c6
  |_=>c6
 | .q e,a=>match a with
  | .ptr r v 0 0=>match aK c r v with
   |some (.box _ g)=>bif has h r then c6 else bif ow e then fg c d h e g else c6
   |_=>c6
  | .vp g 0=>bif ow e then fg c d h e g else c6
  |_=>c6
 | .f m e l,a=>match a with
  | .fn f g n=>bif e4 f m then cat (fg c d h e g) (fg c d h l n) else c6
  |_=>c6
 | .g e,a=>match a with
  | .agg g=>fg c d h e g
  |_=>c6
 | .b b,a=>match a with
  | .bool k=>bif Bool.xor b k then c6 else c4 []
  |_=>c6
 | .i p o,a=>match a with
  | .int t s=>bif fV p t then bif c3 (s=o) then c4 [] else c6 else c6
  |_=>c6
 | .ns,a=>match a with
  | .bg=>c4 []
  |_=>c6
 | .z,a=>match a with
  | .dB=>c4 []
  |_=>c6
def fg{a:Nat->Type}(b:List (Ob a))(c:List Rf)(d:List Nat):List CP->List (TV a)->Option (List (TV a))
 |[],[]=>c4 []
 |f::g,h::e=>cat (eR b c d f h) (fg b c d g e)
 |_,_=>c6
end
def dn{d:Nat->Type}(a:List (Ob d))(e:List Rf)(f:List Nat):OP->Rf->Option (List (TV d))
 | .aap b _,.bG r=>match nth a r with
  |some ⟨_,_,.aap c l⟩=>bif e4 b c then c4 [.row c l] else c6
  |_=>c6
 | .aap b _,.new=>c4 [.row b []]
 | .box j i,.bG r=>match nth a r with
  |some ⟨_,_,.box m k⟩=>bif e4 j m then fg a e f i k else c6
  |_=>c6
 | .refs b h,.bG r=>match nth a r with
  |some ⟨_,_,.hole c [] g⟩=>bif e4 b c then fg a e f (iQ h) g else c6
  |_=>c6
 |_,_=>c6
def iP{a:Nat->Type}(b:List (Ob a))(c:List Rf)(d:List Nat):List (Nat×List Nat×OP)->List Rf->Option (List (TV a))
 |[],[]=>c4 []
 |f::e,i::g=>cat (dn b c d f.2.2 i) (iP b c d e g)
 |_,_=>c6
def oz{b:Nat->Type}(a:St b)(d:List Rf)(e:List Nat):List (Nat×CP)->Option (List (TV b))
 |[]=>c4 []
 |c::f=>cat (eR a.H d e c.2 (lk a.E c.1)) (oz a d e f)
def leaves{b:Nat->Type}(p:bY)(c:St b)(a:List Rf):Option (List (TV b)):=
 bif JG a then bif rj (bL a) then cat (iP c.H a (bL a) p.dF a) (oz c a (bL a) p.dE) else c6 else c6
def qH{c:Nat->Type}(a:List (Ob c)):Nat->Nat->List Rf->Bool
 |0,_,_=>true
 |f+1,b,.bG r::e=>bif e4 r b then(match nth a r with |some d=>bif e4 d.aF 0 then qH a f (b+1) e else false |none=>false) else false
 |_,_,_=>false
section
variable {B:Tb}{R:Type}
def take(B:Tb)(e:Nat)(p:bY)(a:St B.D)(d:bi B.D p.bX->Option R):Option R:=
 let b:=nQ a p.dF
 bif qH a.H e 0 b then tr (leaves p a b) λc=>m9 B p.bX c d else c6
mutual
def hO{f:Nat->Type}(c:Nat->Nat×Nat):CP->List (TV f)->TV f×List (TV f)
 | .any,a=>(.any,a)
 | .v _,k::a=>(k,a)
 | .v _,[]=>(.any,[])
 | .p q,a=>(.ptr (c q).1 (c q).2 0 0,a)
 | .r q,a=>(.fl (c q).1 (c q).2,a)
 | .q d,a=>match jD c d a with
  |(e,a)=>(.vp e 0,a)
 | .f i d g,a=>match jD c d a with
  |(e,a)=>match jD c g a with
   |(h,a)=>(.fn i e h,a)
 | .g d,a=>match jD c d a with
  |(e,a)=>(.agg e,a)
 | .b b,a=>(.bool b,a)
 | .i j l,a=>(.int j l,a)
 | .z,a=>(.dB,a)
 | .ns,a=>(.bg,a)
def jD{b:Nat->Type}(c:Nat->Nat×Nat):List CP->List (TV b)->List (TV b)×List (TV b)
 |[],a=>([],a)
 |d::f,a=>match hO c d a with
  |(e,a)=>match jD c f a with
   |(g,a)=>(e::g,a)
end
def dI{c:Nat->Type}(e:Nat->Nat×Nat)(b v:Nat):OP->List (TV c)->Ob c×List (TV c)
 | .aap _ _,k::a=>match k with
  | .row l i=>(⟨b,v,.aap l i⟩,a)
  |_=>(⟨b,v,.dead⟩,a)
 | .aap _ _,[]=>(⟨b,v,.dead⟩,[])
 | .box h g,a=>match jD e g a with
  |(d,a)=>(⟨b,v,.box h d⟩,a)
 | .dead,a=>(⟨b,v,.dead⟩,a)
 | .refs j f,a=>match jD e (iQ f) a with
  |(d,a)=>(⟨b,v,.hole j [] d⟩,a)
def lM{b:Nat->Type}(c:Nat->Nat×Nat)(q:Nat):List (Nat×List Nat×OP)->List (TV b)->List (Ob b)×List (TV b)
 |[],a=>([],a)
 |g::d,a=>match dI c 0 (c q).2 g.2.2 a with
  |(e,a)=>match lM c (q+1) d a with
   |(f,a)=>(e::f,a)
def gR{b:Nat->Type}(d:Nat->Nat×Nat):List (Nat×CP)->List (TV b)->List (Nat×TV b)
 |[],_=>[]
 |c::f,a=>match hO d c.2 a with
  |(e,a)=>(c.1,e)::gR d f a
def nI(B:Tb)(a:Nat->Nat×Nat)(p:bY)(b:bi B.D p.bX):St B.D:=
 match lM a 0 p.dF (rQ B p.bX b) with
 |(c,d)=>⟨gR a p.dE d,c⟩
def cz(B:Tb)(p:bY)(a:bi B.D p.bX):St B.D:=nI B (λq=>(q,0)) p a
def dJ{a:Nat->Type}(c:List (Ob a))(r:Nat):Nat:=(match nth c r with |some b=>b.st |none=>0)+1
def OP.qj:OP->Bool
 | .dead=>true
 |_=>false
def gone:List (Nat×Bool×OP)->Nat->Bool
 |[],_=>false
 |a::b,r=>bif e4 a.1 r then a.2.2.qj else gone b r
def bN:List (Nat×Bool×OP)->Nat->Bool
 |[],_=>false
 |b::a,r=>bif e4 b.1 r then true else bN a r
def nL(b:List (Nat×Bool×OP)):Nat->Nat->List Rf->List Rf
 |0,_,a=>a
 |c+1,r,a=>(bif gone b r then .gone else .bG r)::nL b c (r+1) a
def calm{a:Nat->Type}(b:List (Nat×Bool×OP)):Nat->List (Ob a)->List (Ob a)->Bool
 |_,[],_=>true
 |r,f::c,e::d=>bif (bif bN b r then true else e4 f.st e.st) then calm b (r+1) c d else false
 |_,_::_,[]=>false
def wH{f:Nat->Type}(c d:List (Ob f)):List (Nat×Bool×OP)->Bool
 |[]=>true
 |a::e=>bif a.2.1 then(match nth c a.1,nth d a.1 with
  |some g,c4 b=>bif a.2.2.qj then false else bif e4 g.aF b.aF then wH c d e else false
  |_,_=>false) else bif m1 a.1 (len c) then wH c d e else false
def ET(a:List Nat):List (Nat×CP)->Bool
 |[]=>true
 |c::b=>bif has a c.1 then ET a b else false
def pX{b:Nat->Type}(c:List (Ob b))(d:List Rf)(e:List Nat):List (Nat×Bool×OP)->Option (List (TV b))
 |[]=>c4 []
 |a::f=>cat (bif a.2.2.qj then c4 [] else dn c d e a.2.2 (.bG a.1)) (pX c d e f)
def DZ:List (Nat×Bool×OP)->List Nat
 |[]=>[]
 |b::a=>b.1::DZ a
def zE(b:Nat):List (Nat×Bool×OP)->Bool
 |[]=>true
 |a::c=>bif (bif hK b a.1 then true else bif a.2.1 then(bif a.2.2.qj then false else true) else false) then zE b c else false
def nW(B:Tb)(i:Nat)(e:St B.D)(h:List Nat)(p:lD)(a:St B.D)(g:bi B.D p.bX->Option R):Option R:=
 let d:=nQ a p.new
 let b:=nL p.dO (len e.H) 0 d
 let c:=bL b
 bif zE i p.dO then bif ET h p.dE then bif JG d then bif rj c then bif rj (DZ p.dO) then bif calm p.dO 0 e.H a.H then bif wH e.H a.H p.dO then
  tr (cat (pX a.H b c p.dO) (cat (iP a.H b c p.new d) (oz a b c p.dE))) λf=>m9 B p.bX f g
 else c6 else c6 else c6 else c6 else c6 else c6 else c6
def mw{c:Nat->Type}(e:List (Ob c))(b:List (Nat×Bool×OP))(q:Nat):Nat:=
 match nth e q with
 |some a=>bif bN b q then(bif kv b q then a.aF else a.aF+1) else a.aF
 |none=>1
where kv:List (Nat×Bool×OP)->Nat->Bool
 |[],_=>false
 |a::d,r=>bif e4 a.1 r then a.2.1 else kv d r
def pU{b:Nat->Type}(e:List (Ob b))(d:Nat->Nat×Nat):List (Nat×Bool×OP)->List (TV b)->List (Nat×Ob b)×List (TV b)
 |[],a=>([],a)
 |c::f,a=>match dI d (dJ e c.1) (d c.1).2 c.2.2 a with
  |(g,a)=>match pU e d f a with
   |(h,a)=>((c.1,g)::h,a)
def mN{b:Nat->Type}(a:List Nat):En b->En b
 |[]=>[]
 |p::r=>bif has a p.1 then mN a r else p::mN a r
def ik(B:Tb)(a:St B.D)(g:List Nat)(p:lD)(f:bi B.D p.bX):St B.D:=
 let b:=λq=>(q,mw a.H p.dO q)
 match pU a.H b p.dO (rQ B p.bX f) with
 |(e,c)=>match lM b (len a.H) p.new c with
  |(d,c)=>⟨aX (gR b p.dE c) (mN g a.E),aX (b8 a.H e) d⟩
end
structure aq (B:Tb) where
 cO:Nat
 na:Nat
 low:Nat
 par:bY
 az:bY
 F:bi B.D par.bX->Option (bi B.D az.bX)
structure cr (D:Nat->Type) where
 val:TV D
 wr:List (Nat×Ob D)
 nw:Nat
 rd:List Nat
section
variable (B:Tb)(P:Program){R:Type}
def drop{b:Type}:Nat->List b->List b
 |0,a=>a
 |_+1,[]=>[]
 |c+1,_::a=>drop c a
def tk{a:Type}:Nat->List a->List a
 |0,_=>[]
 |_+1,[]=>[]
 |d+1,b::c=>b::tk d c
def piece{c:Nat->Type}(d:TypeId)(b:List (TV c))(a:Nat):Option (TV c):=
 match dP P d with
 |some true=>match cH P d with
  |some e=>bif hK (a+e) (len b) then c4 (.agg (tk e (drop a b))) else c6
  |none=>c6
 |some false=>nth b a
 |none=>c6
def A6{a:Nat->Type}(e:TypeId->TV a->TV a->Option Bool)(d c:List (TV a)):List Field->Option Bool
 |[]=>c4 true
 |f::g=>bif f.name != "_" then(match piece P f.type d f.offset,piece P f.type c f.offset with
  |some h,c4 b=>(match e f.type h b,A6 e d c g with
   |some p,c4 q=>c4 (p&&q)
   |_,_=>c6)
  |_,_=>c6) else c6
def yq{e:Nat->Type}:Nat->TypeId->TV e->TV e->Option Bool
 |0,_,_,_=>c6
 |g+1,f,c,d=>match P.underlying f with
  |some .bool=>(match c,d with
   | .bool a,.bool b=>c4 (a==b)
   |_,_=>c6)
  |some (.int _)=>(match c,d with
   | .int a k,.int b l=>bif fV a b then c4 (k==l) else c6
   |_,_=>c6)
  |some (.struct i)=>bif P.stoodInHeld f then c6 else(match c,d with
   | .agg j,.agg h=>A6 P (yq g) j h i.toList
   |_,_=>c6)
  |_=>c6
def LM(P:Program)(a:TypeId):Bool:=match P.underlying a with |some (.func ..)=>true |_=>false
def bin(g:BinOp)(f:TypeId)(k l:TV B.D)(c:TV B.D->Option R):Option R:=
 match k,l with
 | .int a d,.int b e=>match g with
  | .add=>bif fV a b then c (.int a (a.wrap (d+e))) else c6
  | .sub=>bif fV a b then c (.int a (a.wrap (d -e))) else c6
  | .mul=>bif fV a b then c (.int a (a.wrap (d*e))) else c6
  | .quo=>bif fV a b then(ph a d e).bind λr=>c (.int a r) else c6
  | .rem=>bif fV a b then(nG d e).bind λr=>c (.int a r) else c6
  | .and=>bif fV a b then c (.int a (bits .and a d e)) else c6
  | .or=>bif fV a b then c (.int a (bits .or a d e)) else c6
  | .xor=>bif fV a b then c (.int a (bits .xor a d e)) else c6
  | .andNot=>bif fV a b then c (.int a (bits .andNot a d e)) else c6
  | .shl=>(uU a d e).bind λr=>c (.int a r)
  | .shr=>(iN a d e).bind λr=>c (.int a r)
  | .eql=>bif fV a b then c (.bool (c3 (d=e))) else c6
  | .neq=>bif fV a b then c (.bool (c3 (d≠e))) else c6
  | .lss=>bif fV a b then c (.bool (c3 (d<e))) else c6
  | .leq=>bif fV a b then c (.bool (c3 (d<=e))) else c6
  | .gtr=>bif fV a b then c (.bool (c3 (e<d))) else c6
  | .geq=>bif fV a b then c (.bool (c3 (e<=d))) else c6
 | .bool a,.bool b=>match g with
  | .eql=>bif sr P f then c (.bool (a==b)) else c6
  | .neq=>bif sr P f then c (.bool (a != b)) else c6
  |_=>c6
 | .agg i,.agg h=>match g with
  | .eql=>bif P.eqGuardType P.depth f then c6 else tr (yq P 10000 f (.agg i) (.agg h)) λb=>c (.bool b)
  | .neq=>bif P.eqGuardType P.depth f then c6 else tr (yq P 10000 f (.agg i) (.agg h)) λb=>c (.bool (!b))
  |_=>c6
 | .jC j,.dB=>bif LM P f then match g with
  | .eql=>c (.bool j.isNone)
  | .neq=>c (.bool (!j.isNone))
  |_=>c6 else c6
 |_,_=>c6
def HY(d:UnOp)(e:TV B.D)(c:TV B.D->Option R):Option R:=
 match d,e with
 | .neg,.int a f=>c (.int a (a.wrap (0 -f)))
 | .not,.bool b=>c (.bool (!b))
 |_,_=>c6
def Es(i b:Nat)(c:TV B.D->Option R):Nat->List (TV B.D)->Option R
 |_,[]=>c6
 |a,e::d=>bif e4 i (b+a) then c e else Es i b c (a+1) d
def AK(d:Int)(b:Nat)(c:Nat->Option R):Nat->List (TV B.D)->Option R
 |_,[]=>c6
 |a,_::e=>bif c3 (d=((b+a:Nat):Int)) then c (b+a) else AK d b c (a+1) e
def load(j:List (Ob B.D))(c:TypeId)(e:TV B.D)(b:cr B.D->Option R):Option R:=
 match e with
 | .vp d a=>tr (piece P c d a) λv=>b ⟨v,[],0,[]⟩
 | .ptr r v i a=>match aK j r v with
  |some (.aap g f)=>(f[i]?).bind λe=>tr (piece P c (dN (B.tv g e)) a) λv=>b ⟨v,[],0,[r]⟩
  |some (.box _ d)=>bif e4 i 0 then tr (piece P c d a) λv=>b ⟨v,[],0,[r]⟩ else c6
  |some (.hole g f h)=>Es B i f.length (λk=>tr (piece P c (dN k) a) λv=>b ⟨v,[],0,[r]⟩) 0 h
  |_=>c6
 |_=>c6
def oJ{a:Type}(b:List a)(d:Nat)(c:List a):List a:=aX (tk d b) (aX c (drop (d+len c) b))
def tF{a:Nat->Type}:TV a->Bool
 | .bu _=>false
 |_=>true
mutual
def yH{a:Nat->Type}:TV a->Bool
 | .any=>false
 | .agg _=>false
 | .bu _=>false
 |_=>true
def jj{b:Nat->Type}:List (TV b)->Bool
 |[]=>true
 |c::a=>bif yH c then jj a else false
end
def store(e:List (Ob B.D))(l:TypeId)(g b:TV B.D)(j:cr B.D->Option R):Option R:=
 match cH P l with
 |some a=>bif e4 (len (dN b)) a then bif jj (dN b) then match g with
  | .ptr r v i c=>match aK e r v with
   |some (.aap a h)=>(h[i]?).bind λg=>
    match B.tv a g with
    | .agg d=>bif hK (c+len (dN b)) (len d) then tr (B.up a (.agg (oJ d c (dN b)))) λf=>j ⟨.any,[(r,⟨dJ e r,v,.aap a (h.set i f)⟩)],0,[r]⟩ else c6
    |_=>bif e4 c 0 then tr (B.up a b) λf=>j ⟨.any,[(r,⟨dJ e r,v,.aap a (h.set i f)⟩)],0,[r]⟩ else c6
   |some (.box k d)=>bif e4 i 0 then bif hK (c+len (dN b)) (len d) then j ⟨.any,[(r,⟨dJ e r,v,.box k (oJ d c (dN b))⟩)],0,[r]⟩ else c6 else c6
   |_=>c6
  |_=>c6 else c6 else c6
 |none=>c6
def rowOf(d:List (Ob B.D))(e:TV B.D)(c:(a:Nat)->List (B.D a)->List Nat->Option R):Option R:=
 match e with
 | .row a b=>c a b []
 | .fl r v=>match aK d r v with
  |some (.aap a b)=>c a b [r]
  |_=>c6
 | .sl r v f len=>match aK d r v with
  |some (.aap a b)=>c a ((b.drop f).take len) [r]
  |_=>c6
 |_=>c6
def sU(a b:Nat)(d:List (B.D a)):Option (List (B.D b)):=
 if c:a=b then c4 (c▸d) else c6
def CK(e:List (Ob B.D))(c:Nat)(a:TV B.D)(b:List (B.D c)->List Nat->Option R):Option R:=
 match a with
 | .bg=>b [] []
 | .z0=>b [] []
 |a=>rowOf B e a λh g f=>tr (sU B h c g) λd=>b d f
def KK:Option Nat->Nat->Bool
 |some a,b=>e4 a b
 |none,_=>false
def kX(b:TypeId)(a:Nat):Bool:=match dU P b,cH P a with |some c,c4 d=>bif e4 c a then e4 d (B.sz a) else false |_,_=>false
def indexAddr(f:List (Ob B.D))(e:TypeId)(m i:TV B.D)(d:cr B.D->Option R):Option R:=
 match i with
 | .int _ c=>match m with
  | .row a b=>bif kX B P e a then(aj b c).bind λl=>d ⟨.vp (dN (B.tv a l)) 0,[],0,[]⟩ else c6
  | .fl r v=>match aK f r v with
   |some (.aap a b)=>bif kX B P e a then(aj b c).bind λ_=>d ⟨.ptr r v c.toNat 0,[],0,[r]⟩ else c6
   |some (.hole a b h)=>bif kX B P e a then AK B c b.length (λi=>d ⟨.ptr r v i 0,[],0,[r]⟩) 0 h else c6
   |_=>c6
  | .sl r v g len=>match aK f r v with
   |some (.aap a b)=>bif kX B P e a then(aj ((b.drop g).take len) c).bind λ_=>d ⟨.ptr r v (g+c.toNat) 0,[],0,[r]⟩ else c6
   |_=>c6
  | .ptr r v i k=>match c with
   | .ofNat q=>match pk P e with
    |some (a,n)=>match cH P n with
     |some j=>bif m1 q a then d ⟨.ptr r v i (k+q*j),[],0,[]⟩ else c6
     |none=>c6
    |none=>c6
   |_=>c6
  |_=>c6
 |_=>c6
def ints{d:Nat->Type}(a:IntKind):List (TV d)->Option (List Int)
 |[]=>c4 []
 | .int b c::e=>bif fV a b then(match ints a e with |some r=>c4 (c::r) |none=>c6) else c6
 |_=>c6
def gS{a:Nat->Type}:List (TV a)->Option (List Bool)
 |[]=>c4 []
 | .bool b::c=>(match gS c with |some r=>c4 (b::r) |none=>c6)
 |_=>c6
def Gx(c:TypeId)(d:Nat):Bool:=match pk P c with
 |some (e,a)=>(match cH P a,dP P a with |some b,c4 false=>bif e4 e d then e4 b 1 else false |_,_=>false)
 |none=>false
def index(g:TypeId)(f i:TV B.D)(d:cr B.D->Option R):Option R:=
 match i,f with
 | .int _ e,.agg a=>bif Gx P g (len a) then match a with
  | .int c _::_=>tr (ints c a) λb=>(aj b e).bind λv=>d ⟨.int c v,[],0,[]⟩
  | .bool _::_=>tr (gS a) λb=>(aj b e).bind λv=>d ⟨.bool v,[],0,[]⟩
  |_=>c6 else c6
 |_,_=>c6
def rE(d:En B.D)(a:Int):Option Operand->Option Int
 |none=>c4 a
 |some c=>match pe d c with
  | .int _ b=>c4 b
  |_=>c6
def pP{a:Nat->Type}:TV a->Bool
 | .int _ (.ofNat 0)=>true
 |_=>false
def Bx(b:En B.D):Option Operand->Bool
 |none=>true
 |some a=>pP (pe b a)
def slice(a:En B.D)(j:List (Ob B.D))(f:TypeId)(l:TV B.D)(h g:Option Operand)(i:cr B.D->Option R):Option R:=
 match l with
 | .row c e=>bif kX B P f c then tr (rE B a 0 h) λd=>tr (rE B a (e.length:Int) g) λb=>(eG e d b).bind λk=>i ⟨.row c k,[],0,[]⟩ else c6
 | .fl r v=>match aK j r v with
  |some (.aap c e)=>bif kX B P f c then tr (rE B a 0 h) λd=>tr (rE B a (e.length:Int) g) λb=>(eG e d b).bind λ_=>i ⟨.sl r v d.toNat (b.toNat -d.toNat),[],0,[r]⟩ else c6
  |_=>c6
 | .bg=>bif Bx B a h then bif Bx B a g then(match dU P f with |some c=>bif kX B P f c then i ⟨.bg,[],0,[]⟩ else c6 |none=>c6) else c6 else c6
 |_=>c6
def shrink(h:En B.D)(a:List (Ob B.D))(j:TypeId)(g:TV B.D)(e:Option Operand)(i:cr B.D->Option R):Option R:=
 match g with
 | .fl r v=>match aK a r v with
  |some (.aap d c)=>bif kX B P j d then tr (rE B h (c.length:Int) e) λb=>(eG c 0 b).bind λf=>i ⟨.fl r (v+1),[(r,⟨dJ a r,v+1,.aap d f⟩)],0,[r]⟩ else c6
  |_=>c6
 |_=>c6
def fill{b:Nat->Type}:List (Nat×Nat)->List (TV b)->List (Nat×List (TV b))->Option (List (TV b))
 |_,a,[]=>c4 a
 |c,a,p::r=>match nth c p.1 with
  |some (d,size)=>bif e4 (len p.2) size then bif hK (d+size) (len a) then bif jj p.2 then fill c (oJ a d p.2) r else c6 else c6 else c6
  |none=>c6
def ul(a:En B.D):List (Nat×Operand)->Option (List (Nat×List (TV B.D)))
 |[]=>c4 []
 |p::r=>bif tF (pe a p.2) then(match ul a r with |some b=>c4 ((p.1,dN (pe a p.2))::b) |none=>c6) else c6
def AA(a:Nat):Nat->Nat->List (Nat×Nat)
 |0,_=>[]
 |b+1,i=>(i*a,a)::AA a b (i+1)
def placesOf(a:TypeId):Option (List (Nat×Nat)):=
 match Jk P a with
 |some c=>c4 c
 |none=>match pk P a with
  |some (e,d)=>match cH P d with
   |some b=>c4 (AA b e 0)
   |none=>c6
  |none=>c6
def rn(b:En B.D)(a:Nat):Nat->List (Nat×Operand)->Option (List (B.D a))
 |_,[]=>c4 []
 |i,p::r=>bif e4 p.1 i then match B.up a (pe b p.2),rn b a (i+1) r with
  |some c,c4 d=>c4 (c::d)
  |_,_=>c6
  else c6
def kR{a:Nat->Type}:List (Nat×TV a)->TV a
 |[p]=>p.2
 |b=>.bu (b.map (·.2))
def fi{a:Nat->Type}:Nat->List (TV a)->En a
 |_,[]=>[]
 |i,b::c=>(i,b)::fi (i+1) c
def gu{b:Nat->Type}(d:List (Ob b))(e:List Rf)(a c q:Nat):Nat×Nat:=
 bif m1 q a then match nth e q with
  |some (.bG r)=>(r,match nth d r with |some f=>f.aF |none=>0)
  |_=>(0,0)
 else(c+(q -a),1)
def jL{d:Nat->Type}(b:List (Ob d)):List Rf->List (Nat×Ob d)
 |[]=>[]
 | .bG r::a=>match nth b r with
  |some c=>(r,⟨c.st+1,c.aF+1,.dead⟩)::jL b a
  |none=>jL b a
 |_::a=>jL b a
def iF{a:Nat->Type}(b:List (Ob a)):List Rf->List (Ob a)->List (Nat×Ob a)
 | .bG r::e,c::d=>(r,⟨dJ b r,c.aF,c.bd⟩)::iF b e d
 |_,_=>[]
def news{a:Nat->Type}:Nat->List (Ob a)->List (Nat×Ob a)
 |_,[]=>[]
 |b,c::d=>(b,c)::news (b+1) d
mutual
def jn{e:Nat->Type}(b:List (Ob e)):CP->TV e->List Nat
 | .v _,a=>aX (refs a) (kY b (refs a))
 | .q d,a=>match a with
  | .ptr r _ _ _=>r::(match nth b r with
   |some ⟨_,_,.box _ c⟩=>gJ b d c
   |_=>[])
  | .vp c _=>gJ b d c
  |_=>[]
 | .f _ d f,a=>match a with
  | .fn _ c g=>aX (gJ b d c) (gJ b f g)
  |_=>[]
 | .g d,a=>match a with
  | .agg c=>gJ b d c
  |_=>[]
 |_,_=>[]
def gJ{a:Nat->Type}(b:List (Ob a)):List CP->List (TV a)->List Nat
 |d::e,f::c=>aX (jn b d f) (gJ b e c)
 |_,_=>[]
end
def eW{d:Nat->Type}(a:List (Ob d)):List (Nat×List Nat×OP)->List Rf->List Nat
 |(_,_,.box _ e)::b,.bG r::c=>aX (match nth a r with
  |some ⟨_,_,.box _ f⟩=>gJ a e f
  |_=>[]) (eW a b c)
 |_::b,_::c=>eW a b c
 |_,_=>[]
def gK{c:Nat->Type}(a:St c):List (Nat×CP)->List Nat
 |[]=>[]
 |b::d=>aX (jn a.H b.2 (lk a.E b.1)) (gK a d)
mutual
def Kk(f:Nat->Bool):CP->Bool
 | .v c=>f c
 | .q _=>false
 | .f _ a b=>bif rr f a then rr f b else false
 | .g a=>rr f a
 |_=>true
def rr(f:Nat->Bool):List CP->Bool
 |[]=>true
 |b::a=>bif Kk f b then rr f a else false
end
def uT(f:Nat->Bool)(b:Nat->Nat):OP->Bool
 | .aap _ d=>f (b d)
 | .box _ c=>rr f c
 | .dead=>true
 | .refs _ a=>rr f (iQ a)
def oN(f:Nat->Bool)(a:Nat->Nat):List (Nat×List Nat×OP)->Bool
 |[]=>true
 |c::b=>bif uT f a c.2.2 then oN f a b else false
def tJ(f:Nat->Bool):List (Nat×CP)->Bool
 |[]=>true
 |b::a=>bif Kk f b.2 then tJ f a else false
def zc:List Nat->Bool
 |[]=>true
 |_=>false
def kA:Nat->List Rf->Bool
 |0,_=>true
 |b+1,.bG _::a=>kA b a
 |_,_=>false
def here{b:Nat->Type}(a:List (Ob b)):List Nat->Bool
 |[]=>true
 |i::c=>match nth a i with
  |some _=>here a c
  |none=>false
def Nv(b:St B.D)(a:aq B)(c:List Rf)(g:List (TV B.D))(i:cr B.D->Option R):Option R:=
 let e:=aX (eW b.H a.par.dF c) (gK b a.par.dE)
 bif (bif zc e then true else bif oN B.flat B.el a.az.dF then tJ B.flat a.az.dE else false) then bif kA a.low c then bif here b.H e then
  m9 B a.par.bX g λh=>(a.F h).bind λf=>
   match nI B (gu b.H c a.low (len b.H)) a.az f with
   |⟨j,d⟩=>bif hK a.low (len d) then i ⟨kR j,aX (iF b.H (tk a.low c) (tk a.low d)) (aX (jL b.H (drop a.low c)) (news (len b.H) (drop a.low d))),len (drop a.low d),aX (bL c) e⟩ else c6
 else c6 else c6 else c6
def nz(f:Nat)(a:St B.D)(c:cr B.D->Option R):List (aq B)->Option R
 |[]=>c6
 |b::d=>bif (bif e4 b.cO f then e4 (len a.E) b.na else false) then
  match leaves b.par a (nQ a b.par.dF) with
  |some e=>Nv B a b (nQ a b.par.dF) e c
  |none=>nz f a c d
  else nz f a c d
def nf{b:Type}:List b->List b->List b
 |[],a=>a
 |d::c,a=>nf c (d::a)
def sV(f:Nat)(a:St B.D)(c:cr B.D->Option R):List (aq B)->Option R
 |[]=>c6
 |b::d=>bif (bif e4 (len a.E) b.na then(leaves b.par a (nQ a b.par.dF)).isSome else false) then cond (e4 f b.cO) (nz B b.cO a c [b]) (sV f a c d) else sV f a c d
def Dm(f:Int->Int->Int):List (TV B.D)->Option (TV B.D)
 |[.int a c,.int b d]=>bif fV a b then c4 (.int a (f c d)) else c6
 |_=>c6
def KP{d:Nat->Type}(e:Bool)(a c:TV d):TV d:=
 match a,c with
 | .bool f,.bool b=>.bool (cond e f b)
 |a,c=>cond e a c
def Cf:Operand->Operand->Bool
 | .tmp a,.tmp b=>e4 a b
 | .const (.int a c),.const (.int b d)=>bif fV a b then c3 (c=d) else false
 |_,_=>false
def lB(a:Nat)(b:Option Nat)(z:Option Value):Bool:=
 match b,z with
 |some c,c4 z=>bif e4 a c then e4 z.cells.size a else false
 |_,_=>false
def Ax:List Value->Bool
 |[]=>true
 |v::a=>bif v.oneCell' then Ax a else false
def Ix(z:Option Value):Bool:=
 match z with
 |some z=>Ax z.cells.toList
 |none=>false
def iG{a:Type}(z:a)(d c:Nat)(b:List a):List a:=b.take d++(hB c z++b.drop (d+c))
def mg{a:Type}(b:List a)(e d:Nat)(c:List a):List a:=c.take e++(b.take d++c.drop (e+(b.take d).length))
def B4(c:List (Ob B.D))(e:TV B.D)(d:Nat->Nat->Nat->Nat->(a:Nat)->List (B.D a)->Option R):Option R:=
 match e with
 | .fl r v=>match aK c r v with
  |some (.aap a b)=>d r v 0 b.length a b
  |_=>c6
 | .sl r v f len=>match aK c r v with
  |some (.aap a b)=>d r v f len a b
  |_=>c6
 |_=>c6
def GF(d:List (Ob B.D))(b:TV B.D)(c:cr B.D->Option R):Option R:=
 match b with
 | .fl r v=>match aK d r v with
  |some (.aap _ a)=>c ⟨.int .i64 (a.length:Int),[],0,[r]⟩
  |some (.hole _ a e)=>c ⟨.int .i64 ((a.length+len e:Nat):Int),[],0,[r]⟩
  |_=>c6
 |b=>rowOf B d b λ_ a f=>c ⟨.int .i64 (a.length:Int),[],0,f⟩
def FK(a:En B.D)(b:List (Ob B.D))(c:Nat)(f:List (Nat×Operand))(e:Nat)(d:cr B.D->Option R):Option R:=
 match f with
 |[p]=>bif e4 p.1 0 then bif e4 e 1 then bif e4 (len (dN (pe a p.2))) (B.sz c) then bif jj (dN (pe a p.2)) then bif tF (pe a p.2) then d ⟨.fl (len b) 1,[(len b,⟨1,1,.hole c [] [pe a p.2]⟩)],1,[]⟩ else c6 else c6 else c6 else c6 else c6
 |_=>c6
def GI(c:List (Ob B.D))(d f:Nat)(j k:TV B.D)(g:cr B.D->Option R):Option R:=
 match k with
 | .fl q i=>match aK c q i with
  |some (.hole l [] b)=>bif e4 l d then match j with
   | .bg=>bif hK (len b*f) 140737488355328 then g ⟨.fl (len c) 1,[(len c,⟨1,1,.hole d [] b⟩)],1,[q]⟩ else c6
   | .fl r v=>match aK c r v with
    |some (.hole e a h)=>tr (sU B e d a) λa=>bif hK ((a.length+len h+len b)*f) 140737488355328 then g ⟨.fl r (v+1),[(r,⟨dJ c r,v+1,.hole d a (aX h b)⟩)],0,[r,q]⟩ else c6
    |some (.aap e a)=>tr (sU B e d a) λa=>bif hK ((a.length+len b)*f) 140737488355328 then g ⟨.fl r (v+1),[(r,⟨dJ c r,v+1,.hole d a b⟩)],0,[r,q]⟩ else c6
    |_=>c6
   |_=>c6
   else c6
  |_=>c6
 |_=>c6
def SG(c:List (Ob B.D))(b:TV B.D):Bool:=
 match b with
 | .fl q a=>match aK c q a with
  |some (.hole _ _ _)=>true
  |_=>false
 |_=>false
def step(G:List (aq B))(K:Bool)(d:En B.D)(h:List (Ob B.D))(u:Op)(g:cr B.D->Option R):Option R:=
 let mk (a:Nat) (l:List (B.D a)) (m:List Nat):Option R:=
  bif K then g ⟨.row a l,[],0,m⟩ else g ⟨.fl (len h) 1,[(len h,⟨1,1,.aap a l⟩)],1,m⟩
 match u with
 | .move c=>g ⟨pe d c,[],0,[]⟩
 | .assign c=>g ⟨pe d c,[],0,[]⟩
 | .pick k q b=>match pe d k with
  | .bool k=>g ⟨KP k (pe d q) (pe d b),[],0,[]⟩
  |_=>c6
 | .binOp u e c x _=>bin B P u e (pe d c) (pe d x) λv=>g ⟨v,[],0,[]⟩
 | .unOp u _ c=>HY B u (pe d c) λv=>g ⟨v,[],0,[]⟩
 | .convert S Q c=>match pe d c,yi P Q with
  | .int _ y,c4 q=>bif (P.underlying S).isSome then g ⟨.int q (q.wrap y),[],0,[]⟩ else c6
  |_,_=>c6
 | .extract c i=>match pe d c with
  | .bu j=>tr (nth j i) λv=>g ⟨v,[],0,[]⟩
  |_=>c6
 | .nilCheck c=>match pe d c with
  | .ptr r v i p=>g ⟨.ptr r v i p,[],0,[]⟩
  | .vp j p=>g ⟨.vp j p,[],0,[]⟩
  | .fn f j F=>g ⟨.fn f j F,[],0,[]⟩
  |_=>c6
 | .field e c f=>match pe d c,nU P e f with
  | .agg j,c4 (I,o)=>tr (piece P I j o) λv=>g ⟨v,[],0,[]⟩
  |_,_=>c6
 | .fieldAddr e c f=>match nU P e f with
  |some (I,o)=>match cH P I with
   |some (_+1)=>match pe d c with
    | .ptr r v i p=>g ⟨.ptr r v i (p+o),[],0,[]⟩
    | .vp j p=>g ⟨.vp j (p+o),[],0,[]⟩
    |_=>c6
   |_=>c6
  |none=>c6
 | .indexAddr e c i=>indexAddr B P h e (pe d c) (pe d i) g
 | .index e c i=>index B P e (pe d c) (pe d i) g
 | .load e c=>load B P h e (pe d c) g
 | .store e c x=>store B P h e (pe d c) (pe d x) g
 | .slice e c M E c6=>bif K then(match M with |none=>shrink B P d h e (pe d c) E g |some _=>c6) else slice B P d h e (pe d c) M E g
 | .slice e c c6 (c4 E) (c4 N)=>bif pP (pe d E) then bif pP (pe d N) then rowOf B h (pe d c) λa _ m=>bif kX B P e a then g ⟨.z0,[],0,m⟩ else c6 else c6 else c6
 | .box e c=>match dN (pe d c) with
  |j=>bif jj j then bif m1 0 (len j) then g ⟨.ptr (len h) 1 0 0,[(len h,⟨1,1,.box e j⟩)],1,[]⟩ else c6 else c6
 | .alloc e=>match dV P e with
  |some z=>match dN (cv z) with
   |j=>bif jj j then bif m1 0 (len j) then g ⟨.ptr (len h) 1 0 0,[(len h,⟨1,1,.box e j⟩)],1,[]⟩ else c6 else c6
  |none=>c6
 | .build e C=>match dV P e,placesOf P e with
  |some (.agg z),c4 O=>match rq z.toList with
   |j=>bif jj j then tr (ul B d C.toList) λn=>tr (fill O j n) λj=>g ⟨.agg j,[],0,[]⟩ else c6
  |_,_=>c6
 | .buildSlice e n C=>match dU P e with
  |some a=>bif lB (B.sz a) (cH P a) (dV P a) then bif Ix (dV P a) then bif hK (n*B.sz a) 16777216 then match rn B d a 0 C.toList with
   |some l=>bif e4 (len l) n then mk a l [] else c6
   |none=>FK B d h a C.toList n g
   else c6 else c6 else c6
  |none=>c6
 | .makeSlice e n k=>bif Cf n k then match dU P e,pe d n with
  |some a,.int _ y=>match dV P a,kB P a with
   |some z,c4 (s+1)=>bif lB (B.sz a) (cH P a) (dV P a) then bif jj (dN (cv (D:=B.D) z)) then tr (B.up a (cv z)) λz=>(gP (s+1) z y).bind λl=>mk a l [] else c6 else c6
   |_,_=>c6
  |_,_=>c6 else c6
 | .makeFunc (.func f) q k=>g ⟨.fn f (fB d q.toList) (fB d k.toList),[],0,[]⟩
 | .call k=>match k.callee with
  | .value f=>match pe d f with
   | .fn J j F=>nz B J ⟨fi 0 (aX j (aX (fB d k.args.toList) F)),h⟩ g (bif K then nf G [] else G)
   | .jC T=>T.bind λJ=>sV B J ⟨fi 0 (fB d k.args.toList),h⟩ g G
   |_=>c6
  | .builtin b=>match b with
   | .len=>match fB d k.args.toList,k.argTypes.toList with
    |[c],[e]=>match dU P e with
     |some _=>(match c with
      | .bg=>g ⟨.int .i64 0,[],0,[]⟩
      | .z0=>g ⟨.int .i64 0,[],0,[]⟩
      |c=>GF B h c g)
     |none=>c6
    |_,_=>c6
   | .min=>tr (Dm B min (fB d k.args.toList)) λv=>g ⟨v,[],0,[]⟩
   | .max=>tr (Dm B max (fB d k.args.toList)) λv=>g ⟨v,[],0,[]⟩
   | .append=>match fB d k.args.toList,k.argTypes.toList with
    |[L,c],[e,H]=>bif e4 e H then match dU P e with
     |some a=>match kB P a with
      |some (s+1)=>bif lB (B.sz a) (cH P a) (dV P a) then bif SG B h c then GI B h a (s+1) L c g else CK B h a c λt m=>match L with
       | .bg=>(bj (s+1) [] t).bind λw=>mk a w m
       | .z0=>(bj (s+1) [] t).bind λw=>mk a w m
       | .fl r v=>match aK h r v with
        |some (.aap y l)=>tr (sU B y a l) λl=>(bj (s+1) l t).bind λw=>g ⟨.fl r (v+1),[(r,⟨dJ h r,v+1,.aap a w⟩)],0,r::m⟩
        |_=>c6
       |_=>c6
       else c6
      |_=>c6
     |none=>c6 else c6
    |_,_=>c6
   | .clear=>match fB d k.args.toList,k.argTypes.toList with
    |[c],[e]=>B4 B h c λr v o A a l=>bif KK (dU P e) a then bif lB (B.sz a) (cH P a) (dV P a) then match dV P a with
     |some z=>bif jj (dN (cv (D:=B.D) z)) then tr (B.up a (cv z)) λz=>g ⟨.bu [],[(r,⟨dJ h r,v,.aap a (iG z o A l)⟩)],0,[r]⟩ else c6
     |none=>c6 else c6 else c6
    |_,_=>c6
   | .copy=>match fB d k.args.toList,k.argTypes.toList with
    |[c,x],[e,H]=>bif e4 e H then B4 B h c λr v o A a l=>bif KK (dU P e) a then bif lB (B.sz a) (cH P a) (dV P a) then CK B h a x λt m=>g ⟨.int .i64 ((min A t.length:Nat):Int),[(r,⟨dJ h r,v,.aap a (mg t o A l)⟩)],0,r::m⟩ else c6 else c6 else c6
    |_,_=>c6
   |_=>c6
  |_=>c6
 |_=>c6
end
structure Hn where
 fz:List Nat
 outs:List (Nat×lD)
 lp:Option lD
abbrev h0:Hn:=⟨[],[],c6⟩
def hint:List (Nat×Hn)->Nat->Hn
 |[],_=>h0
 |p::a,n=>bif e4 p.1 n then p.2 else hint a n
structure Lg where
 rt:List Nat
 wt:List Nat
 rd:List Nat
 wr:List Nat
def tmpsOf:List Operand->List Nat
 |[]=>[]
 | .tmp b::a=>b::tmpsOf a
 |_::a=>tmpsOf a
def yI:Option Nat->List Nat
 |some a=>[a]
 |none=>[]
section
variable (L:Lp)(B:Tb)(P:Program)(G:List (aq B))(n:Nat)
def gr{a:Nat->Type}(b:En a):Option Nat->TV a->En a
 |some c,v=>(c,v)::b
 |none,_=>b
def zL(i:Nat):List Oper->Bool
 |[]=>false
 |b::r=>bif (match b.guard with |some (a,_)=>e4 i a |none=>false) then true else zL i r
def eV{b:Type}:List (Nat×b)->List Nat
 |[]=>[]
 |p::a=>p.1::eV a
def xt{a:Nat->Type}:Ob a:=⟨0,0,.dead⟩
def dx{a:Nat->Type}:Nat->List (Ob a)
 |0=>[]
 |n+1=>xt::dx n
def behind{a:Nat->Type}(b:List (Ob a))(r:cr a):List (Ob a):=b8 (aX b (dx r.nw)) r.wr
def sZ(d:List Oper)(c:Oper):List Nat:=match c.guard with
 |some (a,_)=>match nth d a with
  |some b=>yI b.dst
  |none=>[]
 |none=>[]
def gU{c:Nat->Type}(a:List (Ob c)):List Nat->List (Nat×Ob c)
 |[]=>[]
 |r::d=>match nth a r with
  |some b=>(r,⟨b.st+1,b.aF+1,.dead⟩)::gU a d
  |none=>gU a d
def G0{a:Nat->Type}(b:List (Ob a)):TV a->TV a
 | .bu d=>.bu (jS b [] d)
 |c=>kJ b [] c
def Jd{b:Nat->Type}(n:Nat)(a:List (Nat×Ob b)):List Nat->Bool
 |[]=>true
 |r::c=>bif hK n r then bif has (eV a) r then Jd n a c else false else false
def Fs{c:Nat->Type}(b:List (Ob c))(a:cr c):Option (cr c):=
 bif Jd (len b) a.wr (refs a.val) then bif zc (kY (behind b a) (refs a.val)) then c4 ⟨G0 (behind b a) a.val,aX a.wr (gU (behind b a) (refs a.val)),a.nw,a.rd⟩ else c6 else c6
def zM{c:Type}(e g:Bool)(h:En B.D)(b:List (Ob B.D))(f:Op)(a:cr B.D->Option c):Option c:=
 step B P G e h b f λd=>bif g then tr (Fs b d) a else a d
def rV{b:Nat->Type}(c:List Oper)(a:Oper)(r:cr b):Lg:=⟨aX (sZ c a) (tmpsOf a.op.operands.toList),yI a.dst,r.rd,eV r.wr⟩
def xo(b:List Oper)(a:Oper):Lg:=⟨sZ b a,yI a.dst,[],[]⟩
def Dp(n:Nat):List Nat->Bool
 |[]=>true
 |b::a=>bif m1 b n then Dp n a else false
def ops{k:Type}(f:List Nat)(d:List Oper)(g:List Lg->St B.D->Option k):Nat->List Oper->List Lg->St B.D->Option k
 |_,[],e,a=>g e a
 |i,c::r,e,a=>
  let go:=zM B P G (has f i) (has f (i+1000)) a.E a.H c.op λh=>bif Dp (len a.H) h.rd then
   let j:=behind a.H h
   let e:=rV d c h::e
   bif zL i d then match h.val with
    | .bool l=>cond l (ops f d g (i+1) r e ⟨gr a.E c.dst (.bool true),j⟩) (ops f d g (i+1) r e ⟨gr a.E c.dst (.bool false),j⟩)
    |_=>c6
   else ops f d g (i+1) r e ⟨gr a.E c.dst h.val,j⟩
   else c6
  match c.guard with
  |none=>go
  |some (m,q)=>match nth d m with
   |some p=>match p.dst with
    |some o=>match lk a.E o with
     | .bool b=>cond (Bool.xor b q) (ops f d g (i+1) r (xo d c::e) ⟨gr a.E c.dst (.bu []),a.H⟩) go
     | .bu []=>ops f d g (i+1) r (xo d c::e) ⟨gr a.E c.dst (.bu []),a.H⟩
     |_=>c6
    |none=>c6
   |none=>c6
def meets:List Nat->List Nat->Bool
 |[],_=>false
 |c::b,a=>bif has a c then true else meets b a
def iw:List Edge->List Nat
 |[]=>[]
 |b::a=>bif Region.binds .any b then b.on::iw a else iw a
def oF(p:Nat->Bool):List Nat->Bool
 |[]=>false
 |b::a=>bif p b then true else oF p a
def before(b:List Oper):Nat->Nat->Nat->Bool
 |0,_,_=>false
 |f+1,i,d=>match nth b d with
  |some a=>bif has (iw a.after.toList) i then true else oF (λc=>before b f i c) (iw a.after.toList)
  |none=>false
def mm(a b:Lg):Bool:=bif meets a.wr b.rd then true else bif meets a.wr b.wr then true else bif meets b.wr a.rd then true else bif meets a.wt b.rt then true else bif meets a.wt b.wt then true else meets b.wt a.rt
def vK(a:List Oper)(c:Lg)(d:Nat):Nat->List Lg->Bool
 |_,[]=>true
 |i,b::e=>bif (bif mm c b then before a (len a) i d else true) then vK a c d (i+1) e else false
def n4(d:List Oper):List Lg->Nat->List Lg->Bool
 |_,_,[]=>true
 |c,b,a::e=>bif vK d a b 0 c then n4 d (aX c [a]) (b+1) e else false
def m7:Nat->List Oper->Bool
 |_,[]=>true
 |i,c::b=>bif oF (λa=>hK i a) (iw c.after.toList) then false else m7 (i+1) b
def tI:List Oper->List Nat->List Nat
 |[],ws=>ws
 |b::r,ws=>match b.dst with
  |some a=>a::tI r ws
  |none=>tI r ws
def cQ:Code->List Nat->List Nat
 | .region _ c _,ws=>tI c.toList ws
 | .seq a b,ws=>cQ a (cQ b ws)
 | .cond _ a b,ws=>cQ a (cQ b ws)
 | .block _ a,ws=>cQ a ws
 | .loop a,ws=>cQ a ws
 |_,ws=>ws
def Ej(a:Nat):List Oper->Bool
 |[]=>true
 |b::r=>bif fL a b.dst then Ej a r else false
def gB(c:Nat):Code->Bool
 | .region _ d _=>Ej c d.toList
 | .seq a b=>bif gB c a then gB c b else false
 | .cond _ a b=>bif gB c a then gB c b else false
 | .block _ a=>gB c a
 | .loop a=>gB c a
 |_=>true
def qM:List (Nat×lD)->Type
 |[]=>Empty
 |[p]=>bi B.D p.2.bX
 |p::q::r=>bi B.D p.2.bX⊕qM (q::r)
variable (S0:St B.D)(ws:List Nat)
def inj{d:Type}:(e:List (Nat×lD))->Nat->St B.D->(qM B e->Option d)->Option d
 |[],_,_,_=>c6
 |[p],a,c,b=>bif e4 p.1 a then nW B n S0 ws p.2 c b else c6
 |p::q::r,a,c,b=>bif e4 p.1 a then nW B n S0 ws p.2 c (λf=>b (.inl f)) else inj (q::r) a c (λg=>b (.inr g))
def out{d:Type}:(e:List (Nat×lD))->qM B e->(Nat->St B.D->Option d)->Option d
 |[],_,_=>c6
 |[p],c,a=>a p.1 (ik B S0 ws p.2 c)
 |p::q::r,c,a=>Sum.elim (λf=>a p.1 (ik B S0 ws p.2 f)) (λb=>out (q::r) b a) c
def join{d:Type}(b:Code)(f:Hn)(c:Nat->St B.D->Option d)(e:{R':Type}->(Nat->St B.D->Option R')->Option R'):Option d:=
 match f.outs with
 |[]=>e c
 |p::a=>(e (R':=qM B (p::a)) λg i=>inj B n S0 (cQ b []) (p::a) g i c4).bind λh=>out B S0 (cQ b []) (p::a) h c
def D8{a:Type}(g:(Nat->St B.D->Option a)->St B.D->Option a)(c:St B.D->Option a)(e:Nat->St B.D->Option a):Nat->St B.D->Option a
 |0,b=>c b
 |h+1,b=>g (λd f=>bif e4 d 0 then D8 g c e h f else e d f) b
def zP:List Nat->Nat
 |[]=>0
 |a::_=>a
def exec(d:List (Nat×Hn)):Code->Nat->{R:Type}->(Nat->St B.D->Option R)->St B.D->Option R
 | .skip,_,_,c,a=>c 0 a
 | .ret,_,_,c,a=>c 1 a
 | .exit g,_,_,c,a=>c (g+2) a
 | .label _,_,_,c,a=>c 0 a
 | .region g h m,p,_,c,a=>join B n a (.region g h m) (hint d p) c λc=>ops B P G (hint d p).fz h.toList (λs a=>bif m then(bif m7 0 h.toList then bif n4 h.toList [] 0 (nf s []) then c 0 a else c6 else c6) else c 0 a) 0 h.toList [] a
 | .seq e b,p,_,c,a=>join B n a (.seq e b) (hint d p) c λc=>exec d e (2*p) (λf a=>bif e4 f 0 then exec d b (2*p+1) c a else c f a) a
 | .cond i e b,p,_,c,a=>join B n a (.cond i e b) (hint d p) c λc=>match pe a.E i with
  | .bool i=>cond i (exec d e (2*p) c a) (exec d b (2*p+1) c a)
  |_=>c6
 | .block g e,p,_,c,a=>join B n a (.block g e) (hint d p) c λc=>exec d e (2*p) (λf a=>bif e4 f (g+2) then c 0 a else c f a) a
 | .loop e,p,_,c,a=>D8 B (λr j=>exec d e (2*p) r j) (λa=>match (hint d p).lp with
  |some q=>nW B n a (cQ e []) q a λo=>(L.loop (λk=>exec d e (2*p) (R:=bi B.D q.bX⊕qM B (hint d p).outs) (λf j=>bif e4 f 0 then nW B n a (cQ e []) q j (λk=>c4 (.inl k)) else inj B n a (cQ e []) (hint d p).outs f j λl=>c4 (.inr l)) (ik B a (cQ e []) q k)) o).bind λl=>out B a (cQ e []) (hint d p).outs l c
  |none=>c6) c (zP (hint d p).fz) a
 |_,_,_,_,_=>c6
def nh{f:Type}(c:St B.D):Nat->List ResultVar->En B.D->(En B.D->Option f)->Option f
 |_,[],a,b=>b a
 |i,.tmp d::e,a,b=>nh c (i+1) e ((i,lk c.E d)::a) b
 |i,.cell g d::e,a,b=>load B P c.H d (lk c.E g) λr=>nh c (i+1) e ((i,r.val)::a) b
def gl(a:aq B)(g:List ResultVar)(code:Code)(d:List (Nat×Hn))(e:bi B.D a.par.bX):Option (bi B.D a.az.bX):=
 exec L B P G a.low d code 1 (λc b=>bif hK c 1 then nh B P b 0 g [] λf=>take B a.low a.az ⟨f,b.H⟩ c4 else c6) (cz B a.par e)
end
end Go.X
namespace Go.Bml
open Go
def VR.dH{g:Gh}{H:List aO}{w:World}{c:PV}{x:Value}(h:VR g H w c x)(k:cE 0 c):VI g.F w c x:=by
 induction h with
 |aW h=>exact h
 |ptr r v i I o a y t K=>cases k with |ptr _ _ _ _ h=>omega
 |sl r v off len o x y t F j=>cases k with |sl _ _ _ _ h=>omega
 |fl r v o x y t F j=>cases k with |fl _ _ h=>omega
 |agg m n l t u=>cases k with |agg _ s=>exact .agg m n l λi c x e j=>u i c x e j (s c (dT e))
 |bu m n l t u=>cases k with |bu _ s=>exact .bu m n l λi c x e j=>u i c x e j (s c (dT e))
 |fn f m A n G l t B J u D=>
  cases k with |fn _ _ _ s C=>exact .fn f m A n G l (λi c x e j=>u i c x e j (s c (dT e))) B (λi c x e j=>D i c x e j (C c (dT e)))
def ako{j:Nat}{a:PV}(e:cE j a){f:Nat}{c:PV}(b:a.cells[f]?=c4 c):cE j c:=by
 by_cases i:∃h,a= .agg h
 .obtain⟨h,rfl⟩:=i;cases e with |agg _ l=>exact l c (dT b)
 .have k:a.cells=[a]:=by cases a <;> first |rfl |exact absurd ⟨_,rfl⟩ i
  rw[k] at b
  match f,b with
  |0,b=>simp at b;subst b;exact e
def nR{f:Nat}{es:List PV}(h:∀a,a∈es->cE f a){i j:Nat}{c:PV}(b:abk es i j=c4 c):cE f c:=by
 obtain⟨a,e,_⟩:=gw b;unfold abk at b;rw[e] at b;exact ako (h a (dT e)) b
def Ed{g:Gh}{H:List aO}{w:World}{r c len:Nat}{o:aO}{s:Value}{F:Nat->Prop}(t:qT g H w r o)(h:SL g o r c len s)(J:∀l,l∈o.es->cE 0 l)
 (K:∀b,g.F b->F b) (B:∀b n,g.β r=c4 (b,n)->F b):VI F w (.vs o.sz ((o.es.drop c).take len)) s:=by
 unfold SL at h;obtain⟨R,h⟩:=h;have q:((o.es.drop c).take len).length=len:=by simp;omega
 cases k:g.β r with
 |none=>
  rw[k] at h;obtain⟨rfl,rfl,p,rfl⟩:=h;simp only[o7];exact .eX o.sz p 0
 |some G=>
  obtain⟨b,n⟩:=G;rw[k] at h;obtain⟨cap,p,rfl,U,y,_⟩:=h
  by_cases h0:len=0
  .subst h0;simp only[o7];exact .eX o.sz p cap
  .obtain rfl:=y h0;have v:=t.mem;rw[k] at v;obtain⟨_,cells,N,Q,S,T,L⟩:=v;have O:∀i a e,abk ((o.es.drop c).take len) i a=c4 e->abk o.es (c+i) a=c4 e:=λi a e f=>by
    unfold abk at f⊢
    by_cases M:i<len
    .rw[e0 M,ea] at f;exact f
    .rw[hI (by rw[q];omega)] at f;simp at f
   have m:∀i a e,abk ((o.es.drop c).take len) i a=c4 e->cells[(c+i)*o.sz+a]?=c4 (cells.getD (c*o.sz+(i*o.sz+a)) undef)/\(cells.getD (c*o.sz+(i*o.sz+a)) undef).oneCell'=true/\VI F w e (cells.getD (c*o.sz+(i*o.sz+a)) undef):=λi a e f=>by
    have u:=O i a e f;obtain⟨C,x,I,D⟩:=L _ _ _ u;have A:(c+i)*o.sz+a=c*o.sz+(i*o.sz+a):=by rw[eo];omega
    have z:cells.getD (c*o.sz+(i*o.sz+a)) undef=C:=by rw[<-A];simp[j2,x]
    rw[z];exact⟨x,I,(D.dH (nR J u)).mono K λ_ _=>rfl⟩
   have:=VI.vs (F:=F) (w:=w) o.sz ((o.es.drop c).take len) b (c*o.sz) cap (λi a=>cells.getD (c*o.sz+(i*o.sz+a)) undef) (by omega) (B b n k)
    (λi l j=>by
     rw[h6] at j
     split at j
     .rw[ea] at j;exact t.width _ l j
     .cases j)
    (λi a e f=>by
     rw[cell_of_row w b _ cells o.ty (0,0) N];have:=(m i a e f).1;rw[<-this]
     congr 1
     rw[eo];omega)
    (λi a e f=>(m i a e f).2.1) (λi a e f=>(m i a e f).2.2)
   rw[q] at this;exact this
section
variable {g:Gh}{H:List aO}{w:World}
def Gh.plus(g:Gh)(k:Nat):Gh:=⟨λb=>g.F b\/b=k,g.β⟩
def bF.afW(h:bF g H w)(ty:Nat)(cells:Array Value):
 GStep H.length g H w (g.plus w.heap.size) H (w.alloc (.cells cells ty))/\bF (g.plus w.heap.size) H (w.alloc (.cells cells ty)):=by
 have l:GStep H.length g H w (g.plus w.heap.size) H (w.alloc (.cells cells ty)):=
  ⟨rfl,rfl,rfl,by simp,λ_ a=>.inl a,λb a=>gv w _ b (h.fb b a),λb a _=>gv w _ b a,λb a=>a.elim .inl (λe=>.inr (.inl (by omega))),λr b C a=>.inr ⟨r,C,a⟩,λr o M k=>⟨o,k,ef _,λ_=>⟨rfl,rfl,rfl⟩⟩⟩
 refine⟨l,⟨λb a=>?_,h.inj,h.m8,λr o k=>?_⟩⟩
 .rcases a with a |a
  .exact l4 (h.fb b a) l.size
  .subst a;simp
 .obtain⟨a1,A,j⟩:=h.obj r o k;refine⟨a1,A,?_⟩
  show match g.β r with
   |none=>o.es=[]
   |some (b,C)=>¬(g.F b\/b=w.heap.size)/\_
  cases a:g.β r with
  |none=>rw[a] at j;exact j
  |some p=>
   obtain⟨b,L⟩:=p;rw[a] at j;obtain⟨K,B,m,y,F,J,I⟩:=j;refine⟨λD=>D.elim K (λe=>by have:=nN m;omega),B,(gv w _ b (nN m)).trans m,y,F,J,λi n c G=>?_⟩
   obtain⟨t,x,u,s⟩:=I i n c G;exact⟨t,x,u,s.nZ l⟩
end
section
variable {P:Program}{nt:Nat}{E:Env}{H:List aO}{o:Oper}
def J5{elem b m:Nat}{e:List PV}(T:nY P E H o elem b e (λq Y=>.sl q Y 0 m))(Z:e.length=m)(R:∀s,s∈e->cE 0 s):
 fJ P o E H λD H1=>D= .vs b e/\H1=H:=by
 subst Z;intro g nt U w j af ae ac;obtain⟨cells,S,p,c,aa,v,ah,K,ai,ag,ad,O,W⟩:=T g nt U w j;unfold n0;rw[aa];have G:bF g H c/\GStep H.length g H w g H c/\c.heap.size=w.heap.size:=by
  rcases v with rfl |rfl
  .exact⟨j.m,GStep.refl _ _ _ _,rfl⟩
  .obtain⟨y,M⟩:=Ez (m:=H.length) j.m;exact⟨M,y,rfl⟩
 obtain⟨B,l,n⟩:=G;obtain⟨r,N⟩:=B.afW elem cells;have V:=W ⟨λ_=>False,λq=>if q=0 then c4 (w.heap.size,S) else c6⟩ [⟨elem,b,e,0⟩] (c.alloc (.cells cells elem)) 0 0 rfl rfl;have t:=lh (o:=⟨elem,b,e,0⟩) V rfl rfl;unfold SL at t;obtain⟨_,cap,ab,X,C,x,_⟩:=t;have A:(c.alloc (.cells cells elem)).heap[w.heap.size]?=c4 (.cells cells elem (0,0)):=by rw[<-n];exact heap_alloc_new c _
 have L:VI (g.plus c.heap.size).F (c.alloc (.cells cells elem)) (.vs b e) p:=by
  rw[X]
  by_cases h0:e.length=0
  .rw[e5 h0];exact .eX b ab cap
  .obtain rfl:=x h0;have k:∀i a f,abk e i a=c4 f->cells[i*b+a]?=c4 (cells.getD (i*b+a) undef)/\(cells.getD (i*b+a) undef).oneCell'=true/\VI (g.plus c.heap.size).F (c.alloc (.cells cells elem)) f (cells.getD (i*b+a) undef):=λi a f h=>by
    obtain⟨I,u,Q,J⟩:=O i a f h;have z:cells.getD (i*b+a) undef=I:=by simp[j2,u]
    rw[z];exact⟨u,Q,((J.nZ l).nZ r).dH (nR R h)⟩
   have:=VI.vs (F:=(g.plus c.heap.size).F) (w:=c.alloc (.cells cells elem)) b e w.heap.size 0 cap (λi a=>cells.getD (i*b+a) undef) C (.inr n.symm) K
    (λi a f h=>by
     rw[cell_of_row _ _ _ cells elem (0,0) A,gx];exact(k i a f h).1)
    (λi a f h=>(k i a f h).2.1) (λi a f h=>(k i a f h).2.2)
   simpa using this
 exact ac p _ (g.plus c.heap.size) _ H ⟨rfl,rfl⟩ (.aW L) N (l.trans r)
def ab0{d:Option Nat}{ty:TypeId}{pos:String}{aft:Array Edge}{l:TypeId}{c k:Operand}{i b m:Nat}{p:PV}{e:List PV}{n:Value}(f:PE E c= .bg\/PE E c= .z0)(t:PE E k=p)(u:lE H p b e)(v:0<b)
 (q:dU P l=c4 i) (r:cH P i=c4 b) (D:kB P i=c4 m) (F:dV P i=c4 n) (I:n.cells.size=b) (z:e.length*m<=140737488355328) (y:e.length<=9223372036854775807) (G:∀s,s∈e->cE 0 s):
 fJ P ⟨d,.call {callee:=.builtin .append,args:=#[c,k],argTypes:=#[l,l]},ty,pos,aft,c6⟩ E H λB H1=>B= .vs b e/\H1=H:=by
 by_cases x:e=[]
 .subst x;have A:∀g nt (h:Act) w,Rel g nt E H h w->∃j,h.eval c= .slice j 0 0:=λg nt h w a=>by
   rcases f with f |f
   .exact⟨c6,(f▸a.e.eval c).pF⟩
   .exact(f▸a.e.eval c).rh
  intro g nt h w a M L K;obtain⟨j,J⟩:=A g nt h w a;obtain⟨_,O,N,C,_⟩:=u.real a.m (t▸a.e.eval k) v;unfold n0;rw[Ei,J,C,l0,xr (gD q) r (ef _)];exact K (.slice j 0 0) w g _ H ⟨rfl,rfl⟩ (.aW (.eX b j 0)) a.m (GStep.refl _ _ _ _)
 .exact J5 (PO f t u v q r D F I z y x) rfl G
end
section
variable {P:Program}{E:Env}{H:List aO}{d:Option Nat}{ty:TypeId}{pos:String}{aft:Array Edge}{gd:Option (Nat×Bool)}
def apw{f:FuncId}{bs cs:List Operand}:cM P ⟨d,.makeFunc (.func f) bs.toArray cs.toArray,ty,pos,aft,gd⟩ E H (.fn f (bs.map (PE E)) (cs.map (PE E))):=by
 intro g nt h w m;refine⟨.func (.func f) (bs.map h.eval).toArray (cs.map h.eval).toArray,by simp[execOp,Instr.makeFunc],?_⟩
 have k:∀(c:List Operand) (i:Nat) (e:PV) (j:Value),(c.map (PE E))[i]?=c4 e->(c.map h.eval)[i]?=c4 j->VR g H w e j:=λc i e j a b=>by
  rw[e6] at a b;cases l:c[i]? with
  |none=>rw[l] at a;cases a
  |some o=>
   rw[l] at a b;injection a with a;injection b with b
   subst a;subst b;exact m.e.eval o
 exact .fn f _ _ _ _ (by simp) (k bs) (by simp) (k cs)
end
inductive Cc:PV->PV->Prop
 |refl (c:PV):Cc c c
 |nil (sz:Nat):Cc .bg (.vs sz [])
 |z0 (sz:Nat):Cc .z0 (.vs sz [])
 |agg (cs ds:List PV) (hl:cs.length=ds.length) (h:∀(i:Nat) (c d:PV),cs[i]?=c4 c->ds[i]?=c4 d->Cc c d):Cc (.agg cs) (.agg ds)
def Cc.vi{F:Nat->Prop}{w:World}{c d:PV}(h:Cc c d):∀{x:Value},VI F w c x->VI F w d x:=by
 induction h with
 |refl c=>exact id
 |nil sz=>intro x h;cases h;exact .eX sz c6 0
 |z0 sz=>intro x h;cases h;exact .eX sz _ 0
 |agg k e t s n=>
  intro x h;cases h with
  |agg _ l u m=>
   refine .agg e l (by omega) λi c x a j=>?_
   have hi:i<k.length:=by
    have:=(c7.1 a).1;omega
   exact n i _ c (c5 hi) a (m i _ x (c5 hi) j)
def Cc.vr{g:Gh}{H:List aO}{w:World}{c d:PV}(h:Cc c d):∀{x:Value},VR g H w c x->VR g H w d x:=by
 induction h with
 |refl c=>exact id
 |nil sz=>intro x h;rw[h.pF];exact .aW (.eX sz c6 0)
 |z0 sz=>
  intro x h;obtain⟨a,rfl⟩:=h.rh;exact .aW (.eX sz _ 0)
 |agg l j u t s=>
  intro x h;obtain⟨m,rfl,y,n⟩:=h.ky;refine .agg j m (by omega) λi c x e k=>?_
  have hi:i<l.length:=by
   have:=(c7.1 e).1;omega
  exact s i _ c (c5 hi) e (n i _ x (c5 hi) k)
def Cc.cells{c d:PV}(h:Cc c d):c.cells.length=d.cells.length/\∀(i:Nat) (a b:PV),c.cells[i]?=c4 a->d.cells[i]?=c4 b->Cc a b:=by
 cases h with
 |refl=>exact⟨rfl,λi a b j e=>by rw[j] at e;injection e with e;subst e;exact .refl _⟩
 |nil sz=>exact⟨rfl,λi a b j e=>by
  match i,j,e with
  |0,j,e=>simp[PV.cells] at j e;subst j;subst e;exact .nil sz⟩
 |z0 sz=>exact⟨rfl,λi a b j e=>by
  match i,j,e with
  |0,j,e=>simp[PV.cells] at j e;subst j;subst e;exact .z0 sz⟩
 |agg n m l k=>exact⟨l,k⟩
structure jB (o o':aO):Prop where
 ty:o'.ty=o.ty
 sz:o'.sz=o.sz
 aF:o'.aF=o.aF
 len:o'.es.length=o.es.length
 wid:∀(i:Nat) (e:PV),o'.es[i]?=c4 e->e.cells.length=o'.sz
 cells:∀(i j:Nat) (c':PV),abk o'.es i j=c4 c'->∃c,abk o.es i j=c4 c/\Cc c c'
def jB.of{ty sz aF:Nat}{es j:List PV}(s:es.length=j.length)(h:∀(i:Nat) (c d:PV),es[i]?=c4 c->j[i]?=c4 d->Cc c d)(n:∀(i:Nat) (e:PV),j[i]?=c4 e->e.cells.length=sz):jB ⟨ty,sz,es,aF⟩ ⟨ty,sz,j,aF⟩:=by
 refine⟨rfl,rfl,rfl,s.symm,n,λi k m a=>?_⟩
 unfold abk at a⊢;cases he:j[i]? with
 |none=>rw[he] at a;cases a
 |some e=>
  rw[he] at a;have hi:i<es.length:=by
   have:=(c7.1 he).1;omega
  obtain⟨u,t⟩:=(h i _ e (c5 hi) he).cells;simp only[hU] at a;have l:k<es[i].cells.length:=by
   have:=(c7.1 a).1;omega
  exact⟨es[i].cells[k],by rw[c5 hi];exact c5 l,t k _ m (c5 l) a⟩
section
variable {g:Gh}{H:List aO}{w:World}{r:Nat}{o o':aO}
def SL.cv(h:jB o o'){q off len:Nat}{x:Value}(a:SL g o q off len x):SL g o' q off len x:=by
 unfold SL at*;rw[h.len,h.sz];exact a
def VR.qN(I:H[r]?=c4 o)(h:jB o o'){c:PV}{x:Value}(j:VR g H w c x):VR g (H.set r o') w c x:=by
 have L:r<H.length:=(c7.1 I).1;have C:∀q p,H[q]?=c4 p->∃d,(H.set r o')[q]?=c4 d/\d.aF=p.aF/\d.sz=p.sz/\d.es.length=p.es.length/\∀{s off len x},SL g p s off len x->SL g d s off len x:=λq p n=>by
  by_cases e:r=q
  .subst e;rw[I] at n;injection n with n
   subst n;exact⟨o',ee L,h.aF,h.sz,h.len,λQ=>Q.cv h⟩
  .exact⟨p,by rw[ey e];exact n,rfl,rfl,rfl,id⟩
 induction j with
 |aW h=>exact .aW h
 |ptr q v i K p a t j O=>
  obtain⟨d,u,G,F,A,B⟩:=C q p t;exact .ptr q v i K d a u (by omega) λe=>by rw[F,A];exact O (by omega)
 |sl q v off len p x t j D E=>
  obtain⟨d,u,G,F,A,B⟩:=C q p t;exact .sl q v off len d x u (by omega) D λe=>B (E (by omega))
 |fl q v p x t j D E=>
  obtain⟨d,u,G,F,A,B⟩:=C q p t;exact .fl q v d x u (by omega) D λe=>by rw[A];exact B (E (by omega))
 |agg l m k j y=>exact .agg l m k y
 |bu l m k j y=>exact .bu l m k y
 |fn f l J m P k j M R y N=>exact .fn f l J m P k y M N
def bF.qN(k:bF g H w)(m:H[r]?=c4 o)(h:jB o o'):bF g (H.set r o') w:=by
 have J:r<H.length:=(c7.1 m).1;refine⟨k.fb,k.inj,λq b C d=>by rw[o3];exact k.m8 q b C d,λq p j=>?_⟩
 by_cases e:r=q
 .subst e;rw[ee J] at j;injection j with j
  subst j;obtain⟨a1,I,a⟩:=k.obj r o m;refine⟨by rw[h.sz];exact a1,h.wid,?_⟩
  cases d:g.β r with
  |none=>
   rw[d] at a;have:o'.es.length=0:=by rw[h.len,a];rfl
   exact e5 this
  |some u=>
   obtain⟨b,C⟩:=u;rw[d] at a;obtain⟨G,cells,E,A,B,F,D⟩:=a;refine⟨G,cells,by rw[h.ty];exact E,by rw[h.sz];exact A,B,by rw[h.len];exact F,λi l c x=>?_⟩
   obtain⟨L,K,M⟩:=h.cells i l c x;obtain⟨s,y,t,n⟩:=D i l L K;exact⟨s,by rw[h.sz];exact y,t,(M.vr n).qN m h⟩
 .rw[ey e] at j;obtain⟨a1,I,a⟩:=k.obj q p j;refine⟨a1,I,?_⟩
  cases d:g.β q with
  |none=>rw[d] at a;exact a
  |some u=>
   obtain⟨b,C⟩:=u;rw[d] at a;obtain⟨G,cells,E,A,B,F,D⟩:=a;exact⟨G,cells,E,A,B,F,λi l c x=>let ⟨s,y,t,n⟩:=D i l c x;⟨s,y,t,n.qN m h⟩⟩
def GStep.qN{n:Nat}{d:Gh}{H0:List aO}{j:World}(a:GStep n d H0 j g H w)(l:H[r]?=c4 o)(h:jB o o'):GStep n d H0 j g (H.set r o') w:=by
 have t:r<H.length:=(c7.1 l).1;refine⟨a.os,a.tape,a.output,a.size,a.F,a.jh,a.rest,a.oY,a.oZ,λq p x s=>?_⟩
 obtain⟨u,c,k,m⟩:=a.dF q p x s
 by_cases e:r=q
 .subst e;rw[l] at c;injection c with c
  subst c;exact⟨o',ee t,by rw[h.aF];exact k,λe=>by rw[h.sz,h.len];exact m (by rw[<-h.aF];exact e)⟩
 .exact⟨u,by rw[ey e];exact c,k,m⟩
end
def tu{i:Program}{f:Oper}{h:Env}{H:List aO}{j e:PV}{r:Nat}{o o':aO}(s:fJ i f h H λv d=>v=j/\d=H.set r o)(k:r<H.length)(a:jB o o')(B:Cc j e):fJ i f h H λv d=>v=e/\d=H.set r o':=by
 intro g q t w z u p C;refine s g q t w z u p ?_
 rintro l n m v D ⟨rfl,rfl⟩ x A y;have b:(H.set r o)[r]?=c4 o:=ee k;have c:(H.set r o).set r o'=H.set r o':=by rw[List.set_set]
 refine C l n m e (H.set r o') ⟨rfl,rfl⟩ (B.vr ?_) ?_ ?_
 .have:=x.qN b a;rwa [c] at this
 .have:=A.qN b a;rwa [c] at this
 .have:=y.qN b a;rwa [c] at this
def ZN{l:Nat->Prop}{w:World}{d:Nat}{k e:List PV}{n:Value}(c:VI l w (.vs d k) n)(f:jB ⟨0,d,k,0⟩ ⟨0,d,e,0⟩):VI l w (.vs d e) n:=by
 have m:e.length=k.length:=f.len;cases c with
 |eX _ s cap=>
  have:e=[]:=e5 (by rw[m];rfl);subst this;exact .eX d s cap
 |vs _ _ b y cap p z v A x q t=>
  rw[<-m];refine .vs d e b y cap p (by omega) v f.wid (λi a j c=>?_) (λi a j c=>?_) (λi a j c=>?_)
  .obtain⟨h,h0,_⟩:=f.cells i a j c;exact x i a h h0
  .obtain⟨h,h0,_⟩:=f.cells i a j c;exact q i a h h0
  .obtain⟨h,h0,u⟩:=f.cells i a j c;exact u.vi (t i a h h0)
def Pf{i:Program}{d:Oper}{h:Env}{H:List aO}{a:Nat}{f e:List PV}(q:fJ i d h H λv c=>v= .vs a f/\c=H)(l:jB ⟨0,a,f,0⟩ ⟨0,a,e,0⟩):fJ i d h H λv c=>v= .vs a e/\c=H:=by
 intro g p s w x t n z;refine q g p s w x t n ?_
 rintro j m k v A ⟨rfl,rfl⟩ b y u;refine z j m k _ _ ⟨rfl,rfl⟩ ?_ y u
 cases b with
 |aW b=>exact .aW (ZN b l)
def qX{f:Program}{c:Oper}{e:Env}{H H1:List aO}{q v d:Nat}{o:aO}(m:fJ f c e H λa b=>a= .sl q v 0 d/\b=H1)(i:ek H1 q o)(s:d=o.es.length):fJ f c e H λa b=>a= .fl q v/\b=H1:=by
 intro g l n w x p k z;refine m g l n w x p k ?_
 rintro a j h A B ⟨rfl,rfl⟩ t y u;exact z a j h _ _ ⟨rfl,rfl⟩ (t.aa1 i s) y u
def P6{e c:Nat}(v:PV):jB ⟨e,v.cells.length,[v],c⟩ ⟨e,v.cells.length,[.agg v.cells],c⟩:=by
 refine⟨rfl,rfl,rfl,rfl,λi h a=>?_,λi f d b=>?_⟩
 .match i,a with
  |0,a=>simp at a;subst a;rfl
 .match i,b with
  |0,b=>exact⟨d,b,.refl d⟩
end Go.Bml
namespace Go.X
open Go Go.Aml Go.Bml
section
variable {α:Type}
def cJ:∀(a:List α) (i:Nat),nth a i=a[i]?
 |[],_=>by simp[nth]
 |_::_,0=>rfl
 |_::a,i+1=>by simpa[nth] using cJ a i
def bK:∀(b a:List α),aX b a=b++a
 |[],_=>rfl
 |c::b,a=>by simp[aX,bK b a]
def eu:∀(a:List α),len a=a.length
 |[]=>rfl
 |_::a=>by simp[len,eu a]
def iL:∀(a:List α) (i:Nat) (b:α),me a i b=a.set i b
 |[],_,_=>rfl
 |_::_,0,_=>rfl
 |c::a,i+1,b=>by simp[me,iL a i b]
def kK:∀(b:Nat) (a:List α),tk b a=a.take b
 |0,_=>by simp[tk]
 |_+1,[]=>rfl
 |b+1,c::a=>by simp[tk,kK b a]
def drop_eq:∀(b:Nat) (a:List α),drop b a=a.drop b
 |0,_=>rfl
 |_+1,[]=>rfl
 |b+1,c::a=>by simpa[drop] using drop_eq b a
def oO:∀(b:List Nat) (a:Nat),has b a=true↔a∈b
 |[],a=>by simp[has]
 |d::b,a=>by
  simp only[has,mb];cases c:e4 d a with
  |true=>simp[(h5 c).symm]
  |false=>
   have:a≠d:=λe=>by rw[e,k7] at c;cases c
   simp[this,oO b a]
def nA{a:List Nat}{b:Nat}(c:has a b=false):b∉a:=λd=>by rw[(oO a b).2 d] at c;cases c
def tw:∀(a:List Nat),rj a=true↔a.Nodup
 |[]=>by simp[rj]
 |c::a=>by
  simp only[rj,List.nodup_cons];cases b:has a c with
  |true=>simp[(oO a c).1 b]
  |false=>simp[nA b,tw a]
def beq_eq{a b:Nat}(c:e4 a b=true):a=b:=h5 c
def fq{f c:Type}{b:Option f}{e:f->Option c}{r:c}(d:tr b e=c4 r):∃a,b=c4 a/\e a=c4 r:=by
 cases b with
 |none=>cases d
 |some a=>exact⟨a,rfl,d⟩
def a8{a:Bool}{c:Option α}{r:α}(b:(bif a then c else c6)=c4 r):a=true/\c=c4 r:=by
 cases a with
 |true=>exact⟨rfl,b⟩
 |false=>cases b
def qy:∀(a:List (Nat×α)) (H:List α),(b8 H a).length=H.length
 |[],_=>rfl
 |p::a,H=>by rw[b8,qy a,iL,o3]
def qV{b:Nat->Type}:∀a,(dx a:List (Ob b)).length=a
 |0=>rfl
 |a+1=>by simp[dx,qV a]
def qh{a b:IntKind}(c:fV a b=true):a=b:=of_decide_eq_true c
end
section
variable (B:Tb)
mutual
def pv:TV B.D->PV
 | .any=>.any
 | .z0=>.z0
 | .fS=>.fS
 | .bg=>.bg
 | .dB=>.dB
 | .int k c=>.int k c
 | .bool b=>.bool b
 | .str h=>.str h
 | .row c j=>.vs (B.sz c) (j.map (B.ty c).enc)
 | .rv c e=>.vs (B.sz c) (aP e)
 | .ptr r v i d=>.ptr r v i d
 | .fl r v=>.fl r v
 | .sl r v l len=>.sl r v l len
 | .vp a d=>.dw (aP a) d
 | .agg a=>.agg (aP a)
 | .bu a=>.bu (aP a)
 | .fn f a g=>.fn f (aP a) (aP g)
 | .jC c6=>.dB
 | .jC (c4 f)=>.fn f [] []
def aP:List (TV B.D)->List PV
 |[]=>[]
 |b::a=>pv b::aP a
end
def db:∀a,aP B a=a.map (pv B)
 |[]=>rfl
 |b::a=>by simp[aP,db a]
def aU:En B.D->Env
 |[]=>[]
 |p::r=>(p.1,pv B p.2)::aU r
def aY(b:Ob B.D):aO:=
 match b.bd with
 | .aap a c=>⟨a,B.sz a,c.map (B.ty a).enc,b.aF⟩
 | .box f d=>⟨f,d.length,[.agg (aP B d)],b.aF⟩
 | .dead=>⟨0,1,[],b.aF⟩
 | .hole a c e=>⟨a,B.sz a,c.map (B.ty a).enc++aP B e,b.aF⟩
def av(H:List (Ob B.D)):List aO:=H.map (aY B)
def ep:∀(b:En B.D) (a:Nat),Bml.look (aU B b) a=pv B (lk b a)
 |[],a=>by simp[aU,Bml.look,lk,pv]
 |p::r,a=>by
  simp only[aU,Bml.look,lk];cases e4 p.1 a with
  |true=>rfl
  |false=>exact ep r a
def OD(v:Value):pv B (Cs v)=jq v:=by
 unfold Cs jq
 split <;> simp[pv]
def r8:∀a:List Value,aP B (rq a)=a.map jq
 |[]=>rfl
 |v::a=>by simp[rq,aP,OD,r8 a]
def DK(v:Value):pv B (cv v)=kP v:=by
 cases v <;> first
  |(simp only[cv,kP];exact OD B _)
  |simp[cv,kP,pv,r8]
def Bw(c:En B.D)(a:Operand):PE (aU B c) a=pv B (pe c a):=by
 cases a with
 |tmp d=>exact ep B c d
 |const v=>exact(DK B v).symm
 |global b=>simp[PE,pe,pv]
 |func f=>simp[PE,pe,pv,aP]
def sx(b:En B.D)(a:Option Nat)(v:TV B.D):aU B (gr b a v)=li (aU B b) a (pv B v):=by
 cases a <;> rfl
def nB(a:TV B.D):(pv B a).cells=(dN a).map (pv B):=by
 cases a <;> first
  |rfl
  |(rename_i b;cases b <;> rfl;done)
  |simp[pv,PV.cells,dN,db]
end
structure cU (P:Program) (B:Tb):Prop where
 row:∀(n m:Nat) (xs:List (B.D m)) (x:B.D n),B.up n (.row m xs)=c4 x->B.tv n x= .row m xs
 el:∀(n:Nat) (x:B.D n) (m:Nat) (xs:List (B.D m)),B.tv n x= .row m xs->m=B.el n
 tv:∀(n:Nat) (x:B.D n),pv B (B.tv n x)=(B.ty n).enc x
 lt:∀(n:Nat) (x:B.D n),cE 0 ((B.ty n).enc x)
 up:∀(n:Nat) (t:TV B.D) (x:B.D n),B.up n t=c4 x->cE 0 (pv B t)/\Cc (pv B t) ((B.ty n).enc x)
 wid:∀(n:Nat) (x:B.D n),((B.ty n).enc x).cells.length=B.sz n
 one:∀(n:Nat) (x:B.D n),((B.ty n).enc x).cells.all PV.one=true
 pos:∀(n:Nat),0<B.sz n
 xw:∀(n:Nat) (x:B.D n) (vs:List PV),(B.ty n).enc x≠ .bu vs
 ic:∀(n:Nat),B.D n->cH P n=c4 (B.sz n)
 flat:∀(n:Nat) (x:B.D n),B.flat n=true->∀(j:Nat) (c:PV),((B.ty n).enc x).cells[j]?=c4 c->∀(F F':Nat->Prop) (w w':World) (v:Value),VI F w c v->VI F' w' c v
def cU.aqv{A:Program}{B:Tb}(w:cU A B)(n:Nat)(x:B.D n)(s:B.flat n=true)(F a:Nat->Prop)(j k:World)(v:Value)(h:VI F j ((B.ty n).enc x) v):VI a k ((B.ty n).enc x) v:=by
 have key:=w.flat n x s;generalize (B.ty n).enc x=e at key h
 by_cases l:∃d,e= .agg d
 .obtain⟨d,rfl⟩:=l;cases h with
  |agg _ C u y=>exact .agg d C u λi c x m t=>key i c m F a j k x (y i c x m t)
 .have o:e.cells=[e]:=by cases e <;> first |rfl |exact absurd ⟨_,rfl⟩ l
  exact key 0 e (by rw[o];rfl) F a j k v h
section
variable {B:Tb}{H:List (Ob B.D)}
def fx{r v:Nat}{b:Bd B.D}(a:aK H r v=c4 b):∃c,nth H r=c4 ⟨c,v,b⟩:=by
 unfold aK at a
 split at a
 .rename_i g f;obtain⟨c,e,h⟩:=g;cases d:e4 e v with
  |true=>
   simp only[d,cond_true,m4] at a;subst a;exact⟨c,by rw[f,beq_eq d]⟩
  |false=>simp[d] at a
 .cases a
def df{r:Nat}{b:Ob B.D}(a:nth H r=c4 b):ek (av B H) r (aY B b):=by
 unfold ek av;rw[cJ] at a;rw[e6,a]
 rfl
def qL:(av B H).length=H.length:=by simp[av]
def Zc{r:Nat}{a:Ob B.D}:av B (me H r a)=(av B H).set r (aY B a):=by
 unfold av;rw[iL,r0]
end
def ajP{c:Program}{e:Oper}{b:Env}{H:List aO}{v:PV}(h:cM c e b H v):fJ c e b H λn o=>n=v/\o=H:=by
 intro g f j d a p q i;obtain⟨k,l,m⟩:=h g f j d a;unfold n0;rw[l];exact i k d g v H ⟨rfl,rfl⟩ m a.m (GStep.refl _ _ _ _)
def lI{c:Program}{e:Oper}{b:Env}{H:List aO}{d a:PV->List aO->Prop}(p:fJ c e b H d)(s:∀v H,d v H->a v H):fJ c e b H a:=
 λg n q h f r l t=>p g n q h f r l λi k j v m o=>t i k j v m (s _ _ o)
section
variable {P:Program}{B:Tb}{R:Type}{r:R}
structure Ag (op:Op) (l:List Nat) (E E':En B.D) (X H':List (Ob B.D)):Prop where
 e:∀x,x∈op.operands->pe E' x=pe E x
 h:∀i,i∈l->nth H' i=nth X i
 le:X.length<=H'.length
def gY(P:Program)(c:Op)(j:En B.D)(g:List (Ob B.D))(a:cr B.D):Prop:=
 ∀e i k f d b,Ag c (aX a.rd (eV a.wr)) j d (aX g (dx a.nw)) b->
  fJ P ⟨e,c,i,k,f,c6⟩ (aU B d) (av B b) λv h=>v=pv B a.val/\h=av B (b8 b a.wr)
def fW(P:Program)(b:Op)(l:En B.D)(h:List (Ob B.D))(j:List Nat)(v:TV B.D):Prop:=
 ∀f k m g e c,(∀a,a∈b.operands->PE (aU B e) a=pv B (pe l a))->(∀i d,i∈j->nth h i=c4 d->nth c i=c4 d)->cM P ⟨f,b,k,m,g,c6⟩ (aU B e) (av B c) (pv B v)
def Dy{c:List (Ob B.D)}{n i:Nat}{b:Ob B.D}(a:nth c i=c4 b):nth (aX c (dx n)) i=c4 b:=by
 rw[cJ] at a⊢;rw[bK,dv (c7.1 a).1];exact a
def fW.sound{c:Op}{E:En B.D}{H:List (Ob B.D)}{rd:List Nat}{v:TV B.D}(h:fW P c E H rd v):gY P c E H ⟨v,[],0,rd⟩:=by
 intro d ty pos e m j a;refine ajP (h d ty pos e m j (λx k=>?_) λi n hi l=>?_)
 .rw[Bw,a.e x k]
 .rw[a.h i (by simp[bK,hi])];exact Dy l
def anB{a:Operand}{b:En B.D}{d:List (Ob B.D)}:fW P (.move a) b d [] (pe b a):=
 λ_ _ _ _ _ _ c _=>aik (c a (by simp[dd]))
def aqt{a:Operand}{b:En B.D}{d:List (Ob B.D)}:fW P (.assign a) b d [] (pe b a):=
 λ_ _ _ _ _ _ c _=>ak6 (c a (by simp[dd]))
def Ra{g:Gh}{w:List aO}{p:World}{v:TypeId}{d:List (TV B.D)}{c:List Value}{b:Nat}{u:TV B.D}(o:d.length=c.length)(t:∀(i:Nat) (k:PV) (j:Value),(aP B d)[i]?=c4 k->c[i]?=c4 j->VR g w p k j)(a:piece P v d b=c4 u):
 ∃q,(∀h,(part v c.toArray b).run P h= .ok q h)/\VR g w p (pv B u) q:=by
 unfold piece at a
 split at a
 .rename_i m
  split at a
  .rename_i n x;obtain⟨z,f⟩:=a8 a;rw[kK,drop_eq] at f;injection f with f
   subst f;refine⟨.agg ((c.drop b).take n).toArray,λh=>?_,?_⟩
   .simp[part,o5 m,Go.Bml.run_sizeOf x,m0,k6]
   .have:pv B (.agg ((d.drop b).take n))= .agg (aP B ((d.drop b).take n)):=rfl;rw[this];refine .agg _ _ (by rw[db];simp[o]) λi k j e l=>?_
    rw[db,e6,h6] at e;rw[h6] at l
    split at e
    .rename_i y;rw[if_pos y] at l;rw[ea] at e l;exact t _ k j (by rw[db,e6];exact e) l
    .simp at e
  .cases a
 .rename_i m;rw[cJ] at a;have s:b<c.length:=by rw[<-o];exact(c7.1 a).1
  refine⟨c[b],λh=>by simp[part,o5 m,s],t b _ _ ?_ (c5 s)⟩
  rw[db,e6,a]
  rfl
 .cases a
def Q1{g:Gh}{j:List aO}{c:World}{C:TypeId->TV B.D->TV B.D->Option Bool}{x:Nat}{m l:List (TV B.D)}{n o:List Value}(s:m.length=n.length)(z:∀(i:Nat) (e:PV) (d:Value),(aP B m)[i]?=c4 e->n[i]?=c4 d->VR g j c e d)
 (t:l.length=o.length) (u:∀(i:Nat) (e:PV) (d:Value),(aP B l)[i]?=c4 e->o[i]?=c4 d->VR g j c e d)
 (D:∀(A:Nat) (y d:TV B.D) (b:Bool),C A y d=c4 b->∀(w v:Value),VR g j c (pv B y) w->VR g j c (pv B d) v->(j9 x A w v).run P c= .ok b c):
 ∀(h:List Field) (b:Bool),A6 P C m l h=c4 b->(q2 x n.toArray o.toArray h).run P c= .ok b c
 |[],b,a=>by
  injection a with a
  subst a;simp[q2]
 |f::h,b,a=>by
  unfold A6 at a;obtain⟨k,a⟩:=a8 a
  split at a
  .rename_i Q S J F
   split at a
   .rename_i p q L K;injection a with a
    subst a;obtain⟨O,N,H⟩:=Ra s z J;obtain⟨T,G,I⟩:=Ra t u F;have E:=D _ _ _ _ L _ _ H I;have M:=Q1 s z t u D h q K;have k:f.name≠ "_":=by simpa using k
    simp only[q2,if_pos k,gb,N,G,ez,E];cases p with
    |true=>simpa using M
    |false=>simp
   .cases a
  .cases a
def Hq{g:Gh}{q:List aO}{w:World}:∀(d c:Nat) (f h:TV B.D) (b:Bool),yq P d c f h=c4 b->∀(i v:Value),VR g q w (pv B f) i->VR g q w (pv B h) v->(j9 d c i v).run P w= .ok b w
 |0,_,_,_,_,a=>by cases a
 |d+1,c,f,h,b,a=>by
  intro i v m j;unfold yq at a
  split at a
  .rename_i e
   split at a
   .rename_i A x;injection a with a
    subst a;rw[VR.n5 m,VR.n5 j];exact run_equalIn_bool' w d c _ _ e
   .cases a
  .rename_i E e
   split at a
   .rename_i H A F x;obtain⟨z,k⟩:=a8 a;obtain rfl:=qh z;injection k with k
    subst k;rw[VR.fQ m,VR.fQ j];exact run_equalIn_int w d c _ _ _ _ e
   .cases a
  .rename_i p e;cases l:P.stoodInHeld c with
   |true=>rw[l] at a;cases a
   |false=>
    rw[l] at a;simp only[cond_false] at a
    split at a
    .rename_i D C;obtain⟨G,rfl,n,y⟩:=VR.ky m;obtain⟨I,rfl,o,u⟩:=VR.ky j;have s:P.fieldsOf c=p:=by unfold Program.fieldsOf;rw[e]
     rw[run_equalIn_struct w d c _ _ (by rw[s];exact e) l,s];rw[db,dk] at n o;exact Q1 n y o u (λc f h b t=>Hq d c f h b t) p.toList b a
    .cases a
  .cases a
def Et{w:World}{a:TypeId}{i k:Array TypeId}{h:Bool}(g:P.underlying a=c4 (.func i k h)):
 ((binOp .eql a .nilFunc .nilFunc).run P w= .ok (.bool true) w/\∀f b v,(binOp .eql a (.func f b v) .nilFunc).run P w= .ok (.bool false) w)/\
 ((binOp .neq a .nilFunc .nilFunc).run P w= .ok (.bool false) w/\∀f b v,(binOp .neq a (.func f b v) .nilFunc).run P w= .ok (.bool true) w):=by
 have j:∀c,(j9 (c+1) a .nilFunc .nilFunc).run P w= .ok true w:=λc=>by simp[j9,run_underlying g]
 have l:∀c f b v,(j9 (c+1) a (.func f b v) .nilFunc).run P w= .ok false w:=λc f b v=>by simp[j9,run_underlying g]
 have d:(mx a .nilFunc .nilFunc).run P w= .ok true w:=j 9999;have e:∀f b v,(mx a (.func f b v) .nilFunc).run P w= .ok false w:=l 9999;refine⟨⟨?_,λf b v=>?_⟩,?_,λf b v=>?_⟩
 .show(do pure (.bool (<-mx a .nilFunc .nilFunc)):Sem Value).run P w=_
  simp[d]
 .show(do pure (.bool (<-mx a (.func f b v) .nilFunc)):Sem Value).run P w=_
  simp[e]
 .show(do pure (.bool !(<-mx a .nilFunc .nilFunc)):Sem Value).run P w=_
  simp[d]
 .show(do pure (.bool !(<-mx a (.func f b v) .nilFunc)):Sem Value).run P w=_
  simp[e]
def afA{n:BinOp}{m yt:TypeId}{e j:Operand}{s:En B.D}{H:List (Ob B.D)}{ag:TV B.D->Option R}(k:bin B P n m (pe s e) (pe s j) ag=c4 r):
 ∃v,ag v=c4 r/\fW P (.binOp n m e j yt) s H [] v:=by
 unfold bin at k
 split at k
 .rename_i l am b aj C D;have h:∀{c:En B.D},(∀z,z∈(la n m e j yt).operands->PE (aU B c) z=pv B (pe s z))->PE (aU B c) e= .int l am:=λa=>by rw[a e (by simp[dd]),C];rfl
  have i:∀{c:En B.D},(∀z,z∈(la n m e j yt).operands->PE (aU B c) z=pv B (pe s z))->PE (aU B c) j= .int b aj:=λa=>by rw[a j (by simp[dd]),D];rfl
  cases n <;> simp only at k
  case shl=>
   obtain⟨q,A,d⟩:=ec.1 k;obtain⟨h0,y⟩:=alN A;exact⟨_,d,λ_ _ _ _ _ _ a _=>apg (h a) (i a) h0 y⟩
  case shr=>
   obtain⟨q,A,d⟩:=ec.1 k;obtain⟨h0,y⟩:=adR A;exact⟨_,d,λ_ _ _ _ _ _ a _=>abz (h a) (i a) h0 y⟩
  all_goals
   obtain⟨ak,d⟩:=a8 k;obtain rfl:=qh ak
  case add=>exact⟨_,d,λ_ _ _ _ _ _ a _=>Vz (h a) (i a) rfl⟩
  case sub=>exact⟨_,d,λ_ _ _ _ _ _ a _=>Zh (h a) (i a) rfl⟩
  case mul=>exact⟨_,d,λ_ _ _ _ _ _ a _=>acd (h a) (i a) rfl⟩
  case quo=>
   obtain⟨q,A,d⟩:=ec.1 d;obtain⟨h0,y⟩:=agK A;exact⟨_,d,λ_ _ _ _ _ _ a _=>ae6 (h a) (i a) h0 y⟩
  case rem=>
   obtain⟨q,A,d⟩:=ec.1 d;obtain⟨h0,y⟩:=Yg A;exact⟨_,d,λ_ _ _ _ _ _ a _=>ahN (h a) (i a) h0 y⟩
  case and=>exact⟨_,d,λ_ _ _ _ _ _ a _=>akz (h a) (i a) rfl⟩
  case or=>exact⟨_,d,λ_ _ _ _ _ _ a _=>YI (h a) (i a) rfl⟩
  case xor=>exact⟨_,d,λ_ _ _ _ _ _ a _=>abR (h a) (i a) rfl⟩
  case andNot=>exact⟨_,d,λ_ _ _ _ _ _ a _=>aeA (h a) (i a) rfl⟩
  case eql=>exact⟨_,d,λ_ _ _ _ _ _ a _=>aea (h a) (i a)⟩
  case neq=>exact⟨_,d,λ_ _ _ _ _ _ a _=>ajI (h a) (i a)⟩
  case lss=>exact⟨_,d,λ_ _ _ _ _ _ a _=>ahs (h a) (i a)⟩
  case leq=>exact⟨_,d,λ_ _ _ _ _ _ a _=>aj5 (h a) (i a)⟩
  case gtr=>exact⟨_,d,λ_ _ _ _ _ _ a _=>amQ (h a) (i a)⟩
  case geq=>exact⟨_,d,λ_ _ _ _ _ _ a _=>abe (h a) (i a)⟩
 .rename_i l b C D;have h:∀{c:En B.D},(∀z,z∈(la n m e j yt).operands->PE (aU B c) z=pv B (pe s z))->PE (aU B c) e= .bool l:=λa=>by rw[a e (by simp[dd]),C];rfl
  have i:∀{c:En B.D},(∀z,z∈(la n m e j yt).operands->PE (aU B c) z=pv B (pe s z))->PE (aU B c) j= .bool b:=λa=>by rw[a j (by simp[dd]),D];rfl
  cases n <;> simp only at k <;> first |cases k |skip
  case eql=>
   obtain⟨W,d⟩:=a8 k;exact⟨_,d,λ_ _ _ _ _ _ a _=>abj (h a) (i a) W⟩
  case neq=>
   obtain⟨W,d⟩:=a8 k;exact⟨_,d,λ_ _ _ _ _ _ a _=>ai2 (h a) (i a) W⟩
 .rename_i ai ah C D;have h:∀{c:En B.D},(∀z,z∈(la n m e j yt).operands->PE (aU B c) z=pv B (pe s z))->PE (aU B c) e=pv B (.agg ai):=λa=>by rw[a e (by simp[dd]),C]
  have i:∀{c:En B.D},(∀z,z∈(la n m e j yt).operands->PE (aU B c) z=pv B (pe s z))->PE (aU B c) j=pv B (.agg ah):=λa=>by rw[a j (by simp[dd]),D]
  cases n <;> simp only at k <;> first |cases k |skip
  case eql=>
   cases u:P.eqGuardType P.depth m with
   |true=>rw[u] at k;cases k
   |false=>
    rw[u] at k;obtain⟨b,Q,d⟩:=fq k;refine⟨_,d,λV X ad ae c aa a _=>?_⟩
    intro g I l w o;have p:=h a▸o.e.eval e;have x:=i a▸o.e.eval j;obtain⟨Z,K,_⟩:=VR.ky p;obtain⟨ac,L,_⟩:=VR.ky x;have J:=Hq (w:=w) 10000 m _ _ b Q _ _ p x;refine⟨.bool b,?_,.aW (.bool b)⟩
    rw[K,L] at J;simp only[execOp,K,L];simp[run_eqGuard_agg w .eql m e j Z.toArray ac.toArray u,run_eql_struct,J]
  case neq=>
   cases u:P.eqGuardType P.depth m with
   |true=>rw[u] at k;cases k
   |false=>
    rw[u] at k;obtain⟨b,Q,d⟩:=fq k;refine⟨_,d,λV X ad ae c aa a _=>?_⟩
    intro g I l w o;have p:=h a▸o.e.eval e;have x:=i a▸o.e.eval j;obtain⟨Z,K,_⟩:=VR.ky p;obtain⟨ac,L,_⟩:=VR.ky x;have J:=Hq (w:=w) 10000 m _ _ b Q _ _ p x;refine⟨.bool (!b),?_,.aW (.bool _)⟩
    rw[K,L] at J;simp only[execOp,K,L];simp[run_eqGuard_agg w .neq m e j Z.toArray ac.toArray u,run_neq_struct,J]
 .rename_i E C D;obtain⟨N,p⟩:=a8 k;have G:∃l b al,P.underlying m=c4 (.func l b al):=by
   unfold LM at N
   split at N
   .exact⟨_,_,_,by assumption⟩
   .cases N
  obtain⟨ap,an,ao,G⟩:=G;have h:∀{c:En B.D},(∀z,z∈(la n m e j yt).operands->PE (aU B c) z=pv B (pe s z))->PE (aU B c) e=pv B (.jC E):=λa=>by rw[a e (by simp[dd]),C]
  have i:∀{c:En B.D},(∀z,z∈(la n m e j yt).operands->PE (aU B c) z=pv B (pe s z))->PE (aU B c) j= .dB:=λa=>by rw[a j (by simp[dd]),D];rfl
  have run:∀{c:En B.D} {af:List aO} {g:Gh} {w:World} {l:Act} {I:Nat},Rel g I (aU B c) af l w->PE (aU B c) e=pv B (.jC E)->PE (aU B c) j= .dB->l.eval j= .nilFunc/\((E=c6/\l.eval e= .nilFunc)\/∃f,E=c4 f/\l.eval e= .func (.func f) #[] #[]):=λ{c af g w l I} o p x=>by
   have M:=x▸o.e.eval j;refine⟨by generalize l.eval j=U at M;cases M with |aW M=>cases M;rfl,?_⟩
   have F:=p▸o.e.eval e;cases E with
   |none=>exact .inl ⟨rfl,by generalize l.eval e=U at F;cases F with |aW F=>cases F;rfl⟩
   |some f=>
    refine .inr ⟨f,rfl,?_⟩
    generalize l.eval e=U at F;have Y:VR g af w (.fn f [] []) U:=F;cases Y with
    |aW Y=>
     cases Y with
     |fn _ _ _ S vs O _ T _=>
      obtain rfl:S=[]:=e5 O.symm;obtain rfl:vs=[]:=e5 T.symm
      rfl
    |fn _ _ _ S vs O _ T _=>
     obtain rfl:S=[]:=e5 O.symm;obtain rfl:vs=[]:=e5 T.symm
     rfl
  cases n <;> simp only at p <;> first |cases p |skip
  case eql=>
   refine⟨_,p,λV X ad ae c aa a _=>?_⟩
   intro g I l w o;obtain⟨ab,t⟩:=run o (h a) (i a);refine⟨.bool E.isNone,?_,.aW (.bool _)⟩
   rcases t with⟨rfl,t⟩ |⟨f,rfl,t⟩ <;> simp[execOp,ab,t,eqGuard,(Et (w:=w) G).1,(Et (w:=w) G).2]
  case neq=>
   refine⟨_,p,λV X ad ae c aa a _=>?_⟩
   intro g I l w o;obtain⟨ab,t⟩:=run o (h a) (i a);refine⟨.bool (!E.isNone),?_,.aW (.bool _)⟩
   rcases t with⟨rfl,t⟩ |⟨f,rfl,t⟩ <;> simp[execOp,ab,t,eqGuard,(Et (w:=w) G).1,(Et (w:=w) G).2]
 .cases k
def amY{f:UnOp}{t:TypeId}{c:Operand}{g:En B.D}{H:List (Ob B.D)}{h:TV B.D->Option R}(a:HY B f (pe g c) h=c4 r):
 ∃v,h v=c4 r/\fW P (.unOp f t c) g H [] v:=by
 unfold HY at a
 split at a
 .rename_i i j e;exact⟨_,a,λ_ _ _ _ _ _ d _=>ajc (by rw[d c (by simp[dd]),e];rfl) rfl⟩
 .rename_i b e;exact⟨_,a,λ_ _ _ _ _ _ d _=>rd_not (by rw[d c (by simp[dd]),e];rfl)⟩
 .cases a
def afz(a:Bool)(b c:TV B.D):pv B (cond a b c)=(bif a then pv B b else pv B c):=by cases a <;> rfl
def akp{z x y:Operand}{E:En B.D}{H:List (Ob B.D)}{a:Bool}(g:pe E z= .bool a):fW P (.pick z x y) E H [] (KP a (pe E x) (pe E y)):=by
 intro d ty pos aft i e c _;have:=Zu (P:=P) (E:=aU B i) (H:=av B e) (d:=d) (ty:=ty) (pos:=pos) (aft:=aft) (gd:=c6) (z:=z) (x:=x) (y:=y) (b:=a) (by rw[c z (by simp[dd]),g];rfl);rw[c x (by simp[dd]),c y (by simp[dd])] at this;unfold KP
 split
 .rename_i j b f h;rw[f,h] at this;cases a <;> exact this
 .rw[afz];exact this
def ahW{a:Operand}{i:Nat}{c:En B.D}{e:List (Ob B.D)}{b:List (TV B.D)}{v:TV B.D}(g:pe c a= .bu b)(d:nth b i=c4 v):fW P (.extract a i) c e [] v:=by
 intro h l m j n k f _;refine aiG (by rw[f a (by simp[dd]),g];rfl) ?_
 rw[cJ] at d;rw[db,e6,d]
 rfl
def wS{f:TypeId}{d:List (TV B.D)}{c:Nat}{v:TV B.D}(a:piece P f d c=c4 v):
 (dP P f=c4 false/\d[c]?=c4 v)\/∃b,dP P f=c4 true/\cH P f=c4 b/\v= .agg ((d.drop c).take b)/\((d.drop c).take b).length=b:=by
 unfold piece at a
 split at a
 .rename_i g
  split at a
  .rename_i b i;obtain⟨h,e⟩:=a8 a;rw[kK,drop_eq] at e;injection e with e
   have j:c+b<=d.length:=by rw[eu] at h;exact ei h
   exact .inr ⟨b,g,i,e.symm,by simp;omega⟩
  .cases a
 .rename_i g;rw[cJ] at a;exact .inl ⟨g,a⟩
 .cases a
def EL{a:List (TV B.D)}{b:Nat}{v:TV B.D}(c:a[b]?=c4 v):(aP B a)[b]?=c4 (pv B v):=by
 rw[db,e6,c];rfl
def Ht(a:List (TV B.D))(b c:Nat):((aP B a).drop b).take c=aP B ((a.drop b).take c):=by
 rw[db,db, <-j7, <-j8]
def aex{j:TypeId}{b:Operand}{f:Nat}{h d:Nat}{i:En B.D}{k:List (Ob B.D)}{a:List (TV B.D)}{v:TV B.D}(o:pe i b= .agg a)(e:nU P j f=c4 (h,d))(p:piece P h a d=c4 v):
 fW P (.field j b f) i k [] v:=by
 intro u w y z q x s _;have g:PE (aU B q) b= .agg (aP B a):=by rw[s b (by simp[dd]),o];rfl
 rcases wS p with⟨c,l⟩ |⟨m,c,n,rfl,t⟩
 .exact aam g e c (EL l)
 .exact T8 g e c n (Ht a d m)
def Gw{c:Operand}{g:En B.D}{k:List (Ob B.D)}{v:TV B.D}(j:(∃r h i a,v= .ptr r h i a)\/(∃b a,v= .vp b a)\/∃f b e,v= .fn f b e)(m:pe g c=v):fW P (.nilCheck c) g k [] v:=by
 intro o s t p n q l _;have d:PE (aU B n) c=pv B v:=by rw[l c (by simp[dd]),m]
 rcases j with⟨r,h,i,a,rfl⟩ |⟨b,a,rfl⟩ |⟨f,b,e,rfl⟩
 .exact adb d
 .exact ZL d
 .exact VJ d
def R3{m:TypeId}{c:Operand}{f l j p:Nat}{h:En B.D}{o:List (Ob B.D)}{v:TV B.D}(k:nU P m f=c4 (l,j))(n:cH P l=c4 (p+1))
 (q:(∃r d i a,pe h c= .ptr r d i a/\v= .ptr r d i (a+j))\/(∃e a,pe h c= .vp e a/\v= .vp e (a+j))):fW P (.fieldAddr m c f) h o [] v:=by
 intro t u x z y w s _;have b:=s c (by simp[dd]);rcases q with⟨r,d,i,a,g,rfl⟩ |⟨e,a,g,rfl⟩
 .rw[g] at b;exact apD b k n (by omega)
 .rw[g] at b;exact Ze b k n (by omega)
def alT{a:Nat}{e:List (B.D a)}{i c:Nat}{d:B.D a}{b:PV}(f:e[i]?=c4 d)(g:((B.ty a).enc d).cells[c]?=c4 b):abk (e.map (B.ty a).enc) i c=c4 b:=by
 unfold abk;rw[e6,f];exact g
def NI{i f:Nat}{h:TV B.D->Option R}:∀{e:List (TV B.D)} {b:Nat},Es B i f h b e=c4 r->∃c d,e[c]?=c4 d/\i=f+b+c/\h d=c4 r
 |[],_,a=>by cases a
 |d::e,b,a=>by
  unfold Es at a;cases g:e4 i (f+b) with
  |true=>rw[g] at a;exact⟨0,d,rfl,beq_eq g,a⟩
  |false=>
   rw[g] at a;obtain⟨c,l,k,m,j⟩:=NI a;exact⟨c+1,l,k,by omega,j⟩
def aav{c s v b:Nat}{xs:List (B.D c)}{a:List (TV B.D)}{d:TV B.D}(e:a[b]?=c4 d):(aY B ⟨s,v,.hole c xs a⟩).es[xs.length+b]?=c4 (pv B d):=by
 show(xs.map (B.ty c).enc++aP B a)[xs.length+b]?=_
 rw[dt (by rw[dk];omega),dk,k6,db,e6,e]
 rfl
def PD(S:cU P B){t:TypeId}{x:Operand}{E:En B.D}{M:List (Ob B.D)}{Q:cr B.D->Option R}(c:load B P M t (pe E x) Q=c4 r):
 ∃v O,Q ⟨v,[],0,O⟩=c4 r/\fW P (.load t x) E M O v:=by
 unfold load at c
 split at c
 .rename_i y o I;obtain⟨v,l,n⟩:=fq c;refine⟨v,_,n,λF G J K m H h _=>?_⟩
  have d:PE (aU B m) x= .dw (aP B y) o:=by rw[h x (by simp[dd]),I];rfl
  rcases wS l with⟨a,b⟩ |⟨p,a,k,rfl,j⟩
  .exact acR d a (EL b)
  .exact Z6 d a k (Ht y o p) (by rw[db,dk,j])
 .rename_i q v i o I;have d:∀{m:En B.D},(∀z,z∈(Op.load t x).operands->PE (aU B m) z=pv B (pe E z))->PE (aU B m) x= .ptr q v i o:=λh=>by rw[h x (by simp[dd]),I];rfl
  split at c
  .rename_i p xs b;obtain⟨s,A⟩:=fx b;obtain⟨e,h,c⟩:=ec.1 c;obtain⟨w,l,n⟩:=fq c;refine⟨w,_,n,λF G J K m H g C=>?_⟩
   have f:=df (C q _ (by simp) A);have u:(pv B (B.tv p e)).cells=(dN (B.tv p e)).map (pv B):=nB B _;rw[S.tv] at u;rcases wS l with⟨a,b⟩ |⟨L,a,k,rfl,j⟩
   .exact AT (d g) f rfl a (alT h (by rw[u,e6,b];rfl))
   .refine Ig (d g) f rfl a k (e:=(B.ty p).enc e) (by simp[aY,h]) ?_ (by rw[db,dk,j])
    rw[u, <-j7, <-j8,db]
  .rename_i W y b;obtain⟨s,A⟩:=fx b;obtain⟨D,c⟩:=a8 c;obtain rfl:=beq_eq D;obtain⟨w,l,n⟩:=fq c;refine⟨w,_,n,λF G J K m H g C=>?_⟩
   have f:=df (C q _ (by simp) A);rcases wS l with⟨a,b⟩ |⟨L,a,k,rfl,j⟩
   .exact AT (d g) f rfl a (by simp[aY,abk,PV.cells,EL b])
   .exact Ig (d g) f rfl a k (e:=.agg (aP B y)) (by simp[aY]) (by simp only[PV.cells];exact Ht y o L) (by rw[db,dk,j])
  .rename_i p xs U b;obtain⟨s,A⟩:=fx b;obtain⟨V,e,h,D,T⟩:=NI c;rw[l1] at D;subst D;obtain⟨w,l,n⟩:=fq T;refine⟨w,_,n,λF G J K m H g C=>?_⟩
   have f:=df (C q _ (by simp) A);have N:=aav (s:=s) (v:=v) (xs:=xs) h;have u:=nB B e;rcases wS l with⟨a,b⟩ |⟨L,a,k,rfl,j⟩
   .refine AT (d g) f rfl a ?_
    unfold abk;rw[N];show(pv B e).cells[o]?=_
    rw[u,e6,b]
    rfl
   .refine Ig (d g) f rfl a k (e:=pv B e) N ?_ (by rw[db,dk,j])
    rw[u, <-j7, <-j8,db]
  .cases c
 .cases c
end
def kV(c:List aO)(p:PV)(b:Nat)(d:List PV):Prop:=lE c p b d\/∃r a,p= .fl r a.aF/\ek c r a/\a.sz=b/\d=a.es
def wD{c:Env}{d:Nat}{q:PV}(a:Operand)(e:a≠ .tmp d):PE ((d,q)::c) a=PE c a:=by
 cases a with
 |tmp h=>exact Ar q c λg=>e (by rw[g])
 |const v=>rfl
 |global b=>rfl
 |func f=>rfl
def akA(v:Value)(r a:Nat):kP v≠ .fl r a:=by
 cases v <;> simp[kP] <;> (try unfold jq) <;> (try split) <;> simp
def ri{e:Env}{d:Operand}{r v:Nat}(c:PE e d= .fl r v):∃a,d= .tmp a/\Bml.look e a= .fl r v:=by
 cases d with
 |tmp a=>exact⟨a,rfl,c⟩
 |const v=>exact absurd c (akA _ _ _)
 |global b=>cases c
 |func f=>cases c
def DP{b:List aO}{r:Nat}{a:aO}(c:ek b r a):lE b (.sl r a.aF 0 a.es.length) a.sz a.es:=
 .inr (.inr (.inr ⟨r,a.aF,0,a.es.length,a,rfl,c,rfl,rfl,by simp⟩))
def uL{P:Program}{h:Oper}{a:Env}{d:List aO}{x:Operand}{sz:Nat}{ys:List PV}{j:PV->List aO->Prop}(f:kV d (PE a x) sz ys)
 (c:∀g,lE d (PE g x) sz ys->(∀e p,PE a e=p->(∀r v,p≠ .fl r v)->PE g e=p)->fJ P h g d j):fJ P h a d j:=by
 rcases f with f |⟨r,b,q,l,rfl,rfl⟩
 .exact c a f λ_ _ c _=>c
 .obtain⟨m,rfl,k⟩:=ri q;refine yP k l rfl (c _ ?_ λe p i n=>?_)
  .rw[show PE ((m,PV.sl r b.aF 0 b.es.length)::a) (.tmp m)= .sl r b.aF 0 b.es.length from ni _ _ _];exact DP l
  .rw[wD e λo=>n r b.aF (by rw[<-i,o];exact k)];exact i
def amo{P:Program}{h:Oper}{a:Env}{d:List aO}{x:Operand}{i:Nat}{k:List PV}{v:PV}(f:kV d (PE a x) i k)
 (c:∀g,lE d (PE g x) i k->(∀e p,PE a e=p->(∀r v,p≠ .fl r v)->PE g e=p)->cM P h g d v):cM P h a d v:=by
 rcases f with f |⟨r,b,s,m,rfl,rfl⟩
 .exact c a f λ_ _ c _=>c
 .obtain⟨n,rfl,l⟩:=ri s;refine RO l m rfl (c _ ?_ λe p j o=>?_)
  .rw[show PE ((n,PV.sl r b.aF 0 b.es.length)::a) (.tmp n)= .sl r b.aF 0 b.es.length from ni _ _ _];exact DP m
  .rw[wD e λq=>o r b.aF (by rw[<-j,q];exact l)];exact j
def JM{e:Env}{f:List aO}{x:Operand}{i c r:Nat}{j:List PV}{b:aO}(h:kV f (PE e x) i j)(m:Bml.look e c= .fl r b.aF)(g:ek f r b):kV f (PE ((c,.sl r b.aF 0 b.es.length)::e) x) i j:=by
 by_cases k:x= .tmp c
 .subst k;rw[show PE ((c,PV.sl r b.aF 0 b.es.length)::e) (.tmp c)= .sl r b.aF 0 b.es.length from ni _ _ _];have l:PE e (.tmp c)= .fl r b.aF:=m;rw[l] at h;rcases h with(a |⟨a,_⟩ |⟨a,_⟩ |⟨_,_,_,_,_,a,_⟩) |⟨o,n,a,d,rfl,rfl⟩
  .cases a
  .cases a
  .cases a
  .cases a
  .injection a with h1 h2
   subst h1;unfold ek at g d;rw[g] at d;injection d with d
   subst d;exact .inl (DP g)
 .rw[wD x k];exact h
section
variable {P:Program}{B:Tb}{R:Type}{r:R}
def yd(B:Tb)(e:List (Ob B.D))(g:TV B.D)(a:Nat)(d:List (B.D a))(f:List Nat):Prop:=
 ∀c:List (Ob B.D),(∀i b,i∈f->nth e i=c4 b->nth c i=c4 b)->kV (av B c) (pv B g) (B.sz a) (d.map (B.ty a).enc)
def Hd{g:List (Ob B.D)}{i:TV B.D}{j:(b:Nat)->List (B.D b)->List Nat->Option R}(a:rowOf B g i j=c4 r):
 ∃b f h,j b f h=c4 r/\yd B g i b f h:=by
 unfold rowOf at a
 split at a
 .exact⟨_,_,_,a,λ_ _=>.inl (.inl rfl)⟩
 .rename_i q v
  split at a
  .rename_i b l e;obtain⟨k,d⟩:=fx e;refine⟨_,_,_,a,λm c=>.inr ⟨q,_,?_,df (c q _ (by simp) d),rfl,rfl⟩⟩
   rfl
  .cases a
 .rename_i q v n len
  split at a
  .rename_i b l e;obtain⟨k,d⟩:=fx e;refine⟨_,_,_,a,λm c=>.inl (.inr (.inr (.inr ⟨q,v,n,len,_,rfl,df (c q _ (by simp) d),rfl,rfl,?_⟩)))⟩
   simp[aY,j8,j7]
  .cases a
 .cases a
def AG{c d:Nat}{f:List (B.D c)}{e:List (B.D d)}(a:sU B c d f=c4 e):∃b:c=d,b▸f=e:=by
 unfold sU at a
 split at a
 .rename_i b;injection a with a
  exact⟨b,a⟩
 .cases a
def Rz{e:List (Ob B.D)}{d:Nat}{f:TV B.D}{g:List (B.D d)->List Nat->Option R}(a:CK B e d f g=c4 r):
 ∃b c,g b c=c4 r/\yd B e f d b c:=by
 unfold CK at a
 split at a
 .exact⟨_,_,a,λ_ _=>.inl (.inr (.inl ⟨rfl,rfl⟩))⟩
 .exact⟨_,_,a,λ_ _=>.inl (.inr (.inr (.inl ⟨rfl,rfl⟩)))⟩
 .obtain⟨l,k,c,a,i⟩:=Hd a;obtain⟨b,h,j⟩:=fq a;obtain⟨rfl,rfl⟩:=AG h;exact⟨_,_,j,i⟩
def mh{e:TypeId}{c:Nat}(b:kX B P e c=true):dU P e=c4 c/\cH P c=c4 (B.sz c):=by
 unfold kX at b
 split at b
 .rename_i f h g i;cases d:e4 f c with
  |true=>
   rw[d] at b;rw[g,i,beq_eq d,beq_eq (a:=h) b];exact⟨rfl,rfl⟩
  |false=>rw[d] at b;cases b
 .cases b
def D9{a:TypeId}{b:Nat}(c:kX B P a b=true):dU P a=c4 b:=(mh c).1
def KT{f:Oper}{d:Env}{c:List aO}{h:Operand}{q:Nat}{a:aO}{v:PV}(m:PE d h= .fl q a.aF)(n:ek c q a)
 (k:∀e,PE e h= .sl q a.aF 0 a.es.length->(∀b p,PE d b=p->(∀r v,p≠ .fl r v)->PE e b=p)->cM P f e c v):cM P f d c v:=by
 obtain⟨o,rfl,g⟩:=ri m;refine RO g n rfl (k _ (ni _ _ _) λb p i j=>?_)
 rw[wD b λl=>j q a.aF (by rw[<-i,l];exact g)];exact i
def Qj{g:Int}{d:Nat}{j:Nat->Option R}:∀{e:List (TV B.D)} {a:Nat},AK B g d j a e=c4 r->∃c,c<e.length/\g=((d+a+c:Nat):Int)/\j (d+a+c)=c4 r
 |[],_,b=>by cases b
 |l::e,a,b=>by
  unfold AK at b;cases f:c3 (g=((d+a:Nat):Int)) with
  |true=>rw[f] at b;exact⟨0,by simp,of_decide_eq_true f,b⟩
  |false=>
   rw[f] at b;obtain⟨c,k,i,h⟩:=Qj b;rw[show d+(a+1)+c=d+a+(c+1) by omega] at i h;exact⟨c+1,by simpa using k,i,h⟩
def amg(w:cU P B){t:TypeId}{x ix:Operand}{E:En B.D}{H:List (Ob B.D)}{J:cr B.D->Option R}(a:indexAddr B P H t (pe E x) (pe E ix) J=c4 r):
 ∃v I,J ⟨v,[],0,I⟩=c4 r/\fW P (.indexAddr t x ix) E H I v:=by
 unfold indexAddr at a
 split at a
 .rename_i K S Q;have s:∀{k:En B.D},(∀z,z∈(Op.indexAddr t x ix).operands->PE (aU B k) z=pv B (pe E z))->PE (aU B k) ix= .int K S:=λc=>by rw[c ix (by simp[dd]),Q];rfl
  split at a
  .rename_i g y j;obtain⟨h,a⟩:=a8 a;obtain⟨e,c,f⟩:=ec.1 a;obtain⟨l,c⟩:=xd c;refine⟨_,_,f,λd ty pos aft k n b _=>?_⟩
   have:=Zx (P:=P) (E:=aU B k) (H:=av B n) (d:=d) (ty:=ty) (pos:=pos) (aft:=aft) (gd:=c6) (t:=t) (x:=x) (ix:=ix) (e:=(B.ty g).enc e) (by rw[b x (by simp[dd]),j];rfl) (s b) l (by rw[e6,c];rfl) (D9 h) (w.ic g e);rw[<-w.tv g e,nB, <-db] at this;exact this
  .rename_i q v j
   split at a
   .rename_i g y p;obtain⟨G,o⟩:=fx p;obtain⟨h,a⟩:=a8 a;obtain⟨e,c,f⟩:=ec.1 a;obtain⟨l,c⟩:=xd c;refine⟨_,_,f,λd ty pos aft k n b u=>?_⟩
    have m:=df (u q _ (by simp) o);refine KT (by rw[b x (by simp[dd]),j];rfl) m λA C D=>?_
    have:=Hm (P:=P) (E:=A) (H:=av B n) (d:=d) (ty:=ty) (pos:=pos) (aft:=aft) (gd:=c6) (t:=t) (x:=x) (ix:=ix) C (D ix _ (s b) (by simp)) l (by simpa[aY] using(c7.1 c).1) m rfl (D9 h) (w.ic g e);rw[gx] at this;exact this
   .rename_i g y V p;obtain⟨G,o⟩:=fx p;obtain⟨h,a⟩:=a8 a;obtain⟨F,X,l,f⟩:=Qj a;rw[l1] at l f;refine⟨_,_,f,λd ty pos aft k n b u=>?_⟩
    have m:=df (u q _ (by simp) o);refine KT (by rw[b x (by simp[dd]),j];rfl) m λA C D=>?_
    have:=Hm (P:=P) (E:=A) (H:=av B n) (d:=d) (ty:=ty) (pos:=pos) (aft:=aft) (gd:=c6) (t:=t) (x:=x) (ix:=ix) C (D ix _ (s b) (by simp)) (i:=y.length+F) (by simpa using l) (by simp[aY,db];omega) m rfl (D9 h) (mh h).2;rw[gx] at this;exact this
   .cases a
  .rename_i q v Y len j
   split at a
   .rename_i g y p;obtain⟨G,o⟩:=fx p;obtain⟨h,a⟩:=a8 a;obtain⟨e,c,f⟩:=ec.1 a;obtain⟨l,c⟩:=xd c;refine⟨_,_,f,λd ty pos aft k n b u=>?_⟩
    have m:=df (u q _ (by simp) o);have L:=(c7.1 c).1;simp only[ft] at L;exact Hm (by rw[b x (by simp[dd]),j];rfl) (s b) l (by omega) m rfl (D9 h) (w.ic g e)
   .cases a
  .rename_i q v i F j
   split at a
   .rename_i U
    split at a
    .rename_i g W M
     split at a
     .rename_i T O;obtain⟨N,f⟩:=a8 a;refine⟨_,_,f,λd ty pos aft k n b _=>?_⟩
      exact aqx (by rw[b x (by simp[dd]),j];rfl) (s b) rfl (ei N) M O
     .cases a
    .cases a
   .cases a
  .cases a
 .cases a
def Li{f:IntKind}:∀{d:List (TV B.D)} {e:List Int},ints f d=c4 e->aP B d=e.map (PV.int f)
 |[],e,a=>by simp[ints] at a;subst a;rfl
 | .int b i::d,e,a=>by
  simp only[ints] at a;obtain⟨h,c⟩:=a8 a;clear a;obtain rfl:=qh h;cases g:ints f d with
  |none=>rw[g] at c;cases c
  |some r=>
   rw[g] at c;injection c with c
   subst c;simp[aP,pv,Li g]
 | .any::_,_,a=>by simp[ints] at a
 | .z0::_,_,a=>by simp[ints] at a
 | .fS::_,_,a=>by simp[ints] at a
 | .bg::_,_,a=>by simp[ints] at a
 | .dB::_,_,a=>by simp[ints] at a
 | .bool _::_,_,a=>by simp[ints] at a
 | .str _::_,_,a=>by simp[ints] at a
 | .row .. ::_,_,a=>by simp[ints] at a
 | .ptr .. ::_,_,a=>by simp[ints] at a
 | .fl .. ::_,_,a=>by simp[ints] at a
 | .sl .. ::_,_,a=>by simp[ints] at a
 | .vp .. ::_,_,a=>by simp[ints] at a
 | .agg _::_,_,a=>by simp[ints] at a
 | .bu _::_,_,a=>by simp[ints] at a
 | .fn .. ::_,_,a=>by simp[ints] at a
 | .jC _::_,_,a=>by simp[ints] at a
def Qx:∀{c:List (TV B.D)} {d:List Bool},gS c=c4 d->aP B c=d.map PV.bool
 |[],d,a=>by simp[gS] at a;subst a;rfl
 | .bool b::c,d,a=>by
  simp only[gS] at a;cases e:gS c with
  |none=>rw[e] at a;cases a
  |some r=>
   rw[e] at a;injection a with a
   subst a;simp[aP,pv,Qx e]
 | .any::_,_,a=>by simp[gS] at a
 | .z0::_,_,a=>by simp[gS] at a
 | .fS::_,_,a=>by simp[gS] at a
 | .bg::_,_,a=>by simp[gS] at a
 | .dB::_,_,a=>by simp[gS] at a
 | .int .. ::_,_,a=>by simp[gS] at a
 | .str _::_,_,a=>by simp[gS] at a
 | .row .. ::_,_,a=>by simp[gS] at a
 | .ptr .. ::_,_,a=>by simp[gS] at a
 | .fl .. ::_,_,a=>by simp[gS] at a
 | .sl .. ::_,_,a=>by simp[gS] at a
 | .vp .. ::_,_,a=>by simp[gS] at a
 | .agg _::_,_,a=>by simp[gS] at a
 | .bu _::_,_,a=>by simp[gS] at a
 | .fn .. ::_,_,a=>by simp[gS] at a
 | .jC _::_,_,a=>by simp[gS] at a
def aeo{f:TypeId}{e:Nat}(b:Gx P f e=true):∃c,pk P f=c4 (e,c)/\cH P c=c4 1/\dP P c=c4 false:=by
 unfold Gx at b
 split at b
 .rename_i k c j
  split at b
  .rename_i g i h;cases d:e4 k e with
   |true=>
    rw[d] at b;obtain rfl:=beq_eq d;obtain rfl:=beq_eq (a:=g) b;exact⟨c,j,i,h⟩
   |false=>rw[d] at b;cases b
  .cases b
 .cases b
def ame{k:TypeId}{g e:Operand}{h:En B.D}{m:List (Ob B.D)}{q:cr B.D->Option R}(a:index B P k (pe h g) (pe h e) q=c4 r):
 ∃v o,q ⟨v,[],0,o⟩=c4 r/\fW P (.index k g e) h m o v:=by
 unfold index at a
 split at a
 .rename_i G E p D z;obtain⟨w,a⟩:=a8 a;obtain⟨K,y,x,A⟩:=aeo w;have n:∀{i:Type} (b:List i) (f:i->PV) (v:i) (j:TV B.D),aP B p=b.map f->pv B j=f v->aj b E=c4 v->fW P (.index k g e) h m [] j:=λb f v j s F d H I L N M J t _=>by
   obtain⟨C,u⟩:=xd d;have c:len p=b.length:=by
    have:=congrArg List.length s;rw[db,dk,dk] at this;rw[eu,this]
   rw[F];refine ac0 (by rw[t g (by simp[dd]),z];rfl) (by rw[t e (by simp[dd]),D];rfl) C ?_ y x A ?_
   .rw[c];exact(c7.1 u).1
   .rw[s,e6,u];rfl
  split at a
  .obtain⟨b,c,a⟩:=fq a;obtain⟨v,d,l⟩:=ec.1 a;exact⟨_,_,l,n b _ v _ (Li c) rfl d⟩
  .obtain⟨b,c,a⟩:=fq a;obtain⟨v,d,l⟩:=ec.1 a;exact⟨_,_,l,n b _ v _ (Qx c) rfl d⟩
  .cases a
 .cases a
def wk{g:En B.D}{i:Env}{dflt:Nat}{e:Option Operand}{d:Int}(a:rE B g (dflt:Int) e=c4 d)(h0:0<=d)(j:∀c,e=c4 c->∀h b,pe g c= .int h b->PE i c= .int h b):mU i dflt e d.toNat:=by
 unfold rE at a
 split at a
 .injection a with a
  show d.toNat=dflt
  omega
 .rename_i c
  split at a
  .rename_i f b k;injection a with a
   subst a;exact⟨f,b,j c rfl f b k,by omega⟩
  .cases a
def NN{e:En B.D}{h:Env}{c:Option Operand}(a:Bx B e c=true)(i:∀b,c=c4 b->∀f g,pe e b= .int f g->PE h b= .int f g):mU h 0 c 0:=by
 unfold Bx at a
 split at a
 .rfl
 .rename_i b;unfold pP at a
  split at a
  .rename_i d j;exact⟨d,0,i b rfl d 0 j,rfl⟩
  .cases a
def NF{b:TV B.D}(a:pP b=true):∃c,b= .int c 0:=by
 unfold pP at a
 split at a
 .exact⟨_,rfl⟩
 .cases a
def aqA{t:TypeId}{x:Operand}{lo hi:Option Operand}{E:En B.D}{H:List (Ob B.D)}{c:cr B.D->Option R}(h:slice B P E H t (pe E x) lo hi c=c4 r):
 ∃v F,c ⟨v,[],0,F⟩=c4 r/\fW P (.slice t x lo hi c6) E H F v:=by
 have ops:∀{n:En B.D},(∀z,z∈(Op.slice t x lo hi c6).operands->PE (aU B n) z=pv B (pe E z))->∀{j:Option Operand},j=lo\/j=hi->∀a,j=c4 a->∀c e,pe E a= .int c e->PE (aU B n) a= .int c e:=λQ j k a i c e o=>by
  rw[Q a ?_,o];rfl;rcases k with rfl |rfl
  .subst i;simp[dd]
  .subst i;simp[dd]
 unfold slice at h
 split at h
 .rename_i e J m;obtain⟨g,h⟩:=a8 h;obtain⟨w,s,h⟩:=fq h;obtain⟨b,p,h⟩:=fq h;obtain⟨M,i,y⟩:=ec.1 h;obtain⟨h0,N,O,rfl⟩:=Kt i;refine⟨_,_,y,λd ty pos aft n u f _=>?_⟩
  refine aaK (l:=w.toNat) (h:=b.toNat) (by rw[f x (by simp[dd]),m];rfl) (mh g).1 (mh g).2 (wk (dflt:=0) s h0 (ops f (.inl rfl))) (wk (by rw[dk];exact p) (by omega) (ops f (.inr rfl))) (by omega) (by rw[dk];omega) ?_
  simp[j8,j7]
 .rename_i q v m
  split at h
  .rename_i e J K;obtain⟨T,k⟩:=fx K;obtain⟨g,h⟩:=a8 h;obtain⟨w,s,h⟩:=fq h;obtain⟨b,p,h⟩:=fq h;obtain⟨M,i,y⟩:=ec.1 h;obtain⟨h0,N,O,_⟩:=Kt i;refine⟨_,_,y,λd ty pos aft n u f S=>?_⟩
   have D:=df (S q _ (by simp) k);refine KT (by rw[f x (by simp[dd]),m];rfl) D λC G I=>?_
   have A:∀{j:Option Operand},j=lo\/j=hi->∀a,j=c4 a->∀c e,pe E a= .int c e->PE C a= .int c e:=λk a i c e o=>I a _ (ops f k a i c e o) (by simp)
   have:=SC (P:=P) (E:=C) (H:=av B u) (d:=d) (ty:=ty) (pos:=pos) (aft:=aft) (gd:=c6) (t:=t) (x:=x) (lo:=lo) (hi:=hi) (l:=w.toNat) (h:=b.toNat) G D rfl (mh g).1 (mh g).2 (wk (dflt:=0) s h0 (A (.inl rfl))) (wk (by simpa[aY] using p) (by omega) (A (.inr rfl))) (by omega) (by simp[aY];omega);rw[gx] at this;exact this
  .cases h
 .rename_i m;obtain⟨h0,h⟩:=a8 h;obtain⟨L,h⟩:=a8 h
  split at h
  .rename_i e o;obtain⟨g,h⟩:=a8 h;exact⟨_,_,h,λd ty pos aft n u f _=>acJ (by rw[f x (by simp[dd]),m];rfl) (mh g).1 (mh g).2 (NN h0 (ops f (.inl rfl))) (NN L (ops f (.inr rfl)))⟩
  .cases h
 .cases h
def VT(o:cU P B){n:TypeId}{x e c:Operand}{d:En B.D}{j:List (Ob B.D)}{m:cr B.D->Option R}
 (a:(bif pP (pe d e) then bif pP (pe d c) then rowOf B j (pe d x) λg _ b=>bif kX B P n g then m ⟨.z0,[],0,b⟩ else c6 else c6 else c6)=c4 r):
 ∃v b,m ⟨v,[],0,b⟩=c4 r/\fW P (.slice n x c6 (c4 e) (c4 c)) d j b v:=by
 obtain⟨h,a⟩:=a8 a;obtain⟨f,a⟩:=a8 a;obtain⟨s,h⟩:=NF h;obtain⟨p,f⟩:=NF f;obtain⟨g,D,b,a,u⟩:=Hd a;obtain⟨k,w⟩:=a8 a;refine⟨_,_,w,λA C E G F q i y=>?_⟩
 refine amo (x:=x) (by rw[i x (by simp[dd])];exact u q y) λz t l=>?_
 exact Zm t (o.pos g) (mh k).1 (mh k).2 (l e (.int s 0) (by rw[i e (by simp[dd]),h];rfl) (by simp)) (l c (.int p 0) (by rw[i c (by simp[dd]),f];rfl) (by simp))
def kV.len{H:List aO}{p:PV}{sz:Nat}{j:List PV}{g:Gh}{l:World}{v:Value}(c:kV H p sz j)(d:bF g H l)(h:VR g H l p v)(e:0<sz):∃a cap,v= .slice a j.length cap:=by
 rcases c with c |⟨q,m,rfl,k,rfl,rfl⟩
 .obtain⟨_,a,cap,h,_⟩:=c.real d h e;exact⟨a,cap,h⟩
 .obtain⟨_,a,cap,h,_⟩:=(DP k).real d (h.ub k rfl) e;exact⟨a,cap,h⟩
def apb{c:List (Ob B.D)}{q v g a:Nat}{d:List (B.D a)}{b:List (TV B.D)}(j:nth c q=c4 ⟨g,v,.hole a d b⟩){f:List (Ob B.D)}(h:∀i e,i∈[q]->nth c i=c4 e->nth f i=c4 e):kV (av B f) (.fl q v) (B.sz a) (d.map (B.ty a).enc++aP B b):=
 .inr ⟨q,_,rfl,df (h q _ (by simp) j),rfl,rfl⟩
def Vw(p:cU P B){x:Operand}{t n:TypeId}{E:En B.D}{H:List (Ob B.D)}{l:cr B.D->Option R}(s:dU P t=c4 n)
 (b:(match pe E x with
  | .bg=>l ⟨.int .i64 0,[],0,[]⟩
  | .z0=>l ⟨.int .i64 0,[],0,[]⟩
  |x=>GF B H x l)=c4 r):
 ∃v e,l ⟨v,[],0,e⟩=c4 r/\fW P (.call {callee:=.builtin .len,args:=#[x],argTypes:=#[t]}) E H e v:=by
 have m:x∈(o8 {callee:=.builtin .len,args:=#[x],argTypes:=#[t]}).operands:=by simp[dd,hP]
 split at b
 .rename_i h;exact⟨_,_,b,λd ty pos aft C a k _=>ap9 (by rw[k x m,h];rfl) rfl s⟩
 .rename_i h;exact⟨_,_,b,λd ty pos aft C a k _=>acm (by rw[k x m,h];rfl) rfl s⟩
 .unfold GF at b;have q:∀(z:Nat) (e:List Nat) (o:Nat) (j:List PV),0<o->j.length=z->(∀a:List (Ob B.D),(∀i G,i∈e->nth H i=c4 G->nth a i=c4 G)->kV (av B a) (pv B (pe E x)) o j)->fW P (.call {callee:=.builtin .len,args:=#[x],argTypes:=#[t]}) E H e (.int .i64 (z:Int)):=λz e o j L J A d ty pos aft C a k f=>by
   subst J;exact Gi (P:=P) (E:=aU B C) (H:=av B a) (d:=d) (ty:=ty) (pos:=pos) (aft:=aft) (gd:=c6) (x:=x) (t:=t) (ci:=#[t]) (n:=j.length) ⟨n,s⟩ rfl λg O Q N D=>by
    have F:=D.e.eval x;rw[k x m] at F;exact(A a f).len D.m F L
  split at b
  .rename_i h
   split at b
   .rename_i c u y;obtain⟨I,w⟩:=fx y;refine⟨_,_,b,q _ _ (B.sz c) (List.map (B.ty c).enc u) (p.pos c) (by rw[dk]) λa f=>?_⟩
    rw[h];exact .inr ⟨_,_,rfl,df (f _ _ (by simp) w),rfl,rfl⟩
   .rename_i c u K y;obtain⟨I,w⟩:=fx y;refine⟨_,_,b,q _ _ (B.sz c) (u.map (B.ty c).enc++aP B K) (p.pos c) (by rw[eH,dk,db,dk,eu]) λa f=>?_⟩
    rw[h];exact apb w f
   .cases b
  .obtain⟨c,j,e,M,A⟩:=Hd b;exact⟨_,_,M,q _ _ _ _ (p.pos c) (by rw[dk]) λa f=>A a f⟩
def adE{a:Call}{c f:Operand}{e:En B.D}{j:List (Ob B.D)}{d b:IntKind}{i g:Int}(l:a.callee= .builtin .min)(k:a.args=#[c,f])(m:pe e c= .int d i)(o:pe e f= .int b g)(n:fV d b=true):
 fW P (.call a) e j [] (.int d (min i g)):=by
 obtain rfl:=qh n;obtain⟨callee,args,p⟩:=a;subst l;subst k;exact λq s u w v t h _=>akg (by rw[h c (by simp[dd,hP]),m];rfl) (by rw[h f (by simp[dd,hP]),o];rfl)
def alY{a:Call}{c f:Operand}{e:En B.D}{j:List (Ob B.D)}{d b:IntKind}{i g:Int}(l:a.callee= .builtin .max)(k:a.args=#[c,f])(m:pe e c= .int d i)(o:pe e f= .int b g)(n:fV d b=true):
 fW P (.call a) e j [] (.int d (max i g)):=by
 obtain rfl:=qh n;obtain⟨callee,args,p⟩:=a;subst l;subst k;exact λq s u w v t h _=>ae4 (by rw[h c (by simp[dd,hP]),m];rfl) (by rw[h f (by simp[dd,hP]),o];rfl)
def DE{E d:En B.D}:∀{b:List Operand},(∀a,a∈b->PE (aU B d) a=pv B (pe E a))->aP B (fB E b)=b.map (PE (aU B d))
 |[],_=>rfl
 |a::b,c=>by rw[fB,aP,DE λf e=>c f (km _ e),ma,c a (by simp)]
def W8{f:FuncId}{bs cs:Array Operand}{E:En B.D}{H:List (Ob B.D)}:fW P (.makeFunc (.func f) bs cs) E H [] (.fn f (fB E bs.toList) (fB E cs.toList)):=by
 intro d ty pos aft g e c _;have:=apw (P:=P) (E:=aU B g) (H:=av B e) (d:=d) (ty:=ty) (pos:=pos) (aft:=aft) (gd:=c6) (f:=f) (bs:=bs.toList) (cs:=cs.toList);rw[<-DE (E:=E) λb a=>c b (by simp[dd,hM.1 a]), <-DE (E:=E) λb a=>c b (by simp[dd,hM.1 a])] at this;exact this
def aip{e d:TypeId}{c:Operand}{f:En B.D}{i:List (Ob B.D)}{a b:IntKind}{g:Int}(j:pe f c= .int b g)(h:yi P d=c4 a)(k:(P.underlying e).isSome=true):fW P (.convert e d c) f i [] (.int a (a.wrap g)):=
 λ_ _ _ _ _ _ l _=>aoQ (by rw[l c (by simp[dd]),j];rfl) k h rfl
end
section
variable {P:Program}{B:Tb}{R:Type}{r:R}
def iZ{a:Nat->Type}(c:List (Ob a))(d:cr a):Prop:=
 ∀i b,(i,b)∈d.wr->i<c.length+d.nw/\∀e,nth c i=c4 e->e.st<b.st
def S6{a:Nat->Type}{c:List (Ob a)}{v:TV a}{e:Nat}{d:List Nat}:iZ c ⟨v,[],e,d⟩:=λi f b=>by cases b
def pz{a:Nat->Type}{c:List (Ob a)}{v:TV a}{q f:Nat}{b:Bd a}{k:List Nat}{l:Ob a}(e:nth c q=c4 l):iZ c ⟨v,[(q,⟨dJ c q,f,b⟩)],0,k⟩:=λi g d=>by
 have d:(i,g)=(q,(⟨dJ c q,f,b⟩:Ob a)):=k0.1 d;injection d with h1 h2
 subst h1;subst h2;refine⟨?_,λj h=>?_⟩
 .rw[cJ] at e;exact(c7.1 e).1
 .show j.st<dJ c i
  unfold dJ;rw[h];exact p7 _
def xO{a:Nat->Type}{c:List (Ob a)}{v:TV a}{e:Ob a}{g:List Nat}:iZ c ⟨v,[(len c,e)],1,g⟩:=λi f b=>by
 have b:(i,f)=(len c,e):=k0.1 b;injection b with h1 h2
 subst h1;subst h2;rw[eu];refine⟨p7 _,λh d=>?_⟩
 rw[cJ,hI (ef _)] at d;cases d
def alQ{a:TV B.D}(b:yH a=true):(pv B a).one=true:=by
 cases a <;> first
  |rfl
  |(rename_i c;cases c <;> rfl;done)
  |(simp[yH] at b;done)
def oK:∀{cs:List (TV B.D)},jj cs=true->(aP B cs).all PV.one=true
 |[],_=>rfl
 |c::cs,a=>by
  simp only[jj] at a;cases b:yH c with
  |false=>rw[b] at a;cases a
  |true=>
   rw[b] at a;simp[aP,alQ b,oK (cs:=cs) a]
def zk{a:TV B.D}(c:tF a=true)(vs:List PV):pv B a≠ .bu vs:=by
 cases a <;> first
  |(intro b;cases b;done)
  |(rename_i d;cases d <;> (intro b;cases b);done)
  |(simp[tF] at c;done)
def PC{a:TV B.D}(b:jj (dN a)=true):tF a=true:=by
 cases a <;> first
  |rfl
  |(simp[dN,jj,yH] at b;done)
def l5(a:TV B.D):(pv B a).cells=aP B (dN a):=by rw[nB,db]
def aoA{a i:Nat}(c:i<a):(dx a:List (Ob B.D))[i]?=c4 xt:=by
 induction a generalizing i with
 |zero=>omega
 |succ a b=>
  cases i with
  |zero=>rfl
  |succ i=>simpa[dx] using b (by omega)
def PK{b:List (Ob B.D)}{a i:Nat}(c:i<a):nth (aX b (dx a)) (len b+i)=c4 xt:=by
 rw[cJ,bK,eu,dt (by omega)];simpa using aoA c
def mc(b:List (Ob B.D))(q:Nat)(a:Ob B.D):av B (b8 b [(q,a)])=(av B b).set q (aY B a):=Zc
def Ag.ov{d:Op}{rd:List Nat}{E e:En B.D}{H a:List (Ob B.D)}{j:Ob B.D}(c:Ag d (aX rd (eV [(len H,j)])) E e (aX H (dx 1)) a):(av B a)[len H]?=c4 ⟨0,1,[],0⟩:=by
 have h:=c.h (len H) (by simp[bK,eV]);rw[show len H=len H+0 from rfl,PK (by omega)] at h;exact df h
def Ag.pe{a:Op}{j:List Nat}{E c:En B.D}{h d:List (Ob B.D)}(k:Ag a j E c h d){x:Operand}(e:x∈a.operands):PE (aU B c) x=pv B (pe E x):=by rw[Bw,k.e x e]
def Ag.lN{e:Op}{rd wr:List Nat}{E j:En B.D}{H a:List (Ob B.D)}{n i:Nat}{c:Ob B.D}(d:Ag e (aX rd wr) E j (aX H (dx n)) a)(hi:i∈rd\/i∈wr)(h:nth H i=c4 c):nth a i=c4 c:=by
 rw[d.h i (by rw[bK,List.mem_append];exact hi)];exact Dy h
def c9{b:Type}{a:List b}{i:Nat}{d:b}(c:a[i]?=c4 d):i<a.length:=(c7.1 c).1
def W5{a:TypeId}{x:Operand}{E:En B.D}{H:List (Ob B.D)}(c:jj (dN (pe E x))=true)(f:m1 0 (len (dN (pe E x)))=true):
 gY P (.box a x) E H ⟨.ptr (len H) 1 0 0,[(len H,⟨1,1,.box a (dN (pe E x))⟩)],1,[]⟩:=by
 intro d ty pos aft k g b;have j:0<(pv B (pe E x)).cells.length:=by rw[nB,dk, <-eu];exact ei f
 have h:=b.pe (x:=x) (by simp[dd]);have i:=alO (P:=P) (E:=aU B k) (H:=av B g) (d:=d) (ty:=ty) (pos:=pos) (aft:=aft) (elem:=a) h rfl j (by rw[l5];exact oK c) (zk (PC c));have e:=tu (sX b.ov i) (c9 b.ov) (P6 _) (.refl _);rw[l5] at e;refine lI e ?_
 rintro v l ⟨rfl,rfl⟩;refine⟨rfl,?_⟩
 rw[mc];simp[aY,db]
def ac4{a:TypeId}{z:Value}{E:En B.D}{H:List (Ob B.D)}(g:dV P a=c4 z)(e:jj (dN (cv (D:=B.D) z))=true)(f:m1 0 (len (dN (cv (D:=B.D) z)))=true):
 gY P (.alloc a) E H ⟨.ptr (len H) 1 0 0,[(len H,⟨1,1,.box a (dN (cv z))⟩)],1,[]⟩:=by
 intro d ty pos aft k i c;have j:0<(pv B (cv z)).cells.length:=by rw[nB,dk, <-eu];exact ei f
 have h:=Ug (P:=P) (E:=aU B k) (H:=av B i) (d:=d) (ty:=ty) (pos:=pos) (aft:=aft) (elem:=a) g (DK B z).symm rfl j (by rw[l5];exact oK e);have b:=tu (sX c.ov h) (c9 c.ov) (P6 _) (.refl _);rw[l5] at b;refine lI b ?_
 rintro v l ⟨rfl,rfl⟩;refine⟨rfl,?_⟩
 rw[mc];simp[aY,db]
def Jh(a b:List (TV B.D))(c:Nat):aP B (oJ a c b)=(aP B a).take c++aP B b++(aP B a).drop (c+b.length):=by
 unfold oJ;rw[bK,bK,kK,drop_eq,eu];simp[db,j8,j7]
def ap2{a b:List (TV B.D)}{c:Nat}(d:c+b.length<=a.length):(oJ a c b).length=a.length:=by
 unfold oJ;rw[bK,bK,kK,drop_eq,eu];simp;omega
def acV{a p i:Nat}{g:List (B.D a)}{k:B.D a}{f:PV}(l:cU P B)(u:i<g.length)(s:∀(e:Nat) (n b:PV),f.cells[e]?=c4 n->((B.ty a).enc k).cells[e]?=c4 b->Cc n b)(v:f.cells.length=B.sz a):
 jB ⟨a,B.sz a,(g.map (B.ty a).enc).set i f,p⟩ ⟨a,B.sz a,(g.set i k).map (B.ty a).enc,p⟩:=by
 refine⟨rfl,rfl,rfl,by simp,λh j d=>?_,λh e m c=>?_⟩
 .rw[e6] at d;cases o:(g.set i k)[h]? with
  |none=>rw[o] at d;cases d
  |some t=>
   rw[o] at d;injection d with d
   subst d;exact l.wid a t
 .unfold abk at c⊢;rw[r0] at c
  by_cases j:i=h
  .subst j;rw[ee (by simpa using u)] at c⊢;simp only[hU] at c⊢;have q:e<f.cells.length:=by
    have:=c9 c;rw[l.wid] at this;omega
   exact⟨f.cells[e],c5 q,s e _ m (c5 q) c⟩
  .rw[ey j] at c⊢;exact⟨m,c,.refl _⟩
def amr(h:cU P B){u:TypeId}{x c:Operand}{E:En B.D}{H:List (Ob B.D)}{M:cr B.D->Option R}(a:store B P H u (pe E x) (pe E c) M=c4 r):
 ∃F,M F=c4 r/\iZ H F/\gY P (.store u x c) E H F:=by
 unfold store at a
 split at a
 .rename_i X Z;obtain⟨Y,a⟩:=a8 a;obtain⟨I,a⟩:=a8 a;have V:(pv B (pe E c)).cells.length=X:=by rw[nB,dk, <-eu];exact beq_eq Y
  have J:(pv B (pe E c)).cells.all PV.one=true:=by rw[l5];exact oK I
  have T:=zk (B:=B) (PC I);have L:cH P u=c4 (pv B (pe E c)).cells.length:=by rw[V];exact Z
  split at a
  .rename_i q v i f O
   split at a
   .rename_i g W C;obtain⟨U,n⟩:=fx C;obtain⟨e,S,a⟩:=ec.1 a;have aa:=c9 S;have fin:∀(j:B.D g) (e':PV),e'.cells=((B.ty g).enc e).cells.take f++(pv B (pe E c)).cells++((B.ty g).enc e).cells.drop (f+(pv B (pe E c)).cells.length)->f+(pv B (pe E c)).cells.length<=B.sz g->
     (∀(f:Nat) (o b:PV),e'.cells[f]?=c4 o->((B.ty g).enc j).cells[f]?=c4 b->Cc o b)->gY P (.store u x c) E H ⟨.any,[(q,⟨dJ H q,v,.aap g (W.set i j)⟩)],0,[q]⟩:=λj e' K l w d ty pos aft Q N k=>by
     have t:=df (k.lN (.inl (by simp)) n);have ae:=QH (P:=P) (E:=aU B Q) (H:=av B N) (d:=d) (ty:=ty) (pos:=pos) (aft:=aft) (e:=(B.ty g).enc e) (e':=e') (by rw[k.pe (x:=x) (by simp[dd]),O];rfl) t rfl (k.pe (x:=c) (by simp[dd])) L J T (by simp[aY,S]) (by rw[h.wid];exact l) K;have ac:e'.cells.length=B.sz g:=by
      rw[K,eH,eH,ft,j5,h.wid];omega
     refine lI (tu ae (c9 t) (acV h aa w ac) (.refl _)) ?_
     rintro v af ⟨rfl,rfl⟩;exact⟨rfl,by rw[mc];rfl⟩
    have D:((B.ty g).enc e).cells=aP B (dN (B.tv g e)):=by rw[<-h.tv,l5]
    split at a
    .rename_i m ab;obtain⟨l,a⟩:=a8 a;obtain⟨j,G,p⟩:=fq a;have s:=ei l;rw[eu,eu] at s;rw[ab] at D;refine⟨_,p,pz n,fin j (.agg (aP B (oJ m f (dN (pe E c))))) ?_ ?_ λf o b A z=>((h.up g _ j G).2.cells).2 f o b A z⟩
     .rw[D,l5];show aP B _=_
      rw[Jh];simp[dN,db]
     .have:=h.wid g e;rw[D,db,dk] at this;rw[nB,dk];simp only[dN] at this;omega
    .obtain⟨l,y⟩:=a8 a;clear a;obtain rfl:=beq_eq l;obtain⟨j,G,p⟩:=fq y;have w:=(h.up g _ j G).2.cells;have ag:(pv B (pe E c)).cells.length=B.sz g:=by rw[w.1,h.wid]
     refine⟨_,p,pz n,fin j (.agg (pv B (pe E c)).cells) ?_ (by omega) λf o b A z=>w.2 f o b A z⟩
     rw[List.drop_eq_nil_of_le (by rw[h.wid];omega)];simp[PV.cells]
   .rename_i ah m C;obtain⟨U,n⟩:=fx C;obtain⟨ad,y⟩:=a8 a;clear a;obtain rfl:=beq_eq ad;obtain⟨l,p⟩:=a8 y;have s:=ei l;rw[eu,eu] at s;refine⟨_,p,pz n,λd ty pos aft Q N k=>?_⟩
    have t:=df (k.lN (.inl (by simp)) n);refine lI (QH (P:=P) (e:=.agg (aP B m)) (e':=.agg (aP B (oJ m f (dN (pe E c))))) (by rw[k.pe (x:=x) (by simp[dd]),O];rfl) t rfl (k.pe (x:=c) (by simp[dd])) L J T (by simp[aY]) ?_ ?_) ?_
    .rw[show(pv B (pe E c)).cells.length=(dN (pe E c)).length by rw[nB,dk]];simp only[PV.cells,db,dk];exact s
    .rw[l5];show aP B _=(aP B m).take f++aP B (dN (pe E c))++(aP B m).drop (f+(aP B (dN (pe E c))).length)
     rw[Jh];simp[db]
    .rintro v af ⟨rfl,rfl⟩;refine⟨rfl,?_⟩
     rw[mc];simp[aY,ap2 s]
   .cases a
  .cases a
 .cases a
structure vF (P:Program) (B:Tb) (op:Op) (E:En B.D) (H:List (Ob B.D)) (n:Nat) (xs:List (B.D n)) (rd:List Nat):Prop where
 fz:∀d ty pos aft E' H',Ag op (aX rd []) E E' H H'->fJ P ⟨d,op,ty,pos,aft,c6⟩ (aU B E') (av B H') λv K=>v= .vs (B.sz n) (xs.map (B.ty n).enc)/\K=av B H'
 own:∀d ty pos aft E' H' q,(∀x,x∈op.operands->PE (aU B E') x=pv B (pe E x))->(∀i o,i∈rd->nth H i=c4 o->nth H' i=c4 o)->(av B H')[q]?=c4 ⟨0,1,[],0⟩->
  fJ P ⟨d,op,ty,pos,aft,c6⟩ (aU B E') (av B H') λv K=>v= .fl q 1/\K=(av B H').set q ⟨n,B.sz n,xs.map (B.ty n).enc,1⟩
def vF.sound{o:Op}{E:En B.D}{H:List (Ob B.D)}{n:Nat}{j:List (B.D n)}{rd:List Nat}{fz:Bool}{k:cr B.D->Option R}(m:vF P B o E H n j rd)
 (h:(bif fz then k ⟨.row n j,[],0,rd⟩ else k ⟨.fl (len H) 1,[(len H,⟨1,1,.aap n j⟩)],1,rd⟩)=c4 r):∃az,k az=c4 r/\iZ H az/\gY P o E H az:=by
 cases fz with
 |true=>
  refine⟨_,h,S6,λd ty pos c l e a=>?_⟩
  refine m.fz d ty pos c l e ⟨a.e,λi hi=>?_,?_⟩
  .rw[a.h i hi];show nth (aX H []) i=_;rw[bK,q4]
  .have:=a.le;simpa[bK,dx] using this
 |false=>
  refine⟨_,h,xO,λd ty pos c l e a=>?_⟩
  refine lI (m.own d ty pos c l e (len H) (λx s=>a.pe s) (λi w hi t=>a.lN (.inl hi) t) a.ov) ?_
  rintro v u ⟨rfl,rfl⟩;exact⟨rfl,by rw[mc];rfl⟩
def qY{b:Nat}{d:Option Nat}{z:Option Value}(a:lB b d z=true):d=c4 b/\∃v,z=c4 v/\v.cells.size=b:=by
 unfold lB at a
 split at a
 .rename_i e v;cases c:e4 b e with
  |true=>rw[c] at a;exact⟨by rw[beq_eq c],v,rfl,beq_eq a⟩
  |false=>rw[c] at a;cases a
 .cases a
def J2(f:cU P B){b:Nat}{e:List (B.D b)}:∀a,a∈e.map (B.ty b).enc->cE 0 a:=λa c=>by
 obtain⟨d,_,rfl⟩:=ng.1 c;exact f.lt b d
def MY(l:cU P B){c b k:Nat}{a x:Operand}{f:En B.D}{w:List (Ob B.D)}{g A:List (B.D b)}{C:List Nat}(J:pe f a= .bg\/pe f a= .z0)(I:yd B w (pe f x) b g C)
 (D:dU P c=c4 b) (F:kB P b=c4 (k+1)) (T:lB (B.sz b) (cH P b) (dV P b)=true) (Q:bj (k+1) [] g=c4 A):
 vF P B (.call {callee:=.builtin .append,args:=#[a,x],argTypes:=#[c,c]}) f w b A C:=by
 obtain⟨z,rfl⟩:=AN Q;obtain⟨E,X,y,H⟩:=qY T;simp only[l0,gx,o2] at z⊢;have t:(g.map (B.ty b).enc).length<=9223372036854775807:=by
  rw[dk];have:=ga g.length (l3 k);simp only[hS] at this;omega
 have M:(g.map (B.ty b).enc).length*(k+1)<=140737488355328:=by rw[dk];exact z
 have h:a∈(o8 {callee:=.builtin .append,args:=#[a,x],argTypes:=#[c,c]}).operands/\x∈(o8 {callee:=.builtin .append,args:=#[a,x],argTypes:=#[c,c]}).operands:=by simp[dd,hP]
 have K:∀{s:Env},PE s a=pv B (pe f a)->PE s a= .bg\/PE s a= .z0:=λj=>J.imp (λe=>by rw[j,e];rfl) (λe=>by rw[j,e];rfl)
 have u:∀r v,pv B (pe f a)≠ .fl r v:=λr v=>by rcases J with e |e <;> rw[e] <;> simp[pv]
 refine⟨λd ty pos aft V o n=>?_,λd ty pos aft V o q L U G=>?_⟩
 .have O:=n.pe h.1;refine uL (x:=x) (by rw[n.pe h.2];exact I o λi Y W S=>by rw[n.h i (by rw[bK];simp[W])];exact S) λN p m=>?_
  exact ab0 (K (m a _ O u)) rfl p (l.pos b) D E F y H M t (J2 l)
 .refine uL (x:=x) (by rw[L x h.2];exact I o U) λN p m=>?_
  have j:=Oh (P:=P) (d:=d) (ty:=ty) (pos:=pos) (aft:=aft) G (K (m a _ (L a h.1) u)) rfl p (l.pos b) D E F y H M t;exact qX j (by unfold ek;rw[ee (c9 G)]) rfl
def YX(U:cU P B){t a g q v w:Nat}{s x:Operand}{E:En B.D}{H:List (Ob B.D)}{b f n:List (B.D a)}{p:List Nat}(O:pe E s= .fl q v)(h:nth H q=c4 ⟨w,v,.aap a b⟩)(N:yd B H (pe E x) a f p)
 (F:dU P t=c4 a) (J:kB P a=c4 (g+1)) (K:lB (B.sz a) (cH P a) (dV P a)=true) (D:bj (g+1) b f=c4 n):
 gY P (.call {callee:=.builtin .append,args:=#[s,x],argTypes:=#[t,t]}) E H ⟨.fl q (v+1),[(q,⟨dJ H q,v+1,.aap a n⟩)],0,q::p⟩:=by
 obtain⟨C,rfl⟩:=AN D;obtain⟨G,V,A,M⟩:=qY K;have y:b.length+f.length<=9223372036854775807:=by
  have:=ga (b.length+f.length) (l3 g);simp only[hS] at this;omega
 have l:s∈(o8 {callee:=.builtin .append,args:=#[s,x],argTypes:=#[t,t]}).operands/\x∈(o8 {callee:=.builtin .append,args:=#[s,x],argTypes:=#[t,t]}).operands:=by simp[dd,hP]
 intro d ty pos aft Q u e;have c:=df (e.lN (.inl (by simp)) h);have S:PE (aU B Q) s= .fl q v:=by rw[e.pe l.1,O];rfl
 obtain⟨j,rfl,m⟩:=ri S;refine yP m c rfl ?_
 have k:=JM (x:=x) (by rw[e.pe l.2];exact N u λi o T h=>e.lN (.inl (by simp[T])) h) m c;refine uL (x:=x) k λz k I=>?_
 have L:=Pb (P:=P) (E:=z) (H:=av B u) (d:=d) (ty:=ty) (pos:=pos) (aft:=aft) (s:=.tmp j) (r:=q) (v:=v) (len:=b.length) (by_:=g+1) (t:=t) (x:=x) (o:=aY B ⟨w,v,.aap a b⟩) (I (.tmp j) (.sl q v 0 b.length) (by show Bml.look _ j=_;rw[ni];simp[aY]) (by simp)) c rfl rfl k F G J A M (by rw[dk];exact C) (by rw[dk];exact y);refine lI (qX L (by unfold ek;rw[ee (c9 c)]) (by simp[aY])) ?_
 rintro v W ⟨rfl,rfl⟩;refine⟨rfl,?_⟩
 rw[mc];simp[aY,hY]
def OL{f:List (Ob B.D)}{q a d c:Nat}{b:List (TV B.D)}(h:nth f q=c4 ⟨d,a,.hole c [] b⟩){e:List (Ob B.D)}(g:nth e q=c4 ⟨d,a,.hole c [] b⟩):kV (av B e) (.fl q a) (B.sz c) (aP B b):=
 .inr ⟨q,_,rfl,df g,rfl,by simp[aY]⟩
def agG(ae:cU P B){t m p:Nat}{s x:Operand}{E:En B.D}{H:List (Ob B.D)}{X:cr B.D->Option R}(a:GI B H m (p+1) (pe E s) (pe E x) X=c4 r)
 (U:dU P t=c4 m) (W:kB P m=c4 (p+1)) (ai:lB (B.sz m) (cH P m) (dV P m)=true):
 ∃O,X O=c4 r/\iZ H O/\gY P (.call {callee:=.builtin .append,args:=#[s,x],argTypes:=#[t,t]}) E H O:=by
 obtain⟨V,ap,S,aa⟩:=qY ai;have A:s∈(o8 {callee:=.builtin .append,args:=#[s,x],argTypes:=#[t,t]}).operands/\x∈(o8 {callee:=.builtin .append,args:=#[s,x],argTypes:=#[t,t]}).operands:=by simp[dd,hP]
 unfold GI at a
 split at a
 .rename_i q ao ab
  split at a
  .rename_i j g ah;obtain⟨aq,C⟩:=fx ah;obtain⟨af,a⟩:=a8 a;obtain rfl:=beq_eq af;have ad:(aP B g).length=len g:=by rw[db,dk,eu]
   split at a
   .rename_i N;obtain⟨c,z⟩:=a8 a;have c:=ei c;refine⟨_,z,xO,λd ty pos aft ac Y e=>?_⟩
    have an:=e.lN (.inl (by simp)) C;refine uL (x:=x) (sz:=B.sz j) (ys:=aP B g) (by rw[e.pe A.2,ab];exact OL C an) λF y I=>?_
    have D:(aP B g).length<=9223372036854775807:=by
     have:=ga (len g) (l3 p);simp only[hS] at this;omega
    have a:=Oh (P:=P) (E:=F) (d:=d) (ty:=ty) (pos:=pos) (aft:=aft) (s:=s) e.ov (.inl (I s .bg (by rw[e.pe A.1,N];rfl) (by simp))) rfl y (ae.pos j) U V W S aa (by rw[ad];exact c) D;refine lI (qX a (by unfold ek;rw[ee (c9 e.ov)]) rfl) ?_
    rintro v am ⟨rfl,rfl⟩;exact⟨rfl,by rw[mc];rfl⟩
   .rename_i h l N;have go:∀(n:Nat) (b Q:Bd B.D) (f:List PV),nth H h=c4 ⟨n,l,b⟩->(∀s v,aY B ⟨s,v,b⟩=⟨j,B.sz j,f,v⟩)->(∀s v,aY B ⟨s,v,Q⟩=⟨j,B.sz j,f++aP B g,v⟩)->(f.length+len g)*(p+1)<=140737488355328->
     gY P (.call {callee:=.builtin .append,args:=#[s,x],argTypes:=#[t,t]}) E H ⟨.fl h (l+1),[(h,⟨dJ H h,l+1,Q⟩)],0,[h,q]⟩:=λn b Q f k aj ag c=>by
     have D:f.length+(aP B g).length<=9223372036854775807:=by
      have:=ga (f.length+len g) (l3 p);simp only[hS] at this;omega
     intro d ty pos aft ac Y e;have u:=df (e.lN (.inl (by simp)) k);have ak:=e.lN (i:=q) (.inl (by simp)) C;rw[aj] at u;have al:PE (aU B ac) s= .fl h l:=by rw[e.pe A.1,N];rfl
     obtain⟨L,rfl,T⟩:=ri al;refine yP T u rfl ?_
     have y:=JM (x:=x) (by rw[e.pe A.2,ab];exact OL C ak) T u;refine uL (x:=x) y λF y I=>?_
     have a:=Pb (P:=P) (E:=F) (H:=av B Y) (d:=d) (ty:=ty) (pos:=pos) (aft:=aft) (s:=.tmp L) (r:=h) (v:=l) (len:=f.length) (by_:=p+1) (t:=t) (x:=x) (o:=⟨j,B.sz j,f,l⟩) (I (.tmp L) (.sl h l 0 f.length) (by show Bml.look _ L=_;rw[ni]) (by simp)) u rfl rfl y U V W S aa (by rw[ad];exact c) D;refine lI (qX a (by unfold ek;rw[ee (c9 u)]) (by simp)) ?_
     rintro v am ⟨rfl,rfl⟩;refine⟨rfl,?_⟩
     rw[mc,ag];simp[hY]
    split at a
    .rename_i J w Z K;obtain⟨n,k⟩:=fx K;obtain⟨ys,G,a⟩:=fq a;obtain⟨rfl,M⟩:=AG G;obtain rfl:w=ys:=M;obtain⟨c,z⟩:=a8 a;have c:=ei c;refine⟨_,z,pz k,go n _ _ (w.map (B.ty J).enc++aP B Z) k (λs v=>rfl) (λs v=>by simp[aY,bK,db]) ?_⟩
     rw[eH,dk,db,dk, <-eu Z];exact c
    .rename_i J w K;obtain⟨n,k⟩:=fx K;obtain⟨ys,G,a⟩:=fq a;obtain⟨rfl,M⟩:=AG G;obtain rfl:w=ys:=M;obtain⟨c,z⟩:=a8 a;have c:=ei c;refine⟨_,z,pz k,go n _ _ (w.map (B.ty J).enc) k (λs v=>rfl) (λs v=>rfl) ?_⟩
     rw[dk];exact c
    .cases a
   .cases a
  .cases a
 .cases a
end
def am7{b a:PV}(d:Cc b a)(c:a.one=true):b.one=true:=by
 cases d with
 |refl=>exact c
 |nil=>rfl
 |z0=>rfl
 |agg=>cases c
def ahf{vs:List PV}{a:PV}(b:Cc (.bu vs) a):a= .bu vs:=by
 cases b;rfl
def ajW{c a:PV}(f:Cc c a)(e:a.cells.all PV.one=true):c.cells.all PV.one=true:=by
 obtain⟨k,h⟩:=f.cells;refine h7.2 λj g=>?_
 obtain⟨d,i,rfl⟩:=ej g;have b:d<a.cells.length:=by omega
 exact am7 (h d _ _ (c5 i) (c5 b)) (h7.1 e _ (List.getElem_mem b))
section
variable {P:Program}{B:Tb}{R:Type}{r:R}
def acz{e:En B.D}{f d:Operand}(a:Cf f d=true):pe e d=pe e f:=by
 unfold Cf at a
 split at a
 .rw[beq_eq a]
 .rename_i g h b i;cases c:fV g b with
  |false=>rw[c] at a;cases a
  |true=>
   rw[c] at a;obtain rfl:=qh c;have:h=i:=of_decide_eq_true a;rw[this]
 .cases a
def aoF(p:cU P B){t a v:Nat}{g o:Operand}{x:En B.D}{M:List (Ob B.D)}{L:IntKind}{e:Int}{z:Value}{m:B.D a}{F:List (B.D a)}(ac:Cf g o=true)(A:pe x g= .int L e)
 (Q:dU P t=c4 a) (O:dV P a=c4 z) (U:kB P a=c4 (v+1)) (W:lB (B.sz a) (cH P a) (dV P a)=true) (X:jj (dN (cv (D:=B.D) z))=true) (ad:B.up a (cv z)=c4 m) (w:gP (v+1) m e=c4 F):
 vF P B (.makeSlice t g o) x M a F []:=by
 obtain⟨I,C,rfl⟩:=SF w;obtain⟨S,af,ae,ag⟩:=qY W;obtain⟨Z,H⟩:=p.up a _ m ad;have K:e.toNat<=9223372036854775807:=by
  have:=ga e.toNat (l3 v);simp only[hS] at this;omega
 have N:(pv B (cv z)).cells.length=B.sz a:=by rw[H.cells.1,p.wid]
 have G:∀h c k l f j,(∀s,s∈(Op.makeSlice t g o).operands->PE (aU B f) s=pv B (pe x s))->nY P (aU B f) (av B j) ⟨h,.makeSlice t g o,c,k,l,c6⟩ a (B.sz a) (hB e.toNat (pv B (cv z))) (λq n=>.sl q n 0 e.toNat):=λh c k l f j d=>
  aax (by rw[d g (by simp[dd]),A];rfl) (by rw[d o (by simp[dd]),acz ac,A];rfl) I I Q S U (by omega) K O (DK B z).symm N (p.pos a) (by rw[l5];exact oK X)
 have y:∀c n,jB ⟨c,B.sz a,hB e.toNat (pv B (cv z)),n⟩ ⟨c,B.sz a,(hB e.toNat m).map (B.ty a).enc,n⟩:=λc n=>by
  refine jB.of (by simp) (λi ah b T C=>?_) λi aa d=>?_
  .have ab:=dT T;have J:=dT C;rw[oo] at J;rw[hQ ab,hQ J];exact H
  .have E:=dT d;rw[oo] at E;rw[hQ E];exact p.wid a m
 refine⟨λh c k l f j V=>?_,λh c k l f j q d _ u=>?_⟩
 .exact Pf (J5 (G h c k l f j λs w=>V.pe w) (by simp) λaa d=>by rw[hQ d];exact Z) (y 0 0)
 .have Y:=tu (sX u (G h c k l f j d)) (c9 u) (y a 1) (.refl _);exact qX Y (by unfold ek;rw[ee (c9 u)]) (by simp)
def NO(o:cU P B){f:En B.D}{h:Nat}:∀{b:List (Nat×Operand)} {i:Nat} {e:List (B.D h)},rn B f h i b=c4 e->
 e.length=b.length/\(∀k:En B.D,(∀p,p∈b->PE (aU B k) p.2=pv B (pe f p.2))->qn (aU B k) b (mY i (b.map λp=>pv B (pe f p.2))))/\
 (∀(c:Nat) (l g:PV),(b.map λp=>pv B (pe f p.2))[c]?=c4 l->(e.map (B.ty h).enc)[c]?=c4 g->Cc l g)/\∀j,j∈(b.map λp=>pv B (pe f p.2))->cE 0 j
 |[],i,e,a=>by
  simp only[rn,m4] at a;subst a;exact⟨rfl,λ_ _=>trivial,by simp,by simp⟩
 |p::b,i,e,a=>by
  simp only[rn] at a;obtain⟨A,a⟩:=a8 a
  split at a
  .rename_i u C y s;injection a with a
   subst a;obtain⟨x,v,z,t⟩:=NO o s;obtain⟨u1,u2⟩:=o.up h _ u y;refine⟨by simp[x],λk d=>⟨beq_eq A,d p (by simp),v k λq w=>d q (km _ w)⟩,λc l g n m=>?_,λj d=>?_⟩
   .cases c with
    |zero=>simp at n m;subst n;subst m;exact u2
    |succ c=>exact z c l g (by simpa using n) (by simpa using m)
   .rcases mb.1 d with rfl |d
    .exact u1
    .exact t j d
  .cases a
def Js:∀{l:List Value},Ax l=true->l.all (·.oneCell')=true
 |[],_=>rfl
 |v::l,a=>by
  simp only[Ax] at a;cases b:v.oneCell' with
  |false=>rw[b] at a;cases a
  |true=>rw[b] at a;simp[b,Js (l:=l) a]
def aaJ(j:cU P B){t n e:Nat}{ps:Array (Nat×Operand)}{E:En B.D}{H:List (Ob B.D)}{g:List (B.D n)}(K:dU P t=c4 n)(u:rn B E n 0 ps.toList=c4 g)(F:e4 (len g) e=true)
 (Q:lB (B.sz n) (cH P n) (dV P n)=true) (y:Ix (dV P n)=true) (D:hK (e*B.sz n) 16777216=true):vF P B (.buildSlice t e ps) E H n g []:=by
 obtain⟨L,zv,v,T⟩:=qY Q;obtain⟨W,M,z,I⟩:=NO j u;have V:g.length=e:=by rw[<-eu];exact beq_eq F
 rw[v] at y;have J:=Js y;have w:∀f,f∈(ps.toList.map λp=>pv B (pe E p.2))->∃a:B.D n,Cc f ((B.ty n).enc a):=λf b=>by
  obtain⟨o,A,rfl⟩:=ej b;have U:o<g.length:=by rw[dk] at A;omega
  exact⟨g[o],z o _ _ (c5 A) (by rw[e6,c5 U];rfl)⟩
 have x:∀d ty pos aft c h,(∀a,a∈(Op.buildSlice t e ps).operands->PE (aU B c) a=pv B (pe E a))->nY P (aU B c) (av B h) ⟨d,.buildSlice t e ps,ty,pos,aft,c6⟩ n (B.sz n) (ps.toList.map λp=>pv B (pe E p.2)) (λq k=>.sl q k 0 e):=λd ty pos aft c h b=>by
  have m:=Pn (P:=P) (E:=aU B c) (H:=av B h) (d:=d) (ty:=ty) (pos:=pos) (aft:=aft) (t:=t) (te:=n) (sz:=B.sz n) (n:=e) (zv:=zv) (ps:=ps.toList) (es:=ps.toList.map λp=>pv B (pe E p.2))
   (M c λp S=>b p.2 (by simp[dd];exact⟨p.1,hM.1 S⟩)) (by rw[dk];omega)
   (h7.2 λf b=>by
    obtain⟨a,l⟩:=w f b;rw[l.cells.1,j.wid,ajW l (j.one n a),k7];rfl)
   (λf b G O=>by
    obtain⟨a,l⟩:=w f b;subst O;exact j.xw n a G (ahf l)) K L v T J (j.pos n) (ei D)
  rw[j4] at m;exact m
 have C:∀ty k,jB ⟨ty,B.sz n,ps.toList.map λp=>pv B (pe E p.2),k⟩ ⟨ty,B.sz n,g.map (B.ty n).enc,k⟩:=λty k=>
  jB.of (by rw[dk,dk];omega) z λi f b=>by
   obtain⟨a,_,rfl⟩:=ng.1 (dT b);exact j.wid n a
 refine⟨λd ty pos aft c h N=>?_,λd ty pos aft c h q b _ s=>?_⟩
 .exact Pf (J5 (x d ty pos aft c h λa u=>N.pe u) (by rw[dk];omega) I) (C 0 0)
 .have m:=tu (sX s (x d ty pos aft c h b)) (c9 s) (C n 1) (.refl _);exact qX m (by unfold ek;rw[ee (c9 s)]) (by rw[dk];omega)
def aco(w:cU P B){t n b:Nat}{ps:Array (Nat×Operand)}{E:En B.D}{H:List (Ob B.D)}{i:cr B.D->Option R}(a:FK B E H n ps.toList b i=c4 r)(C:dU P t=c4 n)
 (G:lB (B.sz n) (cH P n) (dV P n)=true) (m:Ix (dV P n)=true) (s:hK (b*B.sz n) 16777216=true):∃g,i g=c4 r/\iZ H g/\gY P (.buildSlice t b ps) E H g:=by
 obtain⟨D,zv,h,J⟩:=qY G;rw[h] at m;have y:=Js m;unfold FK at a
 split at a
 .rename_i p l;obtain⟨h0,a⟩:=a8 a;obtain⟨I,a⟩:=a8 a;obtain⟨A,a⟩:=a8 a;obtain⟨z,a⟩:=a8 a;obtain⟨u,M⟩:=a8 a;obtain rfl:=beq_eq I;refine⟨_,M,xO,λd ty pos aft e k c=>?_⟩
  have o:PE (aU B e) p.2=pv B (pe E p.2):=c.pe (by simp[dd];exact⟨p.1,hM.1 (by rw[l];simp)⟩);have L:(pv B (pe E p.2)).cells.length=B.sz n:=by rw[nB,dk, <-eu];exact beq_eq A
  have F:nY P (aU B e) (av B k) ⟨d,.buildSlice t 1 ps,ty,pos,aft,c6⟩ n (B.sz n) [pv B (pe E p.2)] (λq N=>.sl q N 0 1):=by
   have a:=Pn (P:=P) (E:=aU B e) (H:=av B k) (d:=d) (ty:=ty) (pos:=pos) (aft:=aft) (t:=t) (te:=n) (sz:=B.sz n) (n:=1) (zv:=zv) (ps:=ps.toList) (es:=[pv B (pe E p.2)])
    (by rw[l];exact⟨beq_eq h0,o,trivial⟩) rfl
    (h7.2 λK f=>by
     rw[k0.1 f,L,l5,oK z,k7];rfl)
    (λK f x j=>by
     rw[k0.1 f] at j;exact zk u x j) C D h J y (w.pos n) (ei s)
   rw[j4] at a;exact a
  have a:=sX c.ov F;refine lI (qX a (by unfold ek;rw[ee (c9 c.ov)]) rfl) ?_
  rintro v O ⟨rfl,rfl⟩;exact⟨rfl,by rw[mc];rfl⟩
 .cases a
def M4{d:En B.D}:∀{c:List (Nat×Operand)} {b:List (Nat×List (TV B.D))},ul B d c=c4 b->b=c.map (λp=>(p.1,dN (pe d p.2)))/\∀p,p∈c->tF (pe d p.2)=true
 |[],b,a=>by simp[ul] at a;subst a;exact⟨rfl,by simp⟩
 |p::c,b,a=>by
  simp only[ul] at a;obtain⟨g,a⟩:=a8 a
  split at a
  .rename_i j h;injection a with a
   subst a;obtain⟨f,i⟩:=M4 h;refine⟨by rw[f];rfl,λq e=>?_⟩
   rcases mb.1 e with rfl |e
   .exact g
   .exact i q e
  .cases a
def Ko{c:En B.D}{place:Nat->Option (Nat×Nat)}{k:List (Nat×Nat)}(g:∀i p,nth k i=c4 p->place i=c4 p):∀{f:List (Nat×Operand)} {b d:List (TV B.D)},fill k b (f.map λp=>(p.1,dN (pe c p.2)))=c4 d->
 mE place (aP B b) (f.map λp=>(p.1,pv B (pe c p.2)))=c4 (aP B d)
 |[],b,d,a=>by simp[fill] at a;subst a;rfl
 |p::f,b,d,a=>by
  simp only[ma,fill] at a
  split at a
  .rename_i q size n;obtain⟨l,a⟩:=a8 a;obtain⟨j,a⟩:=a8 a;obtain⟨m,a⟩:=a8 a;have e:=beq_eq l;rw[eu] at e j;have h:=Ko g a;rw[Jh,e] at h;simp only[ma,mE,g _ _ n];have o:(pv B (pe c p.2)).cells=aP B (dN (pe c p.2)):=l5 _;rw[o,oK m];rw[show(aP B (dN (pe c p.2))).length=size by rw[db,dk];exact e,show(aP B b).length=b.length by rw[db,dk],j,k7];exact h
  .cases a
def RI{b:Nat}:∀{n i k:Nat} {p:Nat×Nat},nth (AA b n i) k=c4 p->p=((i+k)*b,b)
 |0,_,_,_,a=>by cases a
 |n+1,i,0,p,a=>by simp[AA,nth] at a;exact a.symm
 |n+1,i,k+1,p,a=>by
  have:=RI (n:=n) (i:=i+1) (k:=k) (p:=p) a;rw[this]
  congr 2
  omega
def agn{t:TypeId}{f:Array (Nat×Operand)}{E:En B.D}{H:List (Ob B.D)}{z:Array Value}{l:List (Nat×Nat)}{m:List (Nat×List (TV B.D))}{s:List (TV B.D)}(o:dV P t=c4 (.agg z))(a:placesOf P t=c4 l)
 (G:jj (rq (D:=B.D) z.toList)=true) (y:ul B E f.toList=c4 m) (k:fill l (rq z.toList) m=c4 s):fW P (.build t f) E H [] (.agg s):=by
 intro d ty pos aft h w K _;obtain⟨rfl,M⟩:=M4 y;have x:∀{e:List (Nat×Operand)},(∀p,p∈e->p∈f.toList)->qn (aU B h) e (e.map λp=>(p.1,pv B (pe E p.2))):=λ{e}=>by
  induction e with
  |nil=>intro _;trivial
  |cons p e L=>
   intro c;exact⟨rfl,K p.2 (by simp[dd];exact⟨p.1,hM.1 (c p (by simp))⟩),L λq F=>c q (km _ F)⟩
 have u:∀i v,(i,v)∈(f.toList.map λp=>(p.1,pv B (pe E p.2)))->∀g,v≠ .bu g:=λi v I g=>by
  obtain⟨p,b,j⟩:=ng.1 I;injection j with _ j
  rw[<-j];exact zk (M p b) g
 have n:(z.toList.map jq).all PV.one=true:=by rw[<-r8 B];exact oK G
 unfold placesOf at a
 split at a
 .rename_i Q A;injection a with a
  subst a;have c:=ahR (P:=P) (E:=aU B h) (H:=av B w) (d:=d) (ty:=ty) (pos:=pos) (aft:=aft) (gd:=c6) (t:=t) (zs:=z.toList) (by simpa using o) (r8 B _).symm (by rw[r8];exact n) A (x λp b=>b) u
   (Ko (λi p b=>by rw[cJ] at b;simpa using b) k)
  rw[j4] at c;exact c
 .split at a
  .rename_i O S C
   split at a
   .rename_i N J;injection a with a
    subst a;have c:=VH (P:=P) (E:=aU B h) (H:=av B w) (d:=d) (ty:=ty) (pos:=pos) (aft:=aft) (gd:=c6) (t:=t) (zs:=z.toList) (by simpa using o) (r8 B _).symm (by rw[r8];exact n) C J (x λp b=>b) u
     (Ko (λi p b=>by rw[RI b,gx]) k)
    rw[j4] at c;exact c
   .cases a
  .cases a
end
end Go.X
namespace Go.Bml
open Go
inductive Wf (f:Nat->Nat->Prop):PV->Prop
 |any:Wf f .any
 |bool (b:Bool):Wf f (.bool b)
 |int (k:IntKind) (m:Int):Wf f (.int k m)
 |str (s:ByteArray):Wf f (.str s)
 |fS:Wf f .fS
 |bg:Wf f .bg
 |z0:Wf f .z0
 |dB:Wf f .dB
 |dw (cs:List PV) (j:Nat):Wf f (.dw cs j)
 |vs (sz:Nat) (es:List PV):Wf f (.vs sz es)
 |ptr (r v i j:Nat) (h:f r v):Wf f (.ptr r v i j)
 |sl (r v off len:Nat) (h:f r v):Wf f (.sl r v off len)
 |fl (r v:Nat) (h:f r v):Wf f (.fl r v)
 |agg (cs:List PV) (h:∀c,c∈cs->Wf f c):Wf f (.agg cs)
 |bu (cs:List PV) (h:∀c,c∈cs->Wf f c):Wf f (.bu cs)
 |fn (g:Nat) (cs ds:List PV) (h:∀c,c∈cs->Wf f c) (h2:∀c,c∈ds->Wf f c):Wf f (.fn g cs ds)
section
variable {g g':Gh}{H H':List aO}{w w':World}
def qB{p:PV->Prop}{b:List PV}{c:List Value}(j:b.length=c.length)(h:∀(i:Nat) (a:PV) (e:Value),b[i]?=c4 a->c[i]?=c4 e->p a):∀a,a∈b->p a:=λa f=>by
 obtain⟨i,d,rfl⟩:=ej f;exact h i _ _ (c5 d) (c5 (by omega))
def VI.wf{F:Nat->Prop}{f:Nat->Nat->Prop}{c:PV}{x:Value}(h:VI F w c x):Wf f c:=by
 induction h with
 |any x=>exact .any
 |bool b=>exact .bool b
 |int k n=>exact .int k n
 |str s=>exact .str s
 |fS=>exact .fS
 |bg=>exact .bg
 |z0 a=>exact .z0
 |dB=>exact .dB
 |dw d A b off u C D t l e=>exact .dw d A
 |eX sz a cap=>exact .vs sz []
 |vs sz es b off cap u j C I D t l e=>exact .vs sz es
 |agg d m j l e=>exact .agg d (qB j e)
 |bu d m j l e=>exact .bu d (qB j e)
 |fn f d y m G j l o E e B=>exact .fn f d y (qB j e) (qB o B)
def VR.wf{c:PV}{x:Value}(h:VR g H w c x):Wf (λr v=>∃d,H[r]?=c4 d/\v<=d.aF) c:=by
 induction h with
 |aW h=>exact h.wf
 |ptr r v i u d a l e D=>exact .ptr r v i u ⟨d,l,e⟩
 |sl r v off len d x l e s A=>exact .sl r v off len ⟨d,l,e⟩
 |fl r v d x l e s A=>exact .fl r v ⟨d,l,e⟩
 |agg k n j e m=>exact .agg k (qB j m)
 |bu k n j e m=>exact .bu k (qB j m)
 |fn f k t n C j e o B m y=>exact .fn f k t (qB j m) (qB o y)
def VR.uz{f:Nat->Nat->Prop}(U:∀b,g.F b->g'.F b)(T:∀b,g.F b->w'.heap[b]?=w.heap[b]?)
 (K:∀r v l,f r v->H[r]?=c4 l->v<=l.aF->∃j,H'[r]?=c4 j/\v<=j.aF/\(v=j.aF->v=l.aF/\j.sz=l.sz/\j.es.length=l.es.length/\g'.β r=g.β r))
 {c:PV} {x:Value} (h:VR g H w c x) (n:Wf f c):VR g' H' w' c x:=by
 induction h with
 |aW h=>exact .aW (h.mono U T)
 |ptr r v i N l a B m R=>
  cases n with
  |ptr _ _ _ _ s=>
   obtain⟨j,C,y,E⟩:=K r v l s B m;refine .ptr r v i N j a C y λe=>?_
   obtain⟨J,I,o,G⟩:=E e;rw[I,o,G];exact R J
 |sl r v off len l x B m L k=>
  cases n with
  |sl _ _ _ _ s=>
   obtain⟨j,C,y,E⟩:=K r v l s B m;refine .sl r v off len j x C y L λe=>?_
   obtain⟨J,I,o,G⟩:=E e;exact(k J).step I o G
 |fl r v l x B m L k=>
  cases n with
  |fl _ _ s=>
   obtain⟨j,C,y,E⟩:=K r v l s B m;refine .fl r v j x C y L λe=>?_
   obtain⟨J,I,o,G⟩:=E e;rw[o];exact(k J).step I o G
 |agg u A t m F=>cases n with |agg _ D=>exact .agg u A t λi c x d k=>F i c x d k (D c (dT d))
 |bu u A t m F=>cases n with |bu _ D=>exact .bu u A t λi c x d k=>F i c x d k (D c (dT d))
 |fn f u M A S t m O V F Q=>
  cases n with
  |fn _ _ _ D P=>exact .fn f u M A S t (λi c x d k=>F i c x d k (D c (dT d))) O (λi c x d k=>Q i c x d k (P c (dT d)))
def VR.re{f:Nat->Nat->Prop}(j:∀b,g.F b->g'.F b)
 (e:∀r v d,f r v->H[r]?=c4 d->v<=d.aF->∃a,H'[r]?=c4 a/\v<=a.aF/\(v=a.aF->v=d.aF/\a.sz=d.sz/\a.es.length=d.es.length/\g'.β r=g.β r))
 {c:PV} {x:Value} (h:VR g H w c x) (k:Wf f c):VR g' H' w c x:=VR.uz j (λ_ _=>rfl) e h k
def dj(g:Gh)(a:Nat->Option Nat)(c:Nat->Prop):Gh:={F:=λb=>g.F b\/∃r d,c r/\g.β r=c4 (b,d),β:=λq=>(a q).bind g.β}
def bF.re(s:bF g H w){a:Nat->Option Nat}{fz:Nat->Prop}(Z:∀r,fz r->∀q,a q≠c4 r)(inj:∀q u r,a q=c4 r->a u=c4 r->q=u)(m8:∀q r,a q=c4 r->q<H'.length)
 (obj:∀q d,H'[q]?=c4 d->0<d.sz/\(∀(i:Nat) (e:PV),d.es[i]?=c4 e->e.cells.length=d.sz)/\(a q=c6->d.es=[])/\
  ∀r,a q=c4 r->∃l,H[r]?=c4 l/\d.ty=l.ty/\d.sz=l.sz/\d.es.length=l.es.length/\∀i n t,abk d.es i n=c4 t->∃c,abk l.es i n=c4 c/\∀o,VR g H w c o->VR (dj g a fz) H' w t o):
 bF (dj g a fz) H' w:=by
 have y:∀{q b C},(dj g a fz).β q=c4 (b,C)->∃r,a q=c4 r/\g.β r=c4 (b,C):=λ{q b C} h=>by
  show ∃r,a q=c4 r/\_
  have m:(a q).bind g.β=c4 (b,C):=h;cases k:a q with
  |none=>rw[k] at m;cases m
  |some r=>rw[k] at m;exact⟨r,rfl,m⟩
 refine⟨λb j=>?_,λq u b C F h m=>?_,λq b C h=>?_,λq d af=>?_⟩
 .rcases j with j |⟨r,C,_,j⟩
  .exact s.fb b j
  .exact s.qD j
 .obtain⟨r,A,M⟩:=y h;obtain⟨J,G,W⟩:=y m;obtain rfl:=s.inj r J b C F M W;exact inj q u r A G
 .obtain⟨r,A,_⟩:=y h;exact m8 q r A
 .obtain⟨U,R,Y,L⟩:=obj q d af;refine⟨U,R,?_⟩
  cases k:a q with
  |none=>
   have:(dj g a fz).β q=c6:=by show(a q).bind g.β=c6;rw[k];rfl
   rw[this];exact Y k
  |some r=>
   have E:(dj g a fz).β q=g.β r:=by show(a q).bind g.β=_;rw[k];rfl
   rw[E];obtain⟨l,S,ae,D,B,ac⟩:=L r k;have x:=(s.obj r l S).mem;cases j:g.β r with
   |none=>
    rw[j] at x;exact e5 (by rw[B,x];rfl)
   |some Q=>
    obtain⟨b,C⟩:=Q;rw[j] at x;obtain⟨ab,cells,ad,I,N,O,K⟩:=x;refine⟨?_,cells,by rw[ae];exact ad,by rw[D];exact I,N,by rw[B];exact O,λi n t T=>?_⟩
    .rintro(aa |⟨r2,C2,X,P⟩)
     .exact ab aa
     .obtain rfl:=s.inj r r2 b C C2 j P;exact Z _ X q k
    .obtain⟨c,V,ag⟩:=ac i n t T;obtain⟨o,u1,u2,u3⟩:=K i n c V;exact⟨o,by rw[D];exact u1,u2,ag o u3⟩
def GStep.re{n:Nat}{j:Nat->Option Nat}{fz:Nat->Prop}(m:∀r d,r<n->H[r]?=c4 d->∃a,H'[r]?=c4 a/\d.aF<=a.aF/\(a.aF=d.aF->j r=c4 r/\a.sz=d.sz/\a.es.length=d.es.length)):GStep n g H w (dj g j fz) H' w:=by
 refine⟨rfl,rfl,rfl,ef _,λ_ h=>.inl h,λ_ _=>rfl,λ_ _ _=>rfl,λb c=>?_,λq b C c=>?_,λr d x y=>?_⟩
 .rcases c with c |⟨r,C,_,c⟩
  .exact .inl c
  .exact .inr (.inr ⟨r,C,c⟩)
 .have k:(j q).bind g.β=c4 (b,C):=c;cases l:j q with
  |none=>rw[l] at k;cases k
  |some r=>rw[l] at k;exact .inr ⟨r,C,k⟩
 .obtain⟨a,s,A,B⟩:=m r d x y;refine⟨a,s,A,λe=>?_⟩
  obtain⟨u,t,o⟩:=B e;exact⟨t,o,by show(j r).bind g.β=_;rw[u];rfl⟩
end
end Go.Bml
