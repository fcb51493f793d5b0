/- For TopWays, part 1. -/
import Derived.WalkKit
import Derived.Maps.AppendAt
import Derived.Orders
import Derived.Deep.LoopGhost
import Derived.Laws.MakeOwn
import Derived.Laws.BytesArg
import Derived.Laws.StructEq
import Derived.Laws.Slices
set_option linter.defProp false
set_option linter.unusedVariables false
set_option linter.unusedSimpArgs false
open Decidable renaming decide → c3
open Option renaming some → c4, none → c6, bind_eq_some_iff → ec, bind_some → hU, map_none → ie, isSome_iff_exists → m6, map_some → o1
open List renaming getElem?_eq_getElem → c5, getElem?_eq_some_iff → c7, length_map → dk, getElem?_append_right → dt, getElem?_append_left → dv, mem_of_getElem? → dT, getElem?_take_of_lt → e0, eq_nil_of_length_eq_zero → e5, getElem?_map → e6, getElem?_drop → ea, getElem?_set_self → ee, getElem_of_mem → ej, getElem?_set_ne → ey, append_assoc → eE, length_append → eH, length_take → ft, getElem?_take → h6, all_eq_true → h7, getElem?_range → h9, replicate → hB, getElem?_eq_none → hI, eq_of_mem_replicate → hQ, take_of_length_le → hY, length_drop → j5, map_drop → j7, map_take → j8, mem_singleton → k0, size_toArray → kc, getElem?_toArray → kd, mem_cons_of_mem → km, length_nil → l0, extract_eq_take_drop → m0, flatMap_cons → m5, map_cons → ma, mem_cons → mb, length_cons → my, range → n2, mem_map → ng, nil_append → o2, length_set → o3, take_zero → o7, length_pos_iff → o9, map_replicate → oo, append_nil → q4, map_set → r0
open Go.Op renaming operands → dd, equalIn → j9, binOp → la, equal → mx, intArith → o4, call → o8, eqFields → q2
open Nat renaming beq → e4, le_refl → ef, le_of_ble_eq_true → ei, add_mul → eo, mul_le_mul_right → ev, le_mul_of_pos_right → ga, zero_add → gx, eq_of_beq_eq_true → h5, le_trans → hq, ble → hK, succ_eq_add_one → hS, one_mul → hX, add_assoc → j1, add_sub_cancel_left → k6, beq_refl → k7, add_zero → l1, mul_comm → l2, succ_pos → l3, lt_of_lt_of_le → l4, blt → m1, lt_or_ge → oq, mod_eq_of_lt → p0, lt_succ_self → p7, zero_le → pc, mul_add_mod → q3, mod_lt → q5, zero_mul → qq
open Go.Result renaming andThen_ok → ez
open Array renaming getElem?_toList → fe, length_toList → gy, mem_toList_iff → hM, getD_eq_getD_getElem? → j2, toArray_toList → j4, getElem?_eq_none → k8, size_append → oS
open Go.Sem renaming run_bind → gb, run_pure → hz
open Go.RowKit.Below renaming heap_alloc → gv
open Go.Addr renaming add_lit → h8
open Go.Instr renaming sureAddr → hD, sliceBounds → j3, sliceAt → j6, sliceBound → kh, fill → kl, slice → m3, loadAt → n1, indexAt → oi, buildSlice → p6, fieldAt → q7, field → r3
open Go.Builtin renaming append_ → hL, zeroCells → m2
open Go.Call renaming operands → hP
open Go.Region renaming wanted → ih
open Option.some renaming injEq → m4
open Go.Oper renaming wp → n0
open Go.Value renaming cells → o6, ownBlock → q6
open Bool renaming false_eq_true → oj, and_eq_true → p4
open Go.Program renaming built → q8
open Go.Exit renaming inBlock → qa
open Ne renaming symm → qb
open Go.Act renaming put → r4
namespace Go.Aml
open Go
def qQ{a d:Type}{e:Option a}{b:a->Option d}{r:d}(f:e.bind b=c4 r):∃c,e=c4 c/\b c=c4 r:=ec.1 f
def aj{a:Type}(b:List a)(i:Int):Option a:=if 0<=i then b[i.toNat]? else c6
def xd{b:Type}{d:List b}{i:Int}{c:b}(a:aj d i=c4 c):i=(i.toNat:Int)/\d[i.toNat]?=c4 c:=by
 unfold aj at a
 split at a
 .exact⟨by omega,a⟩
 .cases a
def eG{c:Type}(d:List c)(a b:Int):Option (List c):=if 0<=a/\a<=b/\b<=(d.length:Int) then c4 ((d.take b.toNat).drop a.toNat) else c6
def Kt{e:Type}{l:List e}{a b:Int}{d:List e}(h:eG l a b=c4 d):0<=a/\a<=b/\b<=(l.length:Int)/\(l.take b.toNat).drop a.toNat=d:=by
 unfold eG at h
 split at h
 .rename_i c;exact⟨c.1,c.2.1,c.2.2,by injection h⟩
 .cases h
def ph(c:IntKind)(a b:Int):Option Int:=if b=0 then c6 else c4 (c.wrap (a.tdiv b))
def agK{d:IntKind}{c b r:Int}(a:ph d c b=c4 r):b≠0/\d.wrap (c.tdiv b)=r:=by
 unfold ph at a
 split at a
 .cases a
 .rename_i e;exact⟨e,by injection a⟩
def nG(a b:Int):Option Int:=if b=0 then c6 else c4 (a.tmod b)
def Yg{c b r:Int}(a:nG c b=c4 r):b≠0/\c.tmod b=r:=by
 unfold nG at a
 split at a
 .cases a
 .rename_i d;exact⟨d,by injection a⟩
def uU(a:IntKind)(c b:Int):Option Int:=if 0<=b then c4 (a.wrap (c*2^ (min b.toNat a.bits))) else c6
def alN{c:IntKind}{d b r:Int}(a:uU c d b=c4 r):0<=b/\c.wrap (d*2^ (min b.toNat c.bits))=r:=by
 unfold uU at a
 split at a
 .rename_i e;exact⟨e,by injection a⟩
 .cases a
def iN(c:IntKind)(a b:Int):Option Int:=if 0<=b then c4 (a.fdiv (2^ (min b.toNat c.bits))) else c6
def adR{d:IntKind}{c b r:Int}(a:iN d c b=c4 r):0<=b/\c.fdiv (2^ (min b.toNat d.bits))=r:=by
 unfold iN at a
 split at a
 .rename_i e;exact⟨e,by injection a⟩
 .cases a
def bj{b:Type}(d:Nat)(c a:List b):Option (List b):=if(c.length+a.length)*d<=140737488355328 then c4 (c++a) else c6
def AN{f:Type}{e:Nat}{c b d:List f}(a:bj e c b=c4 d):(c.length+b.length)*e<=140737488355328/\c++b=d:=by
 unfold bj at a
 split at a
 .rename_i g;exact⟨g,by injection a⟩
 .cases a
def gP{b:Type}(c:Nat)(z:b)(a:Int):Option (List b):=if 0<=a/\a.toNat*c<=140737488355328 then c4 (hB a.toNat z) else c6
def SF{c:Type}{e:Nat}{z:c}{a:Int}{d:List c}(b:gP e z a=c4 d):a=(a.toNat:Int)/\a.toNat*e<=140737488355328/\hB a.toNat z=d:=by
 unfold gP at b
 split at b
 .rename_i f;exact⟨by omega,f.2,by injection b⟩
 .cases b
def fY{a b:Type}(f:a->Option (a⊕b)):Nat->a->Option b
 |0,_=>c6
 |c+1,e=>(f e).bind λd=>d.elim (fY f c) c4
def RC{c g:Type}{f:c->Option (c⊕g)}:∀{n:Nat} {d:c} {b:g},fY f n d=c4 b->fY f (n+1) d=c4 b
 |0,_,_,a=>by simp[fY] at a
 |n+1,d,b,a=>by
  unfold fY at a⊢;obtain⟨i,h,e⟩:=qQ a;rw[h];cases i with
  |inl k=>exact RC (n:=n) e
  |inr j=>exact e
def Sn{a d:Type}{f:a->Option (a⊕d)}{c g:Nat}{e:a}{b:d}(j:fY f c e=c4 b)(h:c<=g):fY f g e=c4 b:=by
 induction h with
 |refl=>exact j
 |step _ i=>exact RC i
noncomputable def bO{a b:Type}(f:a->Option (a⊕b))(c:a):Option b:=
 open Classical in if e:∃d,(fY f d c).isSome then fY f e.choose c else c6
def Cd{c h:Type}{f:c->Option (c⊕h)}{n:Nat}{d:c}{b:h}(i:fY f n d=c4 b):bO f d=c4 b:=by
 have a:∃n,(fY f n d).isSome:=⟨n,by rw[i];rfl⟩;unfold bO;rw[dif_pos a];obtain⟨k,e⟩:=m6.1 a.choose_spec;rw[e];have j:=Sn i (Nat.le_max_left n a.choose);have g:=Sn e (Nat.le_max_right n a.choose);rw[j] at g;exact g.symm
def zR{c d:Type}{f:c->Option (c⊕d)}{e:c}{b:d}(a:bO f e=c4 b):∃g,fY f g e=c4 b:=by
 unfold bO at a
 split at a
 .exact⟨_,a⟩
 .cases a
def Qk{i m:Type}(f:i->Option (i⊕m))(e:i):bO f e=(f e).bind λa=>a.elim (bO f) c4:=by
 have k:∀b,bO f e=c4 b↔((f e).bind λa=>a.elim (bO f) c4)=c4 b:=by
  intro b
  constructor
  .intro d;obtain⟨n,g⟩:=zR d;cases n with
   |zero=>simp[fY] at g
   |succ n=>
    unfold fY at g;obtain⟨a,h,c⟩:=qQ g;rw[h];cases a with
    |inl j=>exact Cd (n:=n) c
    |inr l=>exact c
  .intro d;obtain⟨a,h,c⟩:=qQ d;cases a with
   |inl j=>
    obtain⟨n,g⟩:=zR (show bO f j=c4 b from c);refine Cd (n:=n+1) ?_
    unfold fY;rw[h];exact g
   |inr l=>
    refine Cd (n:=1) ?_
    unfold fY;rw[h];exact c
 cases d:bO f e with
 |none=>
  cases c:(f e).bind λa=>a.elim (bO f) c4 with
  |none=>rfl
  |some b=>rw[(k b).2 c] at d;cases d
 |some b=>exact((k b).1 d).symm
structure Lp where
 loop:{α β:Type}->(α->Option (α⊕β))->α->Option β
 ok:∀{α β:Type} (f:α->Option (α⊕β)) (a:α) (b:β),loop f a=c4 b->∃n,fY f n a=c4 b
@[reducible] noncomputable def LC:Lp:=⟨bO,λ_ _ _ a=>zR a⟩
@[reducible] def LN(a:Nat):Lp:=⟨λf c=>fY f a c,λ_ _ _ b=>⟨a,b⟩⟩
end Go.Aml
namespace Go.Bml
open Go
inductive PV:Type where
 |any
 |bool (b:Bool)
 |int (k:IntKind) (n:Int)
 |str (s:ByteArray)
 |fS
 |ptr (r v i j:Nat)
 |dw (cs:List PV) (j:Nat)
 |bg
 |z0
 |vs (sz:Nat) (es:List PV)
 |sl (r v off len:Nat)
 |fl (r v:Nat)
 |agg (cs:List PV)
 |bu (vs:List PV)
 |fn (f:Nat) (first cap:List PV)
 |dB
 deriving Inhabited
def PV.cells:PV->List PV
 | .agg a=>a
 |v=>[v]
def abk(c:List PV)(i a:Nat):Option PV:=(c[i]?).bind λb=>b.cells[a]?
structure aO where
 ty:Nat
 sz:Nat
 es:List PV
 aF:Nat
structure Gh where
 F:Nat->Prop
 β:Nat->Option (Nat×Nat)
inductive VI (F:Nat->Prop) (w:World):PV->Value->Prop
 |any (x:Value):VI F w .any x
 |bool (b:Bool):VI F w (.bool b) (.bool b)
 |int (k:IntKind) (n:Int):VI F w (.int k n) (.int k n)
 |str (s:ByteArray):VI F w (.str s) (.string s)
 |fS:VI F w .fS (.pointer c6)
 |bg:VI F w .bg (.slice c6 0 0)
 |z0 (a:Option Addr):VI F w .z0 (.slice a 0 0)
 |dB:VI F w .dB .nilFunc
 |dw (cs:List PV) (j b off:Nat) (u:Nat->Value) (hF:F b)
  (hc:∀(i:Nat) (c:PV),cs[i]?=c4 c->w.cell? ⟨b,off+i,c6⟩=c4 (u i))
  (h1:∀(i:Nat) (c:PV),cs[i]?=c4 c->(u i).oneCell'=true)
  (hv:∀(i:Nat) (c:PV),cs[i]?=c4 c->VI F w c (u i)):VI F w (.dw cs j) (.pointer (c4 ⟨b,off+j,c6⟩))
 |eX (sz:Nat) (a:Option Addr) (cap:Nat):VI F w (.vs sz []) (.slice a 0 cap)
 |vs (sz:Nat) (es:List PV) (b off cap:Nat) (u:Nat->Nat->Value) (hl:es.length<=cap) (hF:F b)
  (hsz:∀(i:Nat) (e:PV),es[i]?=c4 e->e.cells.length=sz)
  (hc:∀(i j:Nat) (c:PV),abk es i j=c4 c->w.cell? ⟨b,off+(i*sz+j),c6⟩=c4 (u i j))
  (h1:∀(i j:Nat) (c:PV),abk es i j=c4 c->(u i j).oneCell'=true)
  (hv:∀(i j:Nat) (c:PV),abk es i j=c4 c->VI F w c (u i j)):VI F w (.vs sz es) (.slice (c4 ⟨b,off,c6⟩) es.length cap)
 |agg (cs:List PV) (xs:List Value) (hl:cs.length=xs.length) (hv:∀(i:Nat) (c:PV) (x:Value),cs[i]?=c4 c->xs[i]?=c4 x->VI F w c x):VI F w (.agg cs) (.agg xs.toArray)
 |bu (cs:List PV) (xs:List Value) (hl:cs.length=xs.length) (hv:∀(i:Nat) (c:PV) (x:Value),cs[i]?=c4 c->xs[i]?=c4 x->VI F w c x):VI F w (.bu cs) (.tuple xs.toArray)
 |fn (f:Nat) (cs ds:List PV) (xs ys:List Value) (hl:cs.length=xs.length) (hv:∀(i:Nat) (c:PV) (x:Value),cs[i]?=c4 c->xs[i]?=c4 x->VI F w c x)
  (hl2:ds.length=ys.length) (hv2:∀(i:Nat) (c:PV) (x:Value),ds[i]?=c4 c->ys[i]?=c4 x->VI F w c x):VI F w (.fn f cs ds) (.func (.func f) xs.toArray ys.toArray)
def SL(g:Gh)(e:aO)(r c len:Nat)(d:Value):Prop:=
 c+len<=e.es.length/\
 match g.β r with
 |none=>c=0/\len=0/\∃a,d= .slice a 0 0
 |some (b,f)=>∃cap a,d= .slice a len cap/\len<=cap/\(len≠0->a=c4 ⟨b,c*e.sz,c6⟩)/\(c=0->a=c4 ⟨b,0,c6⟩/\cap=f)
inductive VR (g:Gh) (H:List aO) (w:World):PV->Value->Prop
 |aW {c:PV} {x:Value} (h:VI g.F w c x):VR g H w c x
 |ptr (r v i j:Nat) (o:aO) (a:Addr) (ho:H[r]?=c4 o) (hv:v<=o.aF)
  (ha:v=o.aF->i<o.es.length/\∃b C,g.β r=c4 (b,C)/\a=⟨b,i*o.sz+j,c6⟩):VR g H w (.ptr r v i j) (.pointer (c4 a))
 |sl (r v off len:Nat) (o:aO) (x:Value) (ho:H[r]?=c4 o) (hv:v<=o.aF) (h1:x.oneCell'=true) (hx:v=o.aF->SL g o r off len x):VR g H w (.sl r v off len) x
 |fl (r v:Nat) (o:aO) (x:Value) (ho:H[r]?=c4 o) (hv:v<=o.aF) (h1:x.oneCell'=true) (hx:v=o.aF->SL g o r 0 o.es.length x):VR g H w (.fl r v) x
 |agg (cs:List PV) (xs:List Value) (hl:cs.length=xs.length) (hv:∀(i:Nat) (c:PV) (x:Value),cs[i]?=c4 c->xs[i]?=c4 x->VR g H w c x):VR g H w (.agg cs) (.agg xs.toArray)
 |bu (cs:List PV) (xs:List Value) (hl:cs.length=xs.length) (hv:∀(i:Nat) (c:PV) (x:Value),cs[i]?=c4 c->xs[i]?=c4 x->VR g H w c x):VR g H w (.bu cs) (.tuple xs.toArray)
 |fn (f:Nat) (cs ds:List PV) (xs ys:List Value) (hl:cs.length=xs.length) (hv:∀(i:Nat) (c:PV) (x:Value),cs[i]?=c4 c->xs[i]?=c4 x->VR g H w c x)
  (hl2:ds.length=ys.length) (hv2:∀(i:Nat) (c:PV) (x:Value),ds[i]?=c4 c->ys[i]?=c4 x->VR g H w c x):VR g H w (.fn f cs ds) (.func (.func f) xs.toArray ys.toArray)
inductive cE (n:Nat):PV->Prop
 |any:cE n .any
 |bool (b:Bool):cE n (.bool b)
 |int (k:IntKind) (m:Int):cE n (.int k m)
 |str (s:ByteArray):cE n (.str s)
 |fS:cE n .fS
 |bg:cE n .bg
 |z0:cE n .z0
 |dB:cE n .dB
 |dw (cs:List PV) (j:Nat):cE n (.dw cs j)
 |vs (sz:Nat) (es:List PV):cE n (.vs sz es)
 |ptr (r v i j:Nat) (h:r<n):cE n (.ptr r v i j)
 |sl (r v off len:Nat) (h:r<n):cE n (.sl r v off len)
 |fl (r v:Nat) (h:r<n):cE n (.fl r v)
 |agg (cs:List PV) (h:∀c,c∈cs->cE n c):cE n (.agg cs)
 |bu (cs:List PV) (h:∀c,c∈cs->cE n c):cE n (.bu cs)
 |fn (f:Nat) (cs ds:List PV) (h:∀c,c∈cs->cE n c) (h2:∀c,c∈ds->cE n c):cE n (.fn f cs ds)
structure qT (g:Gh) (H:List aO) (w:World) (r:Nat) (o:aO):Prop where
 pos:0<o.sz
 width:∀(i:Nat) (e:PV),o.es[i]?=c4 e->e.cells.length=o.sz
 mem:match g.β r with
  |none=>o.es=[]
  |some (b,C)=>¬g.F b/\∃cells,w.heap[b]?=c4 (.cells cells o.ty (0,0))/\cells.size=C*o.sz/\C<=maxLen/\o.es.length<=C/\
   ∀(i j:Nat) (c:PV),abk o.es i j=c4 c->∃u,cells[i*o.sz+j]?=c4 u/\u.oneCell'=true/\VR g H w c u
structure bF (g:Gh) (H:List aO) (w:World):Prop where
 fb:∀b,g.F b->b<w.heap.size
 inj:∀r r' b C C',g.β r=c4 (b,C)->g.β r'=c4 (b,C')->r=r'
 m8:∀r b C,g.β r=c4 (b,C)->r<H.length
 obj:∀r o,H[r]?=c4 o->qT g H w r o
abbrev Env:=List (Nat×PV)
def look:Env->Nat->PV
 |[],_=>.any
 |(b,v)::r,a=>bif e4 b a then v else look r a
def jq:Value->PV
 | .bool b=>.bool b
 | .int d a=>.int d a
 | .string c=>.str c
 | .pointer c6=>.fS
 | .slice c6 0 0=>.bg
 | .nilFunc=>.dB
 |_=>.any
def kP:Value->PV
 | .agg a=>.agg (a.toList.map jq)
 |v=>jq v
def PE(b:Env):Operand->PV
 | .tmp a=>look b a
 | .const v=>kP v
 | .global _=>.any
 | .func f=>.fn f [] []
structure fI (g:Gh) (H:List aO) (w:World) (nt:Nat) (E:Env) (a:Act):Prop where
 defers:a.defers=[]
 size:a.tmps.size=nt
 at_:∀t,VR g H w (look E t) (a.tmps.getD t undef)
structure Rel (g:Gh) (nt:Nat) (E:Env) (H:List aO) (a:Act) (w:World):Prop where
 m:bF g H w
 e:fI g H w nt E a
structure GStep (n:Nat) (g:Gh) (H:List aO) (w:World) (g':Gh) (H':List aO) (w':World):Prop where
 os:w'.os=w.os
 tape:w'.tape=w.tape
 output:w'.output=w.output
 size:w.heap.size<=w'.heap.size
 F:∀b,g.F b->g'.F b
 jh:∀b,g.F b->w'.heap[b]?=w.heap[b]?
 rest:∀b,b<w.heap.size->(∀r C,g.β r≠c4 (b,C))->w'.heap[b]?=w.heap[b]?
 oY:∀b,g'.F b->g.F b\/w.heap.size<=b\/∃r C,g.β r=c4 (b,C)
 oZ:∀r b C,g'.β r=c4 (b,C)->w.heap.size<=b\/∃r' C',g.β r'=c4 (b,C')
 dF:∀r o,r<n->H[r]?=c4 o->∃o',H'[r]?=c4 o'/\o.aF<=o'.aF/\(o'.aF=o.aF->o'.sz=o.sz/\o'.es.length=o.es.length/\g'.β r=g.β r)
def GStep.refl(n:Nat)(g:Gh)(H:List aO)(a:World):GStep n g H a g H a:=
 ⟨rfl,rfl,rfl,ef _,λ_ h=>h,λ_ _=>rfl,λ_ _ _=>rfl,λ_ h=>.inl h,λr _ C h=>.inr ⟨r,C,h⟩,λ_ c _ h=>⟨c,h,ef _,λ_=>⟨rfl,rfl,rfl⟩⟩⟩
def GStep.trans{n:Nat}{g o A:Gh}{H j t:List aO}{w w' x:World}(h:GStep n g H w o j w')(k:GStep n o j w' A t x):GStep n g H w A t x:=by
 refine⟨k.os.trans h.os,k.tape.trans h.tape,k.output.trans h.output,hq h.size k.size,λb c=>k.F b (h.F b c),λb c=>(k.jh b (h.F b c)).trans (h.jh b c),λb c u=>?_,λb c=>?_,λr b C c=>?_,?_⟩
 .refine(k.rest b (l4 c h.size) λr C F=>?_).trans (h.rest b c u)
  rcases h.oZ r b C F with a |⟨m,e,a⟩
  .omega
  .exact u _ _ a
 .rcases k.oY b c with a |a |⟨r,C,a⟩
  .exact h.oY b a
  .exact .inr (.inl (hq h.size a))
  .exact .inr (h.oZ r b C a)
 .rcases k.oZ r b C c with a |⟨m,e,a⟩
  .exact .inl (hq h.size a)
  .exact h.oZ m b e a
 intro r l y O;obtain⟨d,Q,E,J⟩:=h.dF r l y O;obtain⟨s,B,M,L⟩:=k.dF r d y Q;refine⟨s,B,hq E M,λhe=>?_⟩
 have D:d.aF=l.aF:=by omega
 have K:s.aF=d.aF:=by omega
 obtain⟨a1,R,N⟩:=J D;obtain⟨I,G,P⟩:=L K;exact⟨I.trans a1,G.trans R,P.trans N⟩
def GStep.less{n m:Nat}{g d:Gh}{H c:List aO}{a w':World}(h:GStep n g H a d c w')(l:m<=n):GStep m g H a d c w':=
 ⟨h.os,h.tape,h.output,h.size,h.F,h.jh,h.rest,h.oY,h.oZ,λr j k e=>h.dF r j (by omega) e⟩
def GStep.every{n:Nat}{g e:Gh}{H d:List aO}{a w':World}(h:GStep H.length g H a e d w'):GStep n g H a e d w':=
 ⟨h.os,h.tape,h.output,h.size,h.F,h.jh,h.rest,h.oY,h.oZ,λr j _ c=>h.dF r j (c7.1 c).1 c⟩
def oW{f:Nat->Prop}{e d:World}(g:∀b,f b->d.heap[b]?=e.heap[b]?){b c:Nat}(h:f b):d.cell? ⟨b,c,c6⟩=e.cell? ⟨b,c,c6⟩:=
 World.cell?_of_block (a:=⟨b,c,c6⟩) (g b h)
def VI.mono{F C:Nat->Prop}{w E:World}(B:∀b,F b->C b)(D:∀b,F b->E.heap[b]?=w.heap[b]?){c:PV}{x:Value}(h:VI F w c x):VI C E c x:=by
 induction h with
 |any x=>exact .any x
 |bool b=>exact .bool b
 |int k n=>exact .int k n
 |str s=>exact .str s
 |fS=>exact .fS
 |bg=>exact .bg
 |z0 a=>exact .z0 a
 |dB=>exact .dB
 |dw e y b off u l t A o d=>exact .dw e y b off u (B b l) (λi c hi=>(oW D l).trans (t i c hi)) A d
 |eX sz a cap=>exact .eX sz a cap
 |vs sz es b off cap u j l K t A o d=>exact .vs sz es b off cap u j (B b l) K (λi y c hi=>(oW D l).trans (t i y c hi)) A d
 |agg e m j o d=>exact .agg e m j d
 |bu e m j o d=>exact .bu e m j d
 |fn f e H m J j o G L d I=>exact .fn f e H m J j d G I
def SL.step{g d:Gh}{c a:aO}{r off len:Nat}{x:Value}(h:SL g c r off len x)(k:a.sz=c.sz)(j:a.es.length=c.es.length)(e:d.β r=g.β r):SL d a r off len x:=by
 unfold SL at*;rw[k,j,e];exact h
def VR.step{n:Nat}{g g':Gh}{H N:List aO}{w O:World}(E:GStep n g H w g' N O){c:PV}{x:Value}(h:VR g H w c x)(o:cE n c):VR g' N O c x:=by
 induction h with
 |aW h=>exact .aW (h.mono E.F E.jh)
 |ptr r v i U l a G k X=>
  cases o with
  |ptr _ _ _ _ K=>
   obtain⟨m,L,F,u⟩:=E.dF r l K G;refine .ptr r v i U m a L (hq k F) λe=>?_
   have R:m.aF=l.aF:=by omega
   obtain⟨J,A,I⟩:=u R;obtain⟨hi,b,C,P,rfl⟩:=X (by omega);exact⟨by omega,b,C,I.trans P,by rw[J]⟩
 |sl r v off len l x G k M d=>
  cases o with
  |sl _ _ _ _ K=>
   obtain⟨m,L,F,u⟩:=E.dF r l K G;refine .sl r v off len m x L (hq k F) M λe=>?_
   obtain⟨J,A,I⟩:=u (by omega);exact(d (by omega)).step J A I
 |fl r v l x G k M d=>
  cases o with
  |fl _ _ K=>
   obtain⟨m,L,F,u⟩:=E.dF r l K G;refine .fl r v m x L (hq k F) M λe=>?_
   obtain⟨J,A,I⟩:=u (by omega);rw[A];exact(d (by omega)).step J A I
 |agg s t y k D=>
  cases o with
  |agg _ B=>exact .agg s t y λi c x j d=>D i c x j d (B c (dT j))
 |bu s t y k D=>
  cases o with
  |bu _ B=>exact .bu s t y λi c x j d=>D i c x j d (B c (dT j))
 |fn f s S t V y k Q Y D T=>
  cases o with
  |fn _ _ _ B W=>exact .fn f s S t V y (λi c x j d=>D i c x j d (B c (dT j))) Q (λi c x j d=>T i c x j d (W c (dT j)))
def VR.ltN{g:Gh}{H:List aO}{w:World}{c:PV}{x:Value}(h:VR g H w c x):cE H.length c:=by
 induction h with
 |aW h=>
  induction h with
  |any x=>exact .any
  |bool b=>exact .bool b
  |int k n=>exact .int k n
  |str s=>exact .str s
  |fS=>exact .fS
  |bg=>exact .bg
  |z0 a=>exact .z0
  |dB=>exact .dB
  |dw e A b off I D d B l j=>exact .dw e A
  |eX sz a cap=>exact .vs sz []
  |vs sz es b off cap I m D L d B l j=>exact .vs sz es
  |agg e o m l j=>
   refine .agg e λc d=>?_
   obtain⟨i,hi,rfl⟩:=ej d;exact j i _ _ (c5 hi) (c5 (by omega))
  |bu e o m l j=>
   refine .bu e λc d=>?_
   obtain⟨i,hi,rfl⟩:=ej d;exact j i _ _ (c5 hi) (c5 (by omega))
  |fn f e u o J m l E G j y=>
   refine .fn f e u (λc d=>?_) (λc d=>?_)
   .obtain⟨i,hi,rfl⟩:=ej d;exact j i _ _ (c5 hi) (c5 (by omega))
   .obtain⟨i,hi,rfl⟩:=ej d;exact y i _ _ (c5 hi) (c5 (by omega))
 |ptr r v i A C a t l K=>exact .ptr r v i A (c7.1 t).1
 |sl r v off len C x t l B F=>exact .sl r v off len (c7.1 t).1
 |fl r v C x t l B F=>exact .fl r v (c7.1 t).1
 |agg e o m l j=>
  refine .agg e λc d=>?_
  obtain⟨i,hi,rfl⟩:=ej d;exact j i _ _ (c5 hi) (c5 (by omega))
 |bu e o m l j=>
  refine .bu e λc d=>?_
  obtain⟨i,hi,rfl⟩:=ej d;exact j i _ _ (c5 hi) (c5 (by omega))
 |fn f e u o J m l E G j y=>
  refine .fn f e u (λc d=>?_) (λc d=>?_)
  .obtain⟨i,hi,rfl⟩:=ej d;exact j i _ _ (c5 hi) (c5 (by omega))
  .obtain⟨i,hi,rfl⟩:=ej d;exact y i _ _ (c5 hi) (c5 (by omega))
def VR.nZ{g g':Gh}{H a:List aO}{w d:World}(e:GStep H.length g H w g' a d){c:PV}{x:Value}(h:VR g H w c x):VR g' a d c x:=h.step e h.ltN
def fI.step{g k:Gh}{H j:List aO}{e c:World}{d:Nat}{E:Env}{a:Act}(l:GStep H.length g H e k j c)(h:fI g H e d E a):fI k j c d E a:=
 ⟨h.defers,h.size,λt=>(h.at_ t).nZ l⟩
def VR.any{g:Gh}{H:List aO}{w:World}(x:Value):VR g H w .any x:=.aW (.any x)
def KQ(a:Nat->Prop)(b:World)(v:Value):VI a b (jq v) v:=by
 unfold jq
 split <;> first |exact .bool _ |exact .int _ _ |exact .str _ |exact .fS |exact .bg |exact .dB |exact .any _
def AE(F:Nat->Prop)(w:World)(v:Value):VI F w (kP v) v:=by
 unfold kP
 split
 .rename_i b;have:=VI.agg (F:=F) (w:=w) (b.toList.map jq) b.toList (by simp) (λi e c a d=>by
   rw[e6,d] at a;simp at a;subst a;exact KQ F w c)
  simpa using this
 .exact KQ F w v
def fI.eval{g:Gh}{H:List aO}{c:World}{d:Nat}{E:Env}{a:Act}(h:fI g H c d E a)(x:Operand):VR g H c (PE E x) (a.eval x):=by
 cases x with
 |tmp t=>exact h.at_ t
 |const v=>exact .aW (AE _ _ _)
 |global b=>exact .any _
 |func f=>exact .aW (.fn f [] [] [] [] rfl (λ_ _ _ h=>by simp at h) rfl (λ_ _ _ h=>by simp at h))
def ni(a:Nat)(v:PV)(b:Env):look ((a,v)::b) a=v:=by simp[look]
def Ar{b a:Nat}(v:PV)(c:Env)(e:b≠a):look ((b,v)::c) a=look c a:=by
 have:e4 b a=false:=by
  cases d:e4 b a with
  |false=>rfl
  |true=>exact absurd (h5 d) e
 simp[look,this]
def fI.put{g:Gh}{H:List aO}{e:World}{c:Nat}{E:Env}{a:Act}(h:fI g H e c E a){d:Nat}(l:d<c){v:PV}{x:Value}(k:VR g H e v x):fI g H e c ((d,v)::E) (a.put (c4 d) x):=by
 refine⟨h.defers,by simp[r4,h.size],λt=>?_⟩
 by_cases ht:d=t
 .subst ht;rw[ni];have j:d<a.tmps.size:=by rw[h.size];exact l
  simpa[r4,j] using k
 .rw[Ar v E ht];have:=h.at_ t;simpa[r4,Array.getElem?_setIfInBounds_ne ht] using this
def li(a:Env):Option Nat->PV->Env
 |some b,v=>(b,v)::a
 |none,_=>a
def fL(a:Nat):Option Nat->Bool
 |some b=>m1 b a
 |none=>true
def fI.tn{g:Gh}{H:List aO}{e:World}{c:Nat}{E:Env}{a:Act}(h:fI g H e c E a){d:Option Nat}(j:fL c d=true){v:PV}{x:Value}(k:VR g H e v x):fI g H e c (li E d v) (a.put d x):=by
 cases d with
 |none=>exact h
 |some d=>exact h.put (by simpa[fL] using j) k
def vo:Env->Env->Prop
 |[],_=>True
 |(b,v)::r,a=>look a b=v/\vo r a
def vo.look{a E:Env}(h:vo a E)(t:Nat):look a t= .any\/look a t=look E t:=by
 induction a with
 |nil=>exact .inl rfl
 |cons p r e=>
  obtain⟨d,v⟩:=p
  by_cases c:d=t
  .subst c;rw[ni];exact .inr h.1.symm
  .rw[Ar v r c];exact e h.2
def fI.sub{g:Gh}{H:List aO}{j:World}{c:Nat}{E d:Env}{a:Act}(h:fI g H j c E a)(k:vo d E):fI g H j c d a:=
 ⟨h.defers,h.size,λt=>by
  rcases k.look t with e |e
  .rw[e];exact .any _
  .rw[e];exact h.at_ t⟩
abbrev qk:=Env->List aO->Prop
abbrev fE:=Exit->qk
def iX(nt n:Nat)(e:Gh)(H0:List aO)(b:World)(d:qk)(c:Act)(a:World):Prop:=
 ∃E H g,d E H/\Rel g nt E H c a/\GStep n e H0 b g H a
def eI(nt n:Nat)(d:Gh)(H0:List aO)(c:World)(Q:fE):Exit->Act->World->Prop
 | .panic _,_,_=>False
 | .outgrown,_,_=>False
 | .normal,b,a=>iX nt n d H0 c (Q .normal) b a
 | .ret,b,a=>iX nt n d H0 c (Q .ret) b a
 | .exit e,b,a=>iX nt n d H0 c (Q (.exit e)) b a
 | .goto f,b,a=>iX nt n d H0 c (Q (.goto f)) b a
def iX.trans{nt n:Nat}{l c:Gh}{H0 H1:List aO}{e j:World}{k:qk}{a:Act}{d:World}(t:GStep n l H0 e c H1 j)(h:iX nt n c H1 j k a d):iX nt n l H0 e k a d:=by
 obtain⟨E,H,g,m,o,s⟩:=h;exact⟨E,H,g,m,o,t.trans s⟩
def eI.trans{nt n:Nat}{l c:Gh}{H0 H1:List aO}{j k:World}{Q:fE}{e:Exit}{a:Act}{d:World}(m:GStep n l H0 j c H1 k)(h:eI nt n c H1 k Q e a d):eI nt n l H0 j Q e a d:=by
 cases e <;> first |exact iX.trans m h |exact h
def iX.mono{nt n:Nat}{k:Gh}{H0:List aO}{e:World}{j c:qk}{a:Act}{d:World}(l:∀E H,j E H->c E H)(h:iX nt n k H0 e j a d):iX nt n k H0 e c a d:=by
 obtain⟨E,H,g,s,m,o⟩:=h;exact⟨E,H,g,l _ _ s,m,o⟩
def eT(P:Program)(nt n:Nat)(h:Code)(Q:fE)(E:Env)(H:List aO):Prop:=
 ∀g e a,Rel g nt E H e a->∀c:Exit->Act->World->Prop,(∀d f b,eI nt n g H a Q d f b->c d f b)->h.wp P c e a
def gp(P:Program)(nt n:Nat)(i:Array Oper)(h:List Oper)(Q:fE)(E:Env)(H:List aO):Prop:=
 ∀g e a,Rel g nt E H e a->∀c:Exit->Act->World->Prop,(∀d f b,eI nt n g H a Q d f b->c d f b)->wpList P i c h e a
@[reducible] def Ce(a:qk)(Q:fE):fE
 | .normal=>a
 | .exit b=>Q (.exit b)
 | .goto c=>Q (.goto c)
 | .ret=>Q .ret
 | .panic d=>Q (.panic d)
 | .outgrown=>Q .outgrown
@[reducible] def EY(c:Nat)(Q:fE):fE
 | .exit a=>bif e4 a c then Q .normal else Q (.exit a)
 | .normal=>Q .normal
 | .goto b=>Q (.goto b)
 | .ret=>Q .ret
 | .panic d=>Q (.panic d)
 | .outgrown=>Q .outgrown
section
variable {P:Program}{nt n:Nat}{Q:fE}{E:Env}{H:List aO}
def eT.mono{c:Code}{j:fE}(l:∀e E H,Q e E H->j e E H)(h:eT P nt n c Q E H):eT P nt n c j E H:=
 λg a t s o k=>h g a t s o λe u m d=>k e u m (by cases e <;> first |exact iX.mono (l _) d |exact d)
def rN{d e:Code}(o:eT P nt n d (Ce (eT P nt n e Q) Q) E H):eT P nt n (.seq d e) Q E H:=by
 intro g m l t i b;refine wp_seq (o g m l t _ ?_)
 intro c f r a;cases c with
 |normal=>
  obtain⟨x,w,j,k,h,u⟩:=a;exact k j f r h i λc q s p=>b c q s (eI.trans u p)
 |exit z=>exact b _ _ _ a
 |goto v=>exact b _ _ _ a
 |ret=>exact b _ _ _ a
 |panic y=>exact a.elim
 |outgrown=>exact a.elim
def amF(c:Q .normal E H):eT P nt n .skip Q E H:=
 λg _ _ b _ a=>wp_skip (a .normal _ _ ⟨E,H,g,c,b,GStep.refl _ _ _ _⟩)
def apz(c:Q .ret E H):eT P nt n .ret Q E H:=
 λg _ _ b _ a=>wp_ret (a .ret _ _ ⟨E,H,g,c,b,GStep.refl _ _ _ _⟩)
def V4{a:Nat}(d:Q (.exit a) E H):eT P nt n (.exit a) Q E H:=
 λg _ _ c _ b=>wp_exit (b (.exit a) _ _ ⟨E,H,g,d,c,GStep.refl _ _ _ _⟩)
def agH{c:Nat}(d:Q .normal E H):eT P nt n (.label c) Q E H:=
 λg _ _ b _ a=>wp_label (a .normal _ _ ⟨E,H,g,d,b,GStep.refl _ _ _ _⟩)
def aht{c:Code}(a:Env)(i:vo a E)(j:eT P nt n c Q a H):eT P nt n c Q E H:=
 λg h f b e d=>j g h f ⟨b.m,b.e.sub i⟩ e d
def Ta{b:Nat}{h:Code}(o:eT P nt n h (EY b Q) E H):eT P nt n (.block b h) Q E H:=by
 intro g m k i q c;refine wp_block (o g m k i _ ?_)
 intro l s p a;cases l with
 |exit d=>
  simp only[eI,EY] at a
  by_cases e:d=b
  .have f:e4 d b=true:=by rw[e];exact k7 b
   rw[f] at a;simp only[qa,e,if_true];exact c .normal _ _ a
  .have f:e4 d b=false:=by
    cases j:e4 d b with
    |false=>rfl
    |true=>exact absurd (h5 j) e
   rw[f] at a;simp only[qa,e,if_false];exact c (.exit d) _ _ a
 |normal=>exact c _ _ _ a
 |goto r=>exact c _ _ _ a
 |ret=>exact c _ _ _ a
 |panic h=>exact a.elim
 |outgrown=>exact a.elim
def adk{a:Operand}{k i:Code}{b:Bool}(o:PE E a= .bool b)(m:b=true->eT P nt n k Q E H)(q:b=false->eT P nt n i Q E H):eT P nt n (.cond a k i) Q E H:=by
 intro g c l d j h;have e:=d.e.eval a;rw[o] at e;have r:c.eval a= .bool b:=by
  generalize c.eval a=z at e;cases e with
  |aW p=>cases p;rfl
 exact wp_cond_split r (λf=>m f g c l d j h) (λf=>q f g c l d j h)
def Lc{id:Nat}{a:List Oper}(h:gp P nt n a.toArray a Q E H):eT P nt n (.region id a.toArray false) Q E H:=
 λg f e d c b=>wp_region_lit (h g f e d c b)
def Of{b:Array Oper}(f:Q .normal E H):gp P nt n b [] Q E H:=
 λg e d c _ a=>wpList_nil (a .normal e d ⟨E,H,g,f,c,GStep.refl _ _ _ _⟩)
def Hk(P:Program)(nt n:Nat)(h:Oper)(i:qk)(E:Env)(H:List aO):Prop:=
 ∀g d a,Rel g nt E H d a->∀(c:Act->World->Prop) (f:Exit->Act->World->Prop),(∀e b,iX nt n g H a i e b->c e b)->h.wp P d a c f
def KR{d:Array Oper}{h:List Oper}{c:Oper}{K:qk}(k:c.guard=c6)(v:Hk P nt n c K E H)(s:∀b a,K b a->gp P nt n d h Q b a):gp P nt n d (c::h) Q E H:=by
 intro g u t z f w;refine wpList_plain k λp o=>v g u t z p f ?_
 rintro e i ⟨b,a,r,j,l,A⟩;exact o e i (s b a j r e i l f λq x y m=>w q x y (eI.trans A m))
def cM(P:Program)(d:Oper)(E:Env)(H:List aO)(v:PV):Prop:=
 ∀g nt b a,Rel g nt E H b a->∃c,(execOp b.eval d).run P a= .ok (.value c) a/\VR g H a v c
def aiu{a:Oper}{v:PV}(i:fL nt a.dst=true)(l:cM P a E H v):Hk P nt n a (λd j=>d=li E a.dst v/\j=H) E H:=by
 intro g k f b p m c;obtain⟨o,e,h⟩:=l g nt k f b;unfold n0;rw[e];exact c _ _ ⟨_,H,g,⟨rfl,rfl⟩,⟨b.m,b.e.tn i h⟩,GStep.refl _ _ _ _⟩
def aae{d:Array Oper}{b:List Oper}{a:Option Nat}{f:Op}{g:TypeId}{e:String}{c:Array Edge}{v:PV}(i:cM P ⟨a,f,g,e,c,c6⟩ E H v)(j:fL nt a=true)
 (h:gp P nt n d b Q (li E a v) H):gp P nt n d (⟨a,f,g,e,c,c6⟩::b) Q E H:=
 KR rfl (aiu j i) (by rintro k l ⟨rfl,rfl⟩;exact h)
def Sk{c:Array Oper}{p:List Oper}{e:Option Nat}{l:Op}{o:TypeId}{m:String}{q:Array Edge}{f:Nat}{h b:Bool}{a:Nat}
 (u:(c[f]?).bind (·.dst)=c4 a) (x:look E a= .bool b) (v:b≠h) (F:fL nt e=true)
 (C:gp P nt n c p Q (li E e (.bu [])) H):gp P nt n c (⟨e,l,o,m,q,c4 (f,h)⟩::p) Q E H:=by
 intro g d D j w G;have k:=j.e.at_ a;rw[x] at k;have i:d.tmps.getD a undef= .bool b:=by
  cases k with
  |aW s=>generalize d.tmps.getD a undef=z at s;cases s;rfl
 have A:yielded c d.tmps f=c4 b:=by
  unfold yielded;rw[u];simp only[hU];rcases oq a d.tmps.size with r |y
  .simp[r] at i;simp[r,i]
  .simp[k8 y,undef] at i
 refine wpList_step λI t=>?_
 have B:ih (⟨e,l,o,m,q,c4 (f,h)⟩:Oper) (yielded c d.tmps)=false:=by
  simp[ih,A];exact v
 rw[B];simp only[oj,if_false];exact t _ _ (C g _ D ⟨j.m,j.e.tn F (.aW (.bu [] [] rfl (by simp)))⟩ w G)
def MO{b:Array Oper}{o:List Oper}{d:Option Nat}{k:Op}{m:TypeId}{l:String}{p:Array Edge}{e:Nat}{q:Bool}{a:Nat}
 (u:(b[e]?).bind (·.dst)=c4 a) (w:look E a= .bu []) (D:fL nt d=true)
 (B:gp P nt n b o Q (li E d (.bu [])) H):gp P nt n b (⟨d,k,m,l,p,c4 (e,q)⟩::o) Q E H:=by
 intro g c C j v G;have f:=j.e.at_ a;rw[w] at f;have s:c.tmps.getD a undef= .tuple #[]:=by
  generalize c.tmps.getD a undef=z at f;cases f with
  |aW F=>
   cases F with
   |bu _ h i _=>
    have:h=[]:=e5 (by rw[<-i];rfl);rw[this]
  |bu _ h i _=>
   have:h=[]:=e5 (by rw[<-i];rfl);rw[this]
 have y:yielded b c.tmps e=c6:=by
  unfold yielded;rw[u];simp only[hU];rcases oq a c.tmps.size with r |x
  .simp[r] at s;simp[r,s]
  .simp[k8 x]
 refine wpList_step λI t=>?_
 have A:ih (⟨d,k,m,l,p,c4 (e,q)⟩:Oper) (yielded b c.tmps)=false:=by
  simp[ih,y]
 rw[A];simp only[oj,if_false];exact t _ _ (B g _ C ⟨j.m,j.e.tn D (.aW (.bu [] [] rfl (by simp)))⟩ v G)
def S7{c:Array Oper}{o:List Oper}{i:Option Nat}{f:Op}{j:TypeId}{h:String}{k:Array Edge}{e:Nat}{d:Bool}{b:Nat}
 (s:(c[e]?).bind (·.dst)=c4 b) (u:look E b= .bool d)
 (y:gp P nt n c (⟨i,f,j,h,k,c6⟩::o) Q E H):gp P nt n c (⟨i,f,j,h,k,c4 (e,d)⟩::o) Q E H:=by
 intro g a A r t B;have m:=r.e.at_ b;rw[u] at m;have l:a.tmps.getD b undef= .bool d:=by
  cases m with
  |aW q=>generalize a.tmps.getD b undef=z at q;cases q;rfl
 have w:yielded c a.tmps e=c4 d:=by
  unfold yielded;rw[s];simp only[hU];rcases oq b a.tmps.size with p |v
  .simp[p] at l;simp[p,l]
  .simp[k8 v,undef] at l
 have x:ih (⟨i,f,j,h,k,c4 (e,d)⟩:Oper) (yielded c a.tmps)=true:=by
  simp[ih,w]
 have:=y g a A r t B;unfold wpList at this⊢;rw[x];simp only[ih,if_true] at this⊢;exact this
def fJ(P:Program)(i:Oper)(E:Env)(H:List aO)(k:PV->List aO->Prop):Prop:=
 ∀g nt d c,Rel g nt E H d c->∀(h:Act->World->Prop) (j:Exit->Act->World->Prop),
  (∀f a e v b,k v b->VR e b a v f->bF e b a->GStep H.length g H c e b a->h (d.put i.dst f) a)->i.wp P d c h j
def Sz{d:Array Oper}{j:List Oper}{a:Option Nat}{e:Op}{i:TypeId}{f:String}{k:Array Edge}{K:PV->List aO->Prop}(c:fJ P ⟨a,e,i,f,k,c6⟩ E H K)(w:fL nt a=true)
 (t:∀v b,K v b->gp P nt n d j Q (li E a v) b):gp P nt n d (⟨a,e,i,f,k,c6⟩::j) Q E H:=by
 refine KR (K:=λp H1=>∃v,p=li E a v/\K v H1) rfl ?_ (by rintro _ _ ⟨v,rfl,c⟩;exact t _ _ c)
 intro g x u l r q m;refine c g nt x u l r q ?_
 intro A B s v b y o z h;exact m _ _ ⟨_,b,s,⟨v,rfl,y⟩,⟨z,(l.e.step h).tn w o⟩,h.every⟩
end
section
variable {g:Gh}{H:List aO}{w:World}{x:Value}
def VR.n5{b:Bool}(h:VR g H w (.bool b) x):x= .bool b:=by cases h with |aW h=>cases h;rfl
def VR.fQ{k:IntKind}{n:Int}(h:VR g H w (.int k n) x):x= .int k n:=by cases h with |aW h=>cases h;rfl
def VR.pF(h:VR g H w .bg x):x= .slice c6 0 0:=by cases h with |aW h=>cases h;rfl
def VR.rh(h:VR g H w .z0 x):∃a,x= .slice a 0 0:=by cases h with |aW h=>cases h;exact⟨_,rfl⟩
def VR.ky{e:List PV}(h:VR g H w (.agg e) x):∃a:List Value,x= .agg a.toArray/\e.length=a.length/\∀(i:Nat) (c:PV) (y:Value),e[i]?=c4 c->a[i]?=c4 y->VR g H w c y:=by
 cases h with
 |aW h=>cases h with |agg _ a j l=>exact⟨a,rfl,j,λi c y o s=>.aW (l i c y o s)⟩
 |agg _ a j l=>exact⟨a,rfl,j,l⟩
def VR.Db{e:List PV}(h:VR g H w (.bu e) x):∃a:List Value,x= .tuple a.toArray/\e.length=a.length/\∀(i:Nat) (c:PV) (y:Value),e[i]?=c4 c->a[i]?=c4 y->VR g H w c y:=by
 cases h with
 |aW h=>cases h with |bu _ a j l=>exact⟨a,rfl,j,λi c y o s=>.aW (l i c y o s)⟩
 |bu _ a j l=>exact⟨a,rfl,j,l⟩
def VR.bool(b:Bool):VR g H w (.bool b) (.bool b):=.aW (.bool b)
def VR.int(k:IntKind)(n:Int):VR g H w (.int k n) (.int k n):=.aW (.int k n)
end
def dP(P:Program)(t:TypeId):Option Bool:=(P.underlying t).map λ| .struct _ | .array _ _=>true |_=>false
def cH(P:Program)(t:TypeId):Option Nat:=(P.info? t).map (·.size)
def nU(P:Program)(t:TypeId)(f:Nat):Option (TypeId×Nat):=match P.underlying t with |some (.struct a)=>(a[f]?).map λx=>(x.type,x.offset) |_=>c6
def dU(P:Program)(t:TypeId):Option TypeId:=match P.underlying t with |some (.slice a)=>c4 a |_=>c6
def pk(P:Program)(t:TypeId):Option (Nat×TypeId):=match P.underlying t with |some (.array n a)=>c4 (n,a) |_=>c6
def dV(P:Program)(t:TypeId):Option Value:=(P.info? t).bind (·.zero)
def yi(P:Program)(t:TypeId):Option IntKind:=match P.underlying t with |some (.int k)=>c4 k |_=>c6
def sr(P:Program)(t:TypeId):Bool:=match P.underlying t with |some .bool=>true |_=>false
section
variable {P:Program}{w:World}
def o5{t:TypeId}{b:Bool}(a:dP P t=c4 b):(isAgg t).run P w= .ok b w:=by
 unfold dP at a;cases c:P.underlying t with
 |none=>simp[c] at a
 |some d=>
  rw[c] at a;unfold isAgg;rw[gb,run_underlying c];cases d <;> simp at a <;> subst a <;> rfl
def run_sizeOf{t:TypeId}{n:Nat}(a:cH P t=c4 n):(sizeOf t).run P w= .ok n w:=by
 unfold cH at a;cases b:P.info? t with
 |none=>simp[b] at a
 |some i=>
  simp[b] at a;simp[sizeOf,typeInfo,b,a]
def Ey{t:TypeId}{v:Value}(a:dV P t=c4 v):(zeroValue t).run P w= .ok v w:=by
 unfold dV at a;cases b:P.info? t with
 |none=>simp[b] at a
 |some i=>
  simp[b] at a;simp[zeroValue,typeInfo,b,a]
def gD{t a:TypeId}(b:dU P t=c4 a):P.underlying t=c4 (.slice a):=by
 unfold dU at b
 split at b <;> simp_all
def anQ{t:TypeId}{k:IntKind}(a:yi P t=c4 k):P.underlying t=c4 (.int k):=by
 unfold yi at a
 split at a <;> simp_all
def Kn{t a:TypeId}{n:Nat}(b:pk P t=c4 (n,a)):P.underlying t=c4 (.array n a):=by
 unfold pk at b
 split at b <;> simp_all
def aiw{t:TypeId}(a:sr P t=true):P.underlying t=c4 .bool:=by
 unfold sr at a
 split at a <;> simp_all
def E4{t:TypeId}{f:Nat}{h i:Nat}(a:nU P t f=c4 (h,i)):∃(b:Array Field) (c:Field),P.underlying t=c4 (.struct b)/\b[f]?=c4 c/\c.type=h/\c.offset=i:=by
 unfold nU at a
 split at a
 .rename_i b j;cases e:b[f]? with
  |none=>simp[e] at a
  |some c=>
   simp[e] at a;exact⟨b,c,j,e,a.1,a.2⟩
 .simp at a
end
def ek(H:List aO)(r:Nat)(a:aO):Prop:=H[r]?=c4 a
section
variable {P:Program}{E:Env}{H:List aO}{d:Option Nat}{ty:TypeId}{pos:String}{aft:Array Edge}{gd:Option (Nat×Bool)}{x y z:Operand}{t:TypeId}
def Pt:cM P ⟨d,.move x,ty,pos,aft,gd⟩ E H (PE E x):=λ_ _ b _ a=>⟨b.eval x,rfl,a.e.eval x⟩
def aks:cM P ⟨d,.assign x,ty,pos,aft,gd⟩ E H (PE E x):=λ_ _ b _ a=>⟨b.eval x,rfl,a.e.eval x⟩
def aik{v:PV}(a:PE E x=v):cM P ⟨d,.move x,ty,pos,aft,gd⟩ E H v:=a▸Pt
def ak6{v:PV}(a:PE E x=v):cM P ⟨d,.assign x,ty,pos,aft,gd⟩ E H v:=a▸aks
def Zu{b:Bool}(f:PE E z= .bool b):cM P ⟨d,.pick z x y,ty,pos,aft,gd⟩ E H (bif b then PE E x else PE E y):=by
 intro g h e w a;have c:=(f▸a.e.eval z).n5;cases b
 .exact⟨e.eval y,by simp[execOp,c,asBool],a.e.eval y⟩
 .exact⟨e.eval x,by simp[execOp,c,asBool],a.e.eval x⟩
def yw{b:BinOp}{yt:TypeId}{e v:PV}{a c rv:Value}{p:PV}(q:PE E x=e)(j:PE E y=v)(i:∀(g:Gh) (H:List aO) (w:World) (z:Value),VR g H w e z->z=a)(l:∀(g:Gh) (H:List aO) (w:World) (z:Value),VR g H w v z->z=c)
 (o:eqGuard b t x y a c=pure ()) (s:∀w,(binOp b t a c).run P w= .ok rv w) (A:∀(g:Gh) (H:List aO) (w:World),VR g H w p rv):cM P ⟨d,.binOp b t x y yt,ty,pos,aft,gd⟩ E H p:=by
 intro g B C w f;have h:=i _ _ _ _ (q▸f.e.eval x);have u:=l _ _ _ _ (j▸f.e.eval y);exact⟨rv,by simp[execOp,h,u,o,s],A _ _ _⟩
section ints
variable {yt:TypeId}{k:IntKind}{m n r:Int}
def ka{a:BinOp}{rv:Value}{p:PV}(f:PE E x= .int k m)(c:PE E y= .int k n)(e:∀w,(binOp a t (.int k m) (.int k n)).run P w= .ok rv w)(h:∀(g:Gh) (H:List aO) (w:World),VR g H w p rv):
 cM P ⟨d,.binOp a t x y yt,ty,pos,aft,gd⟩ E H p:=
 yw f c (λ_ _ _ _ b=>b.fQ) (λ_ _ _ _ b=>b.fQ) (eqGuard_at_int a t x y _ k m) e h
def Vz(c:PE E x= .int k m)(b:PE E y= .int k n)(a:k.wrap (m+n)=r):cM P ⟨d,.binOp .add t x y yt,ty,pos,aft,gd⟩ E H (.int k r):=
 ka c b (λw=>by simp[binOp,o4,a]) λ_ _ _=>.int k r
def Zh(c:PE E x= .int k m)(b:PE E y= .int k n)(a:k.wrap (m -n)=r):cM P ⟨d,.binOp .sub t x y yt,ty,pos,aft,gd⟩ E H (.int k r):=
 ka c b (λw=>by simp[binOp,o4,a]) λ_ _ _=>.int k r
def acd(c:PE E x= .int k m)(b:PE E y= .int k n)(a:k.wrap (m*n)=r):cM P ⟨d,.binOp .mul t x y yt,ty,pos,aft,gd⟩ E H (.int k r):=
 ka c b (λw=>by simp[binOp,o4,a]) λ_ _ _=>.int k r
def ae6(c:PE E x= .int k m)(b:PE E y= .int k n)(h0:n≠0)(a:k.wrap (m.tdiv n)=r):cM P ⟨d,.binOp .quo t x y yt,ty,pos,aft,gd⟩ E H (.int k r):=
 ka c b (λw=>by simp[binOp,Op.intDiv,h0,a]) λ_ _ _=>.int k r
def ahN(c:PE E x= .int k m)(b:PE E y= .int k n)(h0:n≠0)(a:m.tmod n=r):cM P ⟨d,.binOp .rem t x y yt,ty,pos,aft,gd⟩ E H (.int k r):=
 ka c b (λw=>by simp[binOp,Op.intDiv,h0,a]) λ_ _ _=>.int k r
def akz(c:PE E x= .int k m)(b:PE E y= .int k n)(a:bits .and k m n=r):cM P ⟨d,.binOp .and t x y yt,ty,pos,aft,gd⟩ E H (.int k r):=
 ka c b (λw=>by rw[binOp_and,intBits_and,a];rfl) λ_ _ _=>.int k r
def YI(c:PE E x= .int k m)(b:PE E y= .int k n)(a:bits .or k m n=r):cM P ⟨d,.binOp .or t x y yt,ty,pos,aft,gd⟩ E H (.int k r):=
 ka c b (λw=>by rw[binOp_or,intBits_or,a];rfl) λ_ _ _=>.int k r
def abR(c:PE E x= .int k m)(b:PE E y= .int k n)(a:bits .xor k m n=r):cM P ⟨d,.binOp .xor t x y yt,ty,pos,aft,gd⟩ E H (.int k r):=
 ka c b (λw=>by rw[binOp_xor,intBits_xor,a];rfl) λ_ _ _=>.int k r
def aeA(c:PE E x= .int k m)(b:PE E y= .int k n)(a:bits .andNot k m n=r):cM P ⟨d,.binOp .andNot t x y yt,ty,pos,aft,gd⟩ E H (.int k r):=
 ka c b (λw=>by rw[binOp_andNot,intBits_andNot,a];rfl) λ_ _ _=>.int k r
def ahs(b:PE E x= .int k m)(a:PE E y= .int k n):cM P ⟨d,.binOp .lss t x y yt,ty,pos,aft,gd⟩ E H (.bool (c3 (m<n))):=
 ka b a (λw=>by rw[binOp_lss];rfl) λ_ _ _=>.bool _
def aj5(b:PE E x= .int k m)(a:PE E y= .int k n):cM P ⟨d,.binOp .leq t x y yt,ty,pos,aft,gd⟩ E H (.bool (c3 (m<=n))):=
 ka b a (λw=>by rw[binOp_leq];rfl) λ_ _ _=>.bool _
def amQ(b:PE E x= .int k m)(a:PE E y= .int k n):cM P ⟨d,.binOp .gtr t x y yt,ty,pos,aft,gd⟩ E H (.bool (c3 (n<m))):=
 ka b a (λw=>by rw[binOp_gtr];rfl) λ_ _ _=>.bool _
def abe(b:PE E x= .int k m)(a:PE E y= .int k n):cM P ⟨d,.binOp .geq t x y yt,ty,pos,aft,gd⟩ E H (.bool (c3 (n<=m))):=
 ka b a (λw=>by rw[binOp_geq];rfl) λ_ _ _=>.bool _
def aea(b:PE E x= .int k m)(a:PE E y= .int k n):cM P ⟨d,.binOp .eql t x y yt,ty,pos,aft,gd⟩ E H (.bool (c3 (m=n))):=
 ka b a (λw=>by rw[binOp_eql,hz]) λg H w=>by
  have:(m==n)=c3 (m=n):=by by_cases c:m=n <;> simp[c]
  rw[this];exact .bool _
def ajI(b:PE E x= .int k m)(a:PE E y= .int k n):cM P ⟨d,.binOp .neq t x y yt,ty,pos,aft,gd⟩ E H (.bool (c3 (m≠n))):=
 ka b a (λw=>by rw[binOp_neq,hz]) λg H w=>by
  have:(m != n)=c3 (m≠n):=by by_cases c:m=n <;> simp[c,bne]
  rw[this];exact .bool _
def apg{c:IntKind}(e:PE E x= .int k m)(f:PE E y= .int c n)(h0:0<=n)(b:k.wrap (m*2^ (min n.toNat k.bits))=r):cM P ⟨d,.binOp .shl t x y yt,ty,pos,aft,gd⟩ E H (.int k r):=
 yw e f (λ_ _ _ _ a=>a.fQ) (λ_ _ _ _ a=>a.fQ) (eqGuard_at_int _ t x y _ k m)
  (λw=>by rw[binOp_shl];unfold Op.shift;rw[if_neg (by omega)];simp only[b];rfl) λ_ _ _=>.int k r
def abz{c:IntKind}(e:PE E x= .int k m)(f:PE E y= .int c n)(h0:0<=n)(b:m.fdiv (2^ (min n.toNat k.bits))=r):cM P ⟨d,.binOp .shr t x y yt,ty,pos,aft,gd⟩ E H (.int k r):=
 yw e f (λ_ _ _ _ a=>a.fQ) (λ_ _ _ _ a=>a.fQ) (eqGuard_at_int _ t x y _ k m)
  (λw=>by rw[binOp_shr];unfold Op.shift;rw[if_neg (by omega)];simp only[b];rfl) λ_ _ _=>.int k r
def ajc(e:PE E x= .int k m)(b:k.wrap (0 -m)=r):cM P ⟨d,.unOp .neg t x,ty,pos,aft,gd⟩ E H (.int k r):=by
 intro g f h w c;have a:=(e▸c.e.eval x).fQ;exact⟨.int k r,by simp only[execOp,a,Op.unary,o4,b];rfl,.int k r⟩
def aoQ{c b:TypeId}{i:IntKind}(j:PE E x= .int i m)(a:(P.underlying c).isSome=true)(l:yi P b=c4 k)(f:k.wrap m=r):cM P ⟨d,.convert c b x,ty,pos,aft,gd⟩ E H (.int k r):=by
 intro g o q w h;have e:=(j▸h.e.eval x).fQ;obtain⟨p,a⟩:=m6.1 a;refine⟨.int k r,?_,.int k r⟩
 simp[execOp,e,convert,run_underlying a,run_underlying (anQ l),Conv.intToInt,f]
end ints
def rd_not{b:Bool}(e:PE E x= .bool b):cM P ⟨d,.unOp .not t x,ty,pos,aft,gd⟩ E H (.bool (!b)):=by
 intro g f h w c;have a:=(e▸c.e.eval x).n5;exact⟨.bool !b,by simp only[execOp,a,Op.unary];rfl,.bool _⟩
def run_equal_bool{t:TypeId}(c:sr P t=true)(w:World)(b a:Bool):(mx t (.bool b) (.bool a)).run P w= .ok (b==a) w:=by
 have e:∀n,(j9 (n+1) t (.bool b) (.bool a)).run P w= .ok (b==a) w:=λn=>by simp[j9,run_underlying (aiw c)]
 exact e 9999
def abj{yt:TypeId}{b a:Bool}(f:PE E x= .bool b)(h:PE E y= .bool a)(e:sr P t=true):cM P ⟨d,.binOp .eql t x y yt,ty,pos,aft,gd⟩ E H (.bool (b==a)):=
 yw f h (λ_ _ _ _ c=>c.n5) (λ_ _ _ _ c=>c.n5) (eqGuard_at_bool _ t x y _ b)
  (λw=>by simp only[binOp];simp[run_equal_bool e w b a]) λ_ _ _=>.bool _
def ai2{yt:TypeId}{b a:Bool}(f:PE E x= .bool b)(h:PE E y= .bool a)(e:sr P t=true):cM P ⟨d,.binOp .neq t x y yt,ty,pos,aft,gd⟩ E H (.bool (b != a)):=
 yw f h (λ_ _ _ _ c=>c.n5) (λ_ _ _ _ c=>c.n5) (eqGuard_at_bool _ t x y _ b)
  (λw=>by simp only[binOp];simp only[gb,run_equal_bool e w b a,ez,hz];rfl) λ_ _ _=>.bool _
def aiG{vs:List PV}{i:Nat}{v:PV}(l:PE E x= .bu vs)(c:vs[i]?=c4 v):cM P ⟨d,.extract x i,ty,pos,aft,gd⟩ E H v:=by
 intro g o p w h;obtain⟨b,e,f,j⟩:=(l▸h.e.eval x).Db;have a:i<b.length:=by rw[<-f];exact(c7.1 c).1
 refine⟨b[i],?_,j i v _ c (c5 a)⟩
 simp[execOp,e,Instr.extract,a]
def aam{a:List PV}{f:Nat}{e i:Nat}{v:PV}(l:PE E x= .agg a)(s:nU P t f=c4 (e,i))(C:dP P e=c4 false)(b:a[i]?=c4 v):
 cM P ⟨d,.field t x f,ty,pos,aft,gd⟩ E H v:=by
 intro g F G w B;obtain⟨c,o,p,q⟩:=(l▸B.e.eval x).ky;obtain⟨D,h,u,A,rfl,rfl⟩:=E4 s;have j:h.offset<c.length:=by rw[<-p];exact(c7.1 b).1
 refine⟨c[h.offset],?_,q _ v _ b (c5 j)⟩
 simp[execOp,o,r3,run_underlying u,A,asAgg,part,o5 C,j]
def T8{e:List PV}{f:Nat}{c j n:Nat}{h:List PV}(p:PE E x= .agg e)(v:nU P t f=c4 (c,j))(J:dP P c=c4 true)(A:cH P c=c4 n)(l:(e.drop j).take n=h):
 cM P ⟨d,.field t x f,ty,pos,aft,gd⟩ E H (.agg h):=by
 intro g L M w I;obtain⟨o,q,s,u⟩:=(p▸I.e.eval x).ky;obtain⟨K,B,F,G,rfl,rfl⟩:=E4 v;subst l;refine⟨.agg ((o.drop B.offset).take n).toArray,?_,.agg _ _ (by simp[s]) λi C y a b=>?_⟩
 .simp[execOp,q,r3,run_underlying F,G,asAgg,part,o5 J,run_sizeOf A,m0,k6]
 .rw[h6] at a b
  split at a
  .rename_i D;rw[if_pos D] at b;rw[ea] at a b;exact u _ C y a b
  .simp at a
def adb{r v i b:Nat}(f:PE E x= .ptr r v i b):cM P ⟨d,.nilCheck x,ty,pos,aft,gd⟩ E H (.ptr r v i b):=by
 intro g s o w c;have a:=f▸c.e.eval x;generalize j:o.eval x=z at a;cases a with
 |aW a=>cases a
 |ptr _ _ _ _ p q h e l=>exact⟨_,by simp only[execOp,j];rfl,.ptr r v i b p q h e l⟩
def ZL{c:List PV}{e:Nat}(p:PE E x= .dw c e):cM P ⟨d,.nilCheck x,ty,pos,aft,gd⟩ E H (.dw c e):=by
 intro g v s w i;have a:=p▸i.e.eval x;generalize q:s.eval x=z at a;cases a with
 |aW a=>
  cases a with
  |dw _ _ b u h f o j l=>exact⟨_,by simp only[execOp,q];rfl,.aW (.dw c e b u h f o j l)⟩
def VJ{f:Nat}{a b:List PV}(s:PE E x= .fn f a b):cM P ⟨d,.nilCheck x,ty,pos,aft,gd⟩ E H (.fn f a b):=by
 intro g v u w q;have c:=s▸q.e.eval x;generalize p:u.eval x=z at c;cases c with
 |aW c=>cases c with |fn _ _ _ j e h l i o=>exact⟨_,by simp only[execOp,p];rfl,.aW (.fn f a b j e h l i o)⟩
 |fn _ _ _ j e h l i o=>exact⟨_,by simp only[execOp,p];rfl,.fn f a b j e h l i o⟩
def Qi{P:Program}{w:World}{a:Addr}{f:Field}{n:Nat}(c:cH P f.type=c4 n)(b:n≠0):(fieldPlace a f).run P w= .ok (a.add f.offset) w:=by
 simp[fieldPlace,run_sizeOf c,b]
def apD{r v i c:Nat}{f:Nat}{e j n:Nat}(p:PE E x= .ptr r v i c)(A:nU P t f=c4 (e,j))(B:cH P e=c4 n)(F:n≠0):
 cM P ⟨d,.fieldAddr t x f,ty,pos,aft,gd⟩ E H (.ptr r v i (c+j)):=by
 intro g Q I w L;have a:=p▸L.e.eval x;generalize q:I.eval x=z at a;obtain⟨O,h,J,K,rfl,rfl⟩:=E4 A;cases a with
 |aW a=>cases a
 |ptr _ _ _ _ s N G o M=>
  refine⟨.pointer (c4 (N.add h.offset)),?_,.ptr r v i (c+h.offset) s _ G o λu=>?_⟩
  .simp[execOp,q,q7,run_underlying J,K,hD,Qi B F]
  .obtain⟨C,b,D,l,rfl⟩:=M u;exact⟨C,b,D,l,by rw[h8,j1]⟩
def Ze{e:List PV}{a:Nat}{f:Nat}{i l n:Nat}(q:PE E x= .dw e a)(A:nU P t f=c4 (i,l))(B:cH P i=c4 n)(C:n≠0):
 cM P ⟨d,.fieldAddr t x f,ty,pos,aft,gd⟩ E H (.dw e (a+l)):=by
 intro g L F w J;have c:=q▸J.e.eval x;generalize u:F.eval x=z at c;obtain⟨K,j,G,I,rfl,rfl⟩:=E4 A;cases c with
 |aW c=>
  cases c with
  |dw _ _ b h v o s D p=>
   refine⟨.pointer (c4 ((⟨b,h+a,c6⟩:Addr).add j.offset)),?_,?_⟩
   .simp[execOp,u,q7,run_underlying G,I,hD,Qi B C]
   .rw[h8,j1];exact .aW (.dw e (a+j.offset) b h v o s D p)
def Dc{g:Gh}{w:World}{r v i c:Nat}{a:aO}{p:Value}(F:bF g H w)(l:VR g H w (.ptr r v i c) p)(j:ek H r a)(A:a.aF=v):
 ∃b e cells,p= .pointer (c4 ⟨b,i*a.sz+c,c6⟩)/\g.β r=c4 (b,e)/\i<a.es.length/\w.heap[b]?=c4 (.cells cells a.ty (0,0))/\cells.size=e*a.sz/\a.es.length<=e/\
  ∀i c s,abk a.es i c=c4 s->∃h,cells[i*a.sz+c]?=c4 h/\h.oneCell'=true/\VR g H w s h:=by
 cases l with
 |aW l=>cases l
 |ptr _ _ _ _ J L f K G=>
  unfold ek at j;rw[j] at f;injection f with f
  subst f;obtain⟨C,b,e,o,rfl⟩:=G A.symm;have q:=(F.obj r a j).mem;rw[o] at q;obtain⟨_,cells,D,u,_,I,B⟩:=q;exact⟨b,e,cells,rfl,o,C,D,u,I,B⟩
def AT{r v i j:Nat}{a:aO}{c:PV}(s:PE E x= .ptr r v i j)(A:ek H r a)(p:a.aF=v)(C:dP P t=c4 false)(u:abk a.es i j=c4 c):
 cM P ⟨d,.load t x,ty,pos,aft,gd⟩ E H c:=by
 intro g G I w f;obtain⟨b,F,cells,B,_,_,h,_,_,o⟩:=Dc f.m (s▸f.e.eval x) A p;obtain⟨e,l,_,q⟩:=o i j c u;refine⟨e,?_,q⟩
 have D:w.cell? ⟨b,i*a.sz+j,c6⟩=c4 e:=by rw[cell_of_row w b _ cells a.ty (0,0) h];exact l
 simp[execOp,B,n1,hD,loadVar,o5 C,D]
def gw{c:List PV}{i e:Nat}{h:PV}(b:abk c i e=c4 h):∃a,c[i]?=c4 a/\e<a.cells.length:=by
 unfold abk at b;cases f:c[i]? with
 |none=>simp[f] at b
 |some a=>
  simp[f] at b;exact⟨a,rfl,(c7.1 b).1⟩
def Ig{r v i a n:Nat}{c:aO}{e:PV}{p:List PV}(G:PE E x= .ptr r v i a)(T:ek H r c)(F:c.aF=v)(V:dP P t=c4 true)(N:cH P t=c4 n)(U:c.es[i]?=c4 e)
 (S:(e.cells.drop a).take n=p) (A:p.length=n):cM P ⟨d,.load t x,ty,pos,aft,gd⟩ E H (.agg p):=by
 intro g Y aa w C;obtain⟨b,Z,cells,I,_,_,D,W,X,O⟩:=Dc C.m (G▸C.e.eval x) T F;subst S;have M:∀k (j:k<n),∃h,abk c.es i (a+k)=c4 h/\((e.cells.drop a).take n)[k]?=c4 h:=λk j=>by
  have B:k<((e.cells.drop a).take n).length:=by rw[A];exact j
  refine⟨_,?_,c5 B⟩
  unfold abk;rw[U];simp only[hU];rw[<-ea, <-e0 j];exact c5 B
 have Q:∃f:Nat->Value,∀k,k<n->cells[i*c.sz+a+k]?=c4 (f k)/\(∀h,((e.cells.drop a).take n)[k]?=c4 h->VR g H w h (f k)):=by
  refine⟨λk=>cells.getD (i*c.sz+a+k) undef,λk j=>?_⟩
  obtain⟨h,l,J⟩:=M k j;obtain⟨K,s,_,R⟩:=O i (a+k) h l;rw[<-j1] at s;have:cells.getD (i*c.sz+a+k) undef=K:=by simp[j2,s]
  refine⟨s.trans (congrArg c4 this.symm),λab o=>?_⟩
  rw[J] at o;injection o with o
  subst o;show VR g H w h (cells.getD (i*c.sz+a+k) undef)
  rw[this];exact R
 obtain⟨f,u⟩:=Q;refine⟨.agg ((n2 n).map f).toArray,?_,.agg _ _ (by simp[A]) λk h y l q=>?_⟩
 .have L:=run_loadCells (P:=P) w ⟨b,i*c.sz+a,c6⟩ n f (λk j=>by
   rw[h8,cell_of_row w b _ cells c.ty (0,0) D];exact(u k j).1)
  simp[execOp,I,n1,hD,loadVar,o5 V,run_sizeOf N,L]
 .have j:k<n:=by
   have:=(c7.1 l).1;omega
  rw[e6,h9 j] at q;simp at q;subst q;exact(u k j).2 h l
def acR{f:List PV}{a:Nat}{c:PV}(o:PE E x= .dw f a)(q:dP P t=c4 false)(h:f[a]?=c4 c):
 cM P ⟨d,.load t x,ty,pos,aft,gd⟩ E H c:=by
 intro g A u w p;have e:=o▸p.e.eval x;generalize s:u.eval x=z at e;cases e with
 |aW e=>
  cases e with
  |dw _ _ b C j v i B l=>
   refine⟨j a,?_,.aW (l a c h)⟩
   simp[execOp,s,n1,hD,loadVar,o5 q,i a c h]
def Z6{e:List PV}{a n:Nat}{l:List PV}(A:PE E x= .dw e a)(M:dP P t=c4 true)(F:cH P t=c4 n)(I:(e.drop a).take n=l)(u:l.length=n):
 cM P ⟨d,.load t x,ty,pos,aft,gd⟩ E H (.agg l):=by
 intro g O J w L;have j:=A▸L.e.eval x;generalize B:J.eval x=z at j;cases j with
 |aW j=>
  cases j with
  |dw _ _ b G q N K p v=>
   subst I;have s:∀k (c:k<n),∃f,e[a+k]?=c4 f/\((e.drop a).take n)[k]?=c4 f:=λk c=>by
    have p:k<((e.drop a).take n).length:=by rw[u];exact c
    refine⟨_,?_,c5 p⟩
    rw[<-ea, <-e0 c];exact c5 p
   refine⟨.agg ((n2 n).map λk=>q (a+k)).toArray,?_,.aW (.agg _ _ (by simp[u]) λk f y i o=>?_)⟩
   .have C:=run_loadCells (P:=P) w ⟨b,G+a,c6⟩ n (λk=>q (a+k)) (λk c=>by
     obtain⟨f,i,_⟩:=s k c;rw[h8,j1];exact K _ f i)
    simp[execOp,B,n1,hD,loadVar,o5 M,run_sizeOf F,C]
   .have c:k<n:=by
     have:=(c7.1 i).1;omega
    rw[e6,h9 c] at o;simp at o;subst o;obtain⟨Q,D,h⟩:=s k c;rw[i] at h;injection h with h
    subst h;exact v _ _ D
def Zx{ix:Operand}{h:Nat}{o:List PV}{e:PV}{k:IntKind}{m:Int}{i:Nat}{s:TypeId}(B:PE E x= .vs h o)(L:PE E ix= .int k m)(O:m=(i:Int))(j:o[i]?=c4 e)
 (J:dU P t=c4 s) (K:cH P s=c4 h):cM P ⟨d,.indexAddr t x ix,ty,pos,aft,gd⟩ E H (.dw e.cells 0):=by
 intro g R N w u;have l:=B▸u.e.eval x;have G:=(L▸u.e.eval ix).fQ;generalize D:N.eval x=z at l;subst O;have p:i<o.length:=(c7.1 j).1;cases l with
 |aW l=>
  cases l with
  |eX=>simp at p
  |vs _ _ b q cap I Q v S C M A=>
   refine⟨.pointer (c4 ⟨b,q+i*h,c6⟩),?_,?_⟩
   .simp[execOp,D,G,oi,asIntOf,run_underlying (gD J),run_sizeOf K,p,h8]
   .have:=VI.dw (F:=g.F) (w:=w) e.cells 0 b (q+i*h) (I i) v
     (λc f a=>by
      have:=C i c f (by unfold abk;rw[j];exact a);rw[<-j1] at this;exact this)
     (λc f a=>M i c f (by unfold abk;rw[j];exact a))
     (λc f a=>A i c f (by unfold abk;rw[j];exact a))
    exact .aW this
def lh{g:Gh}{w:World}{r v f len:Nat}{o:aO}{e:Value}(b:VR g H w (.sl r v f len) e)(c:ek H r o)(h:o.aF=v):SL g o r f len e:=by
 cases b with
 |aW b=>cases b
 |sl _ _ _ _ p _ a j l i=>
  unfold ek at c;rw[c] at a;injection a with a
  subst a;exact i h.symm
def Hm{ix:Operand}{r v e len:Nat}{c:aO}{k:IntKind}{m:Int}{i:Nat}{h:TypeId}(p:PE E x= .sl r v e len)(C:PE E ix= .int k m)(G:m=(i:Int))(u:i<len)(f:ek H r c)(o:c.aF=v)
 (A:dU P t=c4 h) (B:cH P h=c4 c.sz):cM P ⟨d,.indexAddr t x ix,ty,pos,aft,gd⟩ E H (.ptr r v (e+i) 0):=by
 intro g J K w j;have a:=lh (p▸j.e.eval x) f o;have s:=(C▸j.e.eval ix).fQ;subst G;unfold SL at a;obtain⟨L,a⟩:=a
 split at a
 .obtain⟨_,rfl,_⟩:=a;omega
 .rename_i b D l;obtain⟨cap,M,q,I,F,_⟩:=a;obtain rfl:=F (by omega);refine⟨.pointer (c4 ⟨b,e*c.sz+i*c.sz,c6⟩),?_,.ptr r v (e+i) 0 c _ f (by omega) λ_=>⟨by omega,b,D,l,by rw[l1,eo]⟩⟩
  simp[execOp,q,s,oi,asIntOf,run_underlying (gD A),run_sizeOf B,u,h8]
def aqx{e:Operand}{r v i h n c:Nat}{k:IntKind}{m:Int}{q:Nat}{j:TypeId}(s:PE E x= .ptr r v i h)(f:PE E e= .int k m)(L:m=(q:Int))(C:q<n)
 (D:pk P t=c4 (n,j)) (G:cH P j=c4 c):cM P ⟨d,.indexAddr t x e,ty,pos,aft,gd⟩ E H (.ptr r v i (h+q*c)):=by
 intro g O K w l;have a:=s▸l.e.eval x;have B:=(f▸l.e.eval e).fQ;generalize u:K.eval x=z at a;subst L;cases a with
 |aW a=>cases a
 |ptr _ _ _ _ A N J p M=>
  refine⟨.pointer (c4 (N.add (q*c))),?_,.ptr r v i _ A _ J p λF=>?_⟩
  .simp[execOp,u,B,oi,hD,asIntOf,run_underlying (Kn D),run_sizeOf G,C]
  .obtain⟨f,b,I,o,rfl⟩:=M F;exact⟨f,b,I,o,by rw[h8,j1]⟩
def ac0{a:Operand}{e:List PV}{n:Nat}{k:IntKind}{m:Int}{q:Nat}{c:TypeId}{b:PV}(l:PE E x= .agg e)(C:PE E a= .int k m)(D:m=(q:Int))(s:q<n)
 (v:pk P t=c4 (n,c)) (B:cH P c=c4 1) (F:dP P c=c4 false) (h:e[q]?=c4 b):cM P ⟨d,.index t x a,ty,pos,aft,gd⟩ E H b:=by
 intro g G I w j;obtain⟨f,p,u,A⟩:=(l▸j.e.eval x).ky;have o:=(C▸j.e.eval a).fQ;subst D;have i:q<f.length:=by rw[<-u];exact(c7.1 h).1
 refine⟨f[q],?_,A q b _ h (c5 i)⟩
 simp[execOp,p,o,Instr.index,asIntOf,run_underlying (Kn v),run_sizeOf B,s,part,o5 F,i]
def Gi{n:Nat}{ci:Array TypeId}(c:∃e,dU P t=c4 e)(j:ci=#[t])(i:∀(g:Gh) (b:Nat) (a:Act) (w:World),Rel g b E H a w->∃f cap,a.eval x= .slice f n cap):
 cM P ⟨d,.call {callee:=.builtin .len,args:=#[x],argTypes:=ci},ty,pos,aft,gd⟩ E H (.int .i64 (n:Int)):=by
 intro g b a w h;obtain⟨e,c⟩:=c;obtain⟨f,cap,l⟩:=i g b a w h;subst j;refine⟨.int .i64 (n:Int),?_,.int _ _⟩
 simp[execOp,resolve,invoke,builtin,l,Builtin.len_,run_underlying (gD c),goInt]
def ap9{b:TypeId}{a:Array TypeId}(f:PE E x= .bg)(h:a=#[t])(c:dU P t=c4 b):
 cM P ⟨d,.call {callee:=.builtin .len,args:=#[x],argTypes:=a},ty,pos,aft,gd⟩ E H (.int .i64 0):=
 Gi (n:=0) ⟨b,c⟩ h λ_ _ _ _ e=>⟨c6,0,(f▸e.e.eval x).pF⟩
def acm{b:TypeId}{a:Array TypeId}(f:PE E x= .z0)(h:a=#[t])(c:dU P t=c4 b):
 cM P ⟨d,.call {callee:=.builtin .len,args:=#[x],argTypes:=a},ty,pos,aft,gd⟩ E H (.int .i64 0):=
 Gi (n:=0) ⟨b,c⟩ h λ_ _ _ _ e=>let ⟨i,j⟩:=(f▸e.e.eval x).rh;⟨i,0,j⟩
def akg{k:IntKind}{m n:Int}{e:Array TypeId}(c:PE E x= .int k m)(i:PE E y= .int k n):
 cM P ⟨d,.call {callee:=.builtin .min,args:=#[x,y],argTypes:=e},ty,pos,aft,gd⟩ E H (.int k (min m n)):=by
 intro g j l w a;have b:=(c▸a.e.eval x).fQ;have f:=(i▸a.e.eval y).fQ;have h:(if n<m then n else m)=min m n:=by split <;> omega
 refine⟨.int k (min m n),?_,.int _ _⟩
 simp[execOp,resolve,invoke,builtin,b,f,Builtin.min_,Builtin.min2,h]
def ae4{k:IntKind}{m n:Int}{e:Array TypeId}(c:PE E x= .int k m)(i:PE E y= .int k n):
 cM P ⟨d,.call {callee:=.builtin .max,args:=#[x,y],argTypes:=e},ty,pos,aft,gd⟩ E H (.int k (max m n)):=by
 intro g j l w a;have b:=(c▸a.e.eval x).fQ;have f:=(i▸a.e.eval y).fQ;have h:(if m<n then n else m)=max m n:=by split <;> omega
 refine⟨.int k (max m n),?_,.int _ _⟩
 simp[execOp,resolve,invoke,builtin,b,f,Builtin.max_,Builtin.max2,h]
end
end Go.Bml
namespace Go.Bml
open Go
open Go.RowKit (Below)
def gI(g:Gh)(H:List aO)(w:World)(d:Nat)(b:List PV)(e:List Value):Prop:=
 e.length=b.length*d/\∀i c f,abk b i c=c4 f->∃a,e[i*d+c]?=c4 a/\a.oneCell'=true/\VR g H w f a
def nN{w:World}{b:Nat}{a:Obj}(c:w.heap[b]?=c4 a):b<w.heap.size:=(Array.getElem?_eq_some_iff.1 c).1
section
variable {g:Gh}{H:List aO}{w:World}
def bF.qD(h:bF g H w){r b C:Nat}(a:g.β r=c4 (b,C)):b<w.heap.size:=by
 have d:=h.m8 r b C a;have c:=(h.obj r _ (c5 d)).mem;rw[a] at c;obtain⟨_,cells,e,_⟩:=c;exact nN e
def Gh.push(g:Gh)(r:Nat)(p:Option (Nat×Nat)):Gh:={F:=g.F,β:=λq=>if q=r then p else g.β q}
def Gh.kg(g:Gh)(r:Nat)(p:Option (Nat×Nat)):(g.push r p).β r=p:=by simp[Gh.push]
def Gh.kS(g:Gh){r q:Nat}(p:Option (Nat×Nat))(h:q≠r):(g.push r p).β q=g.β q:=by simp[Gh.push,h]
def bF.T6(h:bF g H w)(ty sz:Nat)(N:0<sz):
 GStep H.length g H w (g.push H.length c6) (H++[⟨ty,sz,[],0⟩]) w/\bF (g.push H.length c6) (H++[⟨ty,sz,[],0⟩]) w:=by
 have x:GStep H.length g H w (g.push H.length c6) (H++[⟨ty,sz,[],0⟩]) w:=
  ⟨rfl,rfl,rfl,ef _,λ_ a=>a,λ_ _=>rfl,λ_ _ _=>rfl,λ_ a=>.inl a,λq b C a=>by
   by_cases e:q=H.length
   .subst e;rw[Gh.kg] at a;cases a
   .rw[Gh.kS g _ e] at a;exact .inr ⟨q,C,a⟩,λr n o j=>⟨n,by rw[dv o];exact j,ef _,λ_=>⟨rfl,rfl,Gh.kS g _ (by omega)⟩⟩⟩
 refine⟨x,⟨h.fb,?_,?_,?_⟩⟩
 .intro r t b C1 C2 l k
  by_cases d:r=H.length
  .subst d;rw[Gh.kg] at l;cases l
  .by_cases u:t=H.length
   .subst u;rw[Gh.kg] at k;cases k
   .rw[Gh.kS g _ d] at l;rw[Gh.kS g _ u] at k;exact h.inj r t b C1 C2 l k
 .intro r b s a
  by_cases d:r=H.length
  .subst d;simp
  .rw[Gh.kS g _ d] at a;have:=h.m8 r b s a;simp;omega
 .intro r n j
  by_cases d:r=H.length
  .subst d;rw[dt (ef _)] at j;simp at j;subst j;exact⟨N,by simp,by rw[Gh.kg]⟩
  .have o:r<H.length:=by
    have:=(c7.1 j).1;simp at this;omega
   rw[dv o] at j;obtain⟨a1,M,m⟩:=h.obj r n j;refine⟨a1,M,?_⟩
   rw[Gh.kS g _ d];cases a:g.β r with
   |none=>rw[a] at m;exact m
   |some p=>
    obtain⟨b,s⟩:=p;rw[a] at m;obtain⟨J,y,A,I,F,L,D⟩:=m;refine⟨J,y,A,I,F,L,λi E c K=>?_⟩
    obtain⟨B,l,k,G⟩:=D i E c K;exact⟨B,l,k,G.nZ x⟩
def wG(g:Gh)(H:List aO)(w h:World)(a:aO):Option (Nat×Nat)->Prop
 |none=>a.es=[]
 |some (b,c)=>∃cells,h.heap[b]?=c4 (.cells cells a.ty (0,0))/\cells.size=c*a.sz/\c<=maxLen/\a.es.length<=c/\∀i e f,abk a.es i e=c4 f->∃d,cells[i*a.sz+e]?=c4 d/\d.oneCell'=true/\VR g H w f d
def bF.set(h:bF g H w){r:Nat}{o o':aO}{w':World}{p:Option (Nat×Nat)}(M:H[r]?=c4 o)(ae:w'.os=w.os)(aa:w'.tape=w.tape)(ab:w'.output=w.output)(U:w.heap.size<=w'.heap.size)
 (A:∀b,b<w.heap.size->(∀C,g.β r≠c4 (b,C))->w'.heap[b]?=w.heap[b]?)
 (X:o.aF<=o'.aF) (W:o'.aF=o.aF->o'.sz=o.sz/\o'.es.length=o.es.length/\p=g.β r)
 (x:∀b C,p=c4 (b,C)->(∃d,g.β r=c4 (b,d))\/w.heap.size<=b)
 (ak:0<o'.sz) (ag:∀(i:Nat) (e:PV),o'.es[i]?=c4 e->e.cells.length=o'.sz)
 (S:wG g H w w' o' p)
 :
  GStep H.length g H w (g.push r p) (H.set r o') w'/\bF (g.push r p) (H.set r o') w':=by
  have y:r<H.length:=(c7.1 M).1;have Z:=h.obj r o M;have R:∀b C,g.β r=c4 (b,C)->¬g.F b:=λb C a=>by
   have:=Z.mem;rw[a] at this;exact this.1
  have J:GStep H.length g H w (g.push r p) (H.set r o') w':=by
   refine⟨ae,aa,ab,U,λ_ a=>a,λb a=>A b (h.fb b a) λC l=>R b C l a,λb a ad=>A b a λC=>ad r C,λ_ a=>.inl a,λq b C a=>?_,λq D al n=>?_⟩
   .by_cases e:q=r
    .subst e;rw[Gh.kg] at a;rcases x b C a with⟨d,l⟩ |t
     .exact .inr ⟨q,d,l⟩
     .exact .inl t
    .rw[Gh.kS g _ e] at a;exact .inr ⟨q,C,a⟩
   by_cases e:q=r
   .subst e;rw[M] at n;injection n with n
    subst n;refine⟨o',by simp[y],X,λaj=>?_⟩
    obtain⟨af,ai,ac⟩:=W aj;exact⟨af,ai,by rw[Gh.kg];exact ac⟩
   .exact⟨D,by rw[ey (qb e)];exact n,ef _,λ_=>⟨rfl,rfl,Gh.kS g _ e⟩⟩
  refine⟨J,⟨λb a=>l4 (h.fb b a) U,?_,?_,?_⟩⟩
  .intro q T b C1 C2 m k
   by_cases j:q=r <;> by_cases I:T=r
   .omega
   .subst j;rw[Gh.kg] at m;rw[Gh.kS g _ I] at k;rcases x b C1 m with⟨d,l⟩ |t
    .exact h.inj _ _ b d C2 l k
    .have:=h.qD k;omega
   .subst I;rw[Gh.kg] at k;rw[Gh.kS g _ j] at m;rcases x b C2 k with⟨d,l⟩ |t
    .exact h.inj _ _ b C1 d m l
    .have:=h.qD m;omega
   .rw[Gh.kS g _ j] at m;rw[Gh.kS g _ I] at k;exact h.inj q T b C1 C2 m k
  .intro q b d a
   by_cases j:q=r
   .subst j;simpa using y
   .rw[Gh.kS g _ j] at a;simpa using h.m8 q b d a
  .intro q D n
   by_cases j:q=r
   .subst j;simp[y] at n;subst n;refine⟨ak,ag,?_⟩
    rw[Gh.kg];cases p with
    |none=>exact S
    |some B=>
     obtain⟨b,C⟩:=B;obtain⟨cells,s,N,K,P,F⟩:=S;refine⟨λQ=>?_,cells,s,N,K,P,λi G c O=>?_⟩
     .rcases x b C rfl with⟨d,l⟩ |t
      .exact R b d l Q
      .have:=h.fb b Q;omega
     .obtain⟨E,m,k,L⟩:=F i G c O;exact⟨E,m,k,L.nZ J⟩
   .rw[ey (qb j)] at n;obtain⟨a1,Y,u⟩:=h.obj q D n;refine⟨a1,Y,?_⟩
    rw[Gh.kS g _ j];cases a:g.β q with
    |none=>rw[a] at u;exact u
    |some B=>
     obtain⟨b,d⟩:=B;rw[a] at u;obtain⟨ah,V,s,N,K,P,F⟩:=u;refine⟨ah,V,(A b (nN s) λC l=>j (h.inj _ _ b _ _ a l)).trans s,N,K,P,λi G c O=>?_⟩
     obtain⟨E,m,k,L⟩:=F i G c O;exact⟨E,m,k,L.nZ J⟩
end
def Ez{g:Gh}{m:Nat}{H:List aO}{w:World}(d:bF g H w):GStep m g H w g H w.drew/\bF g H w.drew:=by
 have j:∀m,GStep m g H w g H w.drew:=λm=>⟨rfl,rfl,rfl,ef _,λ_ a=>a,λ_ _=>rfl,λ_ _ _=>rfl,λ_ a=>.inl a,λr _ k a=>.inr ⟨r,k,a⟩,λr e _ f=>⟨e,f,ef _,λ_=>⟨rfl,rfl,rfl⟩⟩⟩
 refine⟨j m,d.fb,d.inj,d.m8,λr e f=>?_⟩
 obtain⟨B,E,c⟩:=d.obj r e f;refine⟨B,E,?_⟩
 cases h:g.β r with
 |none=>rw[h] at c;exact c
 |some o=>
  obtain⟨b,k⟩:=o;rw[h] at c;obtain⟨A,l,p,z,u,D,s⟩:=c;exact⟨A,l,p,z,u,D,λi t v C=>let ⟨q,y,n,x⟩:=s i t v C;⟨q,y,n,x.nZ (j _)⟩⟩
def PV.one:PV->Bool
 | .agg _ | .bu _ | .any=>false
 |_=>true
def VR.M8{g:Gh}{H:List aO}{w:World}{c:PV}{x:Value}(h:VR g H w c x)(e:c.one=true):x.oneCell'=true:=by
 cases h with
 |aW h=>cases h <;> first |rfl |(simp[PV.one] at e;done)
 |ptr=>rfl
 |sl r v off len o x n d a l=>exact a
 |fl r v o x n d a l=>exact a
 |agg j m k d=>simp[PV.one] at e
 |bu j m k d=>simp[PV.one] at e
 |fn=>rfl
end Go.Bml
namespace Go.Bml
open Go
section
variable {g:Gh}{H:List aO}{w:World}
def VR.tZ{v:PV}{x:Value}(h:VR g H w v x)(j:v.cells.all PV.one=true)(ht:∀vs,v≠ .bu vs):x.cells.toList.length=v.cells.length/\
 ∀(e:Nat) (c:PV),v.cells[e]?=c4 c->∃k,x.cells[e]?=c4 k/\k.oneCell'=true/\VR g H w c k:=by
 by_cases B:∃l,v= .agg l
 .obtain⟨l,rfl⟩:=B;obtain⟨s,rfl,n,F⟩:=h.ky;refine⟨by simp[o6,PV.cells,n],λe c a=>?_⟩
  simp only[PV.cells] at a j;have m:e<s.length:=by rw[<-n];exact(c7.1 a).1
  have o:=F e c _ a (c5 m);refine⟨s[e],by simp[o6,m],o.M8 ?_,o⟩
  exact h7.1 j c (dT a)
 .have A:v.cells=[v]:=by cases v <;> first |rfl |exact absurd ⟨_,rfl⟩ B
  have D:v.one=true:=by rw[A] at j;simpa using j
  have u:=h.M8 D;have C:x.cells=#[x]:=by cases x <;> first |rfl |(simp[Value.oneCell'] at u;done)
  rw[A,C];refine⟨rfl,λe c a=>?_⟩
  match e,a with
  |0,a=>
   simp at a;subst a;exact⟨x,rfl,u,h⟩
def Rk{v:PV}{i b:Nat}{c:PV}(a:abk [v] i b=c4 c):i=0/\v.cells[b]?=c4 c:=by
 unfold abk at a
 match i,a with
 |0,a=>exact⟨rfl,by simpa using a⟩
 |i+1,a=>simp at a
end
section
variable {P:Program}{nt:Nat}{Q:fE}{E:Env}{H:List aO}{d:Option Nat}{ty:TypeId}{pos:String}{aft:Array Edge}{x y z:Operand}{t:TypeId}{all:Array Oper}{rest:List Oper}
def nY(P:Program)(E:Env)(H:List aO)(r:Oper)(elem a:Nat)(b:List PV)(v:Nat->Nat->PV):Prop:=
 ∀g nt (j:Act) w,Rel g nt E H j w->∃(cells:Array Value) (c:Nat) (x:Value) (f:World),(execOp j.eval r).run P w= .ok (.value x) (f.alloc (.cells cells elem))/\(f=w\/f=w.drew)/\
  0<a/\(∀(i:Nat) (l:PV),b[i]?=c4 l->l.cells.length=a)/\cells.size=c*a/\c<=maxLen/\b.length<=c/\
  (∀i k o,abk b i k=c4 o->∃e,cells[i*a+k]?=c4 e/\e.oneCell'=true/\VR g H w o e)/\
  (∀m h p q n,m.β q=c4 (w.heap.size,c)->h[q]?=c4 ⟨elem,a,b,n⟩->VR m h p (v q n) x)
def sX{B:Op}{elem e q af J c:Nat}{f:List PV}{v:Nat->Nat->PV}(o:H[q]?=c4 ⟨af,J,[],c⟩)
 (h:nY P E H ⟨d,B,ty,pos,aft,c6⟩ elem e f v):
 fJ P ⟨d,B,ty,pos,aft,c6⟩ E H λN M=>N=v q (c+1)/\M=H.set q ⟨elem,e,f,c+1⟩:=by
 intro g nt aa w r aj ai F;obtain⟨cells,k,x,a,U,L,ag,Y,K,ae,T,A,I⟩:=h g nt aa w r;unfold n0;rw[U];have W:=(c7.1 o).1;have C:∀a:World,bF g H a->(∀i l n,abk f i l=c4 n->∃j,cells[i*e+l]?=c4 j/\j.oneCell'=true/\VR g H a n j)->
  GStep H.length g H a (g.push q (c4 (a.heap.size,k))) (H.set q ⟨elem,e,f,c+1⟩) (a.alloc (.cells cells elem))/\
  bF (g.push q (c4 (a.heap.size,k))) (H.set q ⟨elem,e,f,c+1⟩) (a.alloc (.cells cells elem)):=λa s R=>by
  have ak:=(s.obj q _ o).mem;refine s.set o rfl rfl rfl (by simp) (λb G _=>gv a _ b G) (by simp) (λh=>absurd h (by simp)) (λb ah h=>?_) ag Y ?_
  .injection h with h;injection h with p u;subst p;exact .inr (ef _)
  .refine⟨cells,heap_alloc_new a _,K,ae,T,R⟩
 have O:GStep H.length g H w (g.push q (c4 (w.heap.size,k))) (H.set q ⟨elem,e,f,c+1⟩) (a.alloc (.cells cells elem))/\
  bF (g.push q (c4 (w.heap.size,k))) (H.set q ⟨elem,e,f,c+1⟩) (a.alloc (.cells cells elem)):=by
  rcases L with rfl |rfl
  .exact C _ r.m A
  .obtain⟨D,ad⟩:=Ez (m:=H.length) r.m;obtain⟨ab,S⟩:=C _ ad λi l n ac=>let ⟨j,p,u,Z⟩:=A i l n ac;⟨j,p,u,Z.nZ D⟩
   exact⟨D.trans ab,S⟩
 obtain⟨X,V⟩:=O;exact F x _ (g.push q (c4 (w.heap.size,k))) (v q (c+1)) (H.set q ⟨elem,e,f,c+1⟩) ⟨rfl,rfl⟩ (I _ _ _ _ _ (Gh.kg _ _ _) (by simp[W])) V X
def P7{f:Gh}{e:List aO}{j:World}{elem k c b q a:Nat}{v:PV}(i:f.β q=c4 (b,c))(h:e[q]?=c4 ⟨elem,k,[v],a⟩):
 VR f e j (.ptr q a 0 0) (.pointer (c4 ⟨b,0,c6⟩)):=
 .ptr _ a 0 0 _ _ h (ef _) λ_=>⟨by simp,b,c,i,by simp⟩
def FO{g':Gh}{f:List aO}{w':World}{elem k c b q e:Nat}{a:List PV}(i:g'.β q=c4 (b,c))(h:f[q]?=c4 ⟨elem,k,a,e⟩)(j:a.length<=c):
 VR g' f w' (.sl q e 0 a.length) (.slice (c4 ⟨b,0,c6⟩) a.length c):=
 .sl _ e 0 _ _ _ h (ef _) rfl λ_=>by
  refine⟨by simp,?_⟩
  rw[i];exact⟨c,_,rfl,j,λ_=>by simp,λ_=>⟨rfl,rfl⟩⟩
def alO{elem c:Nat}{v:PV}(j:PE E x=v)(B:v.cells.length=c)(A:0<c)(p:v.cells.all PV.one=true)(l:∀vs,v≠ .bu vs):
 nY P E H ⟨d,.box elem x,ty,pos,aft,c6⟩ elem c [v] (λq e=>.ptr q e 0 0):=by
 intro g nt r w s;have h:=j▸s.e.eval x;obtain⟨u,o⟩:=h.tZ p l;refine⟨(r.eval x).cells,1,.pointer (c4 ⟨w.heap.size,0,c6⟩),w,?_,.inl rfl,A,?_,?_,by simp[maxLen],by simp,?_,λF C G q e f k=>P7 f k⟩
 .simp[execOp,Instr.box,newVar,newRow]
 .intro i D a
  match i,a with
  |0,a=>simp at a;subst a;exact B
  |i+1,a=>simp at a
 .simp at u;omega
 .intro i m n b;obtain⟨rfl,b⟩:=Rk b;simpa using o m n b
def Hl(z:Value)(vs:List PV):kP z≠ .bu vs:=by
 unfold kP
 split
 .simp
 .unfold jq
  split <;> simp
def Ug{elem e:Nat}{b:Value}{v:PV}(k:dV P elem=c4 b)(f:kP b=v)(A:v.cells.length=e)(u:0<e)(r:v.cells.all PV.one=true):
 nY P E H ⟨d,.alloc elem,ty,pos,aft,c6⟩ elem e [v] (λq h=>.ptr q h 0 0):=by
 intro g nt F w I;have p:VR g H w v b:=f▸ .aW (AE _ _ _);obtain⟨s,o⟩:=p.tZ r (λvs=>f▸Hl b vs);refine⟨b.cells,1,.pointer (c4 ⟨w.heap.size,0,c6⟩),w,?_,.inl rfl,u,?_,?_,by simp[maxLen],by simp,?_,λD B G q h j l=>P7 j l⟩
 .simp[execOp,Instr.alloc,Ey k,newVar,newRow]
 .intro i C a
  match i,a with
  |0,a=>simp at a;subst a;exact A
  |i+1,a=>simp at a
 .simp at s;omega
 .intro i m n c;obtain⟨rfl,c⟩:=Rk c;simpa using o m n c
def kB(P:Program)(t:TypeId):Option Nat:=(P.info? t).map (·.bytes)
def Rq{c:Nat}{v:PV}{i e:Nat}{f:PV}(a:abk (hB c v) i e=c4 f):i<c/\v.cells[e]?=c4 f:=by
 unfold abk at a
 by_cases b:i<c
 .rw[List.getElem?_replicate_of_lt b] at a;exact⟨b,by simpa using a⟩
 .rw[hI (by simpa using b)] at a;simp at a
def aax{l j:Operand}{elem b m:Nat}{c:Value}{v:PV}{r u:IntKind}{D A:Int}{a:Nat}(S:PE E l= .int r D)(f:PE E j= .int u A)(ah:D=(a:Int))(W:A=(a:Int))(V:dU P t=c4 elem)(s:cH P elem=c4 b)(O:kB P elem=c4 m)
 (an:a*m<=281474976710656) (ap:a<=9223372036854775807) (N:dV P elem=c4 c) (n:kP c=v) (G:v.cells.length=b) (aj:0<b) (ad:v.cells.all PV.one=true):
 nY P E H ⟨d,.makeSlice t l j,ty,pos,aft,c6⟩ elem b (hB a v) (λq p=>.sl q p 0 a):=by
 intro g nt ao w F;have Z:VR g H w v c:=n▸ .aW (AE _ _ _);obtain⟨ai,X⟩:=Z.tZ ad (λvs=>n▸Hl c vs);have Y:=(S▸F.e.eval l).fQ;have af:=(f▸F.e.eval j).fQ;subst ah;subst W;cases k:P.info? elem with
 |none=>simp[cH,k] at s
 |some e=>
  have U:e.zero=c4 c:=by simpa[dV,k] using N
  have o:e.size=b:=by simpa[cH,k] using s
  have ak:e.bytes=m:=by simpa[kB,k] using O
  have ac:(e.bytes:Int)*(a:Int)<=281474976710656:=by
   have:((e.bytes*a:Nat):Int)<=281474976710656:=by rw[ak,l2];omega
   rwa [Int.natCast_mul] at this
  have B:=run_make (P:=P) w t elem e c (gD V) k U r u a a (by omega) (by omega) ac (by omega);simp only[Int.toNat_natCast] at B;have K:c.cells.size=b:=by simp at ai;omega
  refine⟨madeCells c.cells (a*e.size),a,.slice (c4 ⟨w.heap.size,0,c6⟩) a a,w,?_,.inl rfl,aj,?_,?_,by unfold maxLen;omega,by simp,?_,λg' al w' q p I R=>?_⟩
  .simp[execOp,Y,af,B]
  .intro i am ae;have C:=(c7.1 ae).2;simp at C;subst C;exact G
  .rw[size_madeCells,o]
  .intro i h j f;obtain⟨aq,f⟩:=Rq f;obtain⟨T,ag,aa,M⟩:=X h j f;have J:h<b:=by rw[<-G];exact(c7.1 f).1
   refine⟨T,?_,aa,M⟩
   have ab:i*b+h<a*b:=by
    have:(i+1)*b<=a*b:=ev _ (by omega);rw[eo,hX] at this;omega
   have L:(i*b+h)%c.cells.size=h:=by
    rw[K,l2,q3,p0 J]
   simp only[madeCells,o];rw[Array.getElem?_map,Array.getElem?_range];rw[if_pos ab];simp only[o1,L];rw[getElem!_def,ag]
  .have:=FO (g':=g') (w':=w') I R (by simp);simpa using this
end
section
variable {P:Program}{nt:Nat}{Q:fE}{E:Env}{H:List aO}{d:Option Nat}{ty:TypeId}{pos:String}{aft:Array Edge}{x y z:Operand}{t:TypeId}{all:Array Oper}{rest:List Oper}
def WX{b:List PV}{i:Nat}{h f:PV}(j:b[i]?=c4 h)(a c:Nat):abk (b.set i f) a c=if a=i then f.cells[c]? else abk b a c:=by
 unfold abk
 by_cases e:a=i
 .subst e;have g:=(c7.1 j).1;simp[g]
 .simp[e,ey (qb e)]
def QH{r v i a:Nat}{o:aO}{p e e':PV}(aF:PE E x= .ptr r v i a)(U:ek H r o)(ay:o.aF=v)(am:PE E y=p)(ar:cH P t=c4 p.cells.length)
 (ao:p.cells.all PV.one=true) (ak:∀vs,p≠ .bu vs) (M:o.es[i]?=c4 e) (aX:a+p.cells.length<=e.cells.length) (aa:e'.cells=e.cells.take a++p.cells++e.cells.drop (a+p.cells.length)):
 fJ P ⟨d,.store t x y,ty,pos,aft,c6⟩ E H λaA H1=>aA= .any/\H1=H.set r ⟨o.ty,o.sz,o.es.set i e',o.aF⟩:=by
 intro g nt k u G aP aT aE;obtain⟨b,D,aK,az,K,aj,ad,W,ag,T⟩:=Dc G.m (aF▸G.e.eval x) U ay;have an:=am▸G.e.eval y;obtain⟨I,X⟩:=an.tZ ao ak;have F:=G.m.obj r o U;have aL:=F.width i e M;have J:i*o.sz+a+0+(k.eval y).cells.toList.length<=aK.size:=by
  rw[W,I];have:(i+1)*o.sz<=D*o.sz:=ev _ (by omega);rw[eo,hX] at this;omega
 have O:∀c∈(k.eval y).cells.toList,c.oneCell'=true:=by
  intro c j;obtain⟨s,ac,rfl⟩:=ej j;have au:s<p.cells.length:=by omega
  obtain⟨c,j,m,_⟩:=X s _ (c5 au);have:(k.eval y).cells.toList[s]=c:=by
   rw[<-fe,c5 ac] at j;injection j
  rw[this];exact m
 have ab:=run_storeCells_at P b (i*o.sz+a) o.ty (k.eval y).cells.toList 0 aK u ad J O;simp only[l1] at ab;have af:H[r]?=c4 o:=U;have aB:(execOp k.eval ⟨d,.store t x y,ty,pos,aft,c6⟩).run P u= .ok .skip (u.setRow b (aK.toList.take (i*o.sz+a)++(k.eval y).cells.toList++aK.toList.drop (i*o.sz+a+(k.eval y).cells.toList.length)).toArray):=by
  have ai:(k.eval y).cells.size=p.cells.length:=by simpa using I
  simp only[execOp,az,Instr.storeAt,hD,gb,hz,ez,storeVar,run_sizeOf ar,ai,ne_eq,not_true_eq_false,if_false,ab]
 unfold n0;rw[aB];generalize S:(aK.toList.take (i*o.sz+a)++(k.eval y).cells.toList++aK.toList.drop (i*o.sz+a+(k.eval y).cells.toList.length)).toArray=n;have ap:n.size=aK.size:=by
  rw[<-S];simp only[kc,eH,ft,j5,gy];simp at J⊢;omega
 have aq:∀s,s<p.cells.length->n[i*o.sz+a+s]?=(k.eval y).cells[s]? :=λs ac=>by
  rw[<-S,kd,eE,dt (by simp;omega),dv (by simp at I⊢;omega)];simp
  congr 1
  simp at J;omega
 have V:∀q,q<i*o.sz+a\/i*o.sz+a+p.cells.length<=q->n[q]?=aK[q]? :=λq L=>by
  rw[<-S,kd];simp at J;rcases L with L |L
  .rw[eE,dv (by simp;omega),e0 L];simp
  .rw[dt (by simp at I⊢;omega),ea];simp at I⊢
   congr 1
   omega
 have aN:i*o.sz+a<=aK.size:=by simp at J;omega
 have ah:=G.m.set (r:=r) (o:=o) (o':=⟨o.ty,o.sz,o.es.set i e',o.aF⟩) (w':=u.setRow b n) (p:=c4 (b,D)) af rfl rfl rfl (by simp)
  (λY aR av=>setRow_other u b Y n (λe=>av D (by rw[e];exact K))) (ef _) (λ_=>⟨rfl,by simp,K.symm⟩)
  (λY aS R=>by injection R with R;injection R with O m;subst O;exact .inl ⟨D,K⟩) F.pos
  (λh N B=>by
   by_cases A:h=i
   .subst A;simp[aj] at B;subst B;rw[aa];simp;omega
   .simp only at B;rw[ey (qb A)] at B;exact F.width h N B)
  (by
   have ae:=F.mem;rw[K] at ae;obtain⟨_,aV,aJ,aM,aG,aQ,aU⟩:=ae;refine⟨n,setRow_heap u b aK n o.ty (0,0) ad,by rw[ap,W],aG,by simpa using ag,λh l C f=>?_⟩
   show ∃c,n[h*o.sz+l]?=c4 c/\c.oneCell'=true/\VR g H u C c
   simp only at f;rw[WX M] at f
   by_cases A:h=i
   .subst A;rw[if_pos rfl,aa,eE] at f
    by_cases ax:l<a
    .rw[dv (by simp;omega),e0 ax] at f;obtain⟨c,j,m,w⟩:=T h l C (by unfold abk;rw[M];exact f);exact⟨c,(V _ (.inl (by omega))).trans j,m,w⟩
    .rw[dt (by simp;omega)] at f;have aw:min a e.cells.length=a:=by omega
     simp only[ft,aw] at f
     by_cases Z:l -a<p.cells.length
     .rw[dv Z] at f;obtain⟨c,j,m,w⟩:=X _ C f;refine⟨c,?_,m,w⟩
      have:=aq (l -a) Z;rw[show h*o.sz+a+(l -a)=h*o.sz+l by omega] at this;exact this.trans j
     .rw[dt (by omega),ea] at f;rw[show a+p.cells.length+(l -a -p.cells.length)=l by omega] at f;obtain⟨c,j,m,w⟩:=T h l C (by unfold abk;rw[M];exact f);exact⟨c,(V _ (.inr (by omega))).trans j,m,w⟩
   .rw[if_neg A] at f;obtain⟨c,j,m,w⟩:=T h l C f;refine⟨c,(V _ ?_).trans j,m,w⟩
    obtain⟨N,aD,aY⟩:=gw f;have aI:=F.width h N aD;rcases Nat.lt_or_gt_of_ne A with aH |jo
    .have:(h+1)*o.sz<=i*o.sz:=ev _ aH;rw[eo,hX] at this;exact .inl (by omega)
    .have:(i+1)*o.sz<=h*o.sz:=ev _ jo;rw[eo,hX] at this;exact .inr (by omega))
 obtain⟨aC,al⟩:=ah;exact aE undef _ (g.push r (c4 (b,D))) .any _ ⟨rfl,rfl⟩ (.any _) al aC
def lE(H:List aO)(p:PV)(c:Nat)(a:List PV):Prop:=
 p= .vs c a\/(p= .bg/\a=[])\/(p= .z0/\a=[])\/∃r v e len b,p= .sl r v e len/\ek H r b/\b.aF=v/\b.sz=c/\a=(b.es.drop e).take len
def Jv{b a q:Nat}(c:0<a)(e:q<b*a):q/a<b/\q%a<a/\q/a*a+q%a=q:=by
 refine⟨(Nat.div_lt_iff_lt_mul c).2 e,q5 _ c,?_⟩
 rw[l2];exact Nat.div_add_mod q a
def Gg{a:List PV}{f i b:Nat}(g:∀(i:Nat) (c:PV),a[i]?=c4 c->c.cells.length=f)(h:i<a.length)(k:b<f):∃j,abk a i b=c4 j:=by
 have e:=c5 h;have:=g i _ e;refine⟨a[i].cells[b]'(by omega),?_⟩
 unfold abk;rw[e];exact c5 (by omega)
def gI.one{g:Gh}{H:List aO}{A:World}{sz:Nat}{es:List PV}{l:List Value}(h:gI g H A sz es l)(C:0<sz)(m:∀(i:Nat) (e:PV),es[i]?=c4 e->e.cells.length=sz):∀j∈l,j.oneCell'=true:=by
 intro j o;obtain⟨q,k,rfl⟩:=ej o;obtain⟨u,s,n⟩:=Jv C (h.1▸k);obtain⟨c,w⟩:=Gg m u s;obtain⟨j,a,B,_⟩:=h.2 _ _ _ w;rw[n,c5 k] at a;injection a with a
 rw[a];exact B
def lE.real{g:Gh}{A:World}{p:PV}{sz:Nat}{l:List PV}{v:Value}(ai:bF g H A)(h:lE H p sz l)(o:VR g H A p v)(R:0<sz):
 (∀(i:Nat) (e:PV),l[i]?=c4 e->e.cells.length=sz)/\∃a cap,v= .slice a l.length cap/\(l=[]\/∃O K,a=c4 O/\gI g H A sz l K/\∀k m,K[k]?=c4 m->A.cell? (O.add k)=c4 m):=by
 rcases h with rfl |⟨rfl,rfl⟩ |⟨rfl,rfl⟩ |⟨r,an,off,len,j,rfl,M,ae,w,rfl⟩
 .cases o with
  |aW o=>
   cases o with
   |eX sz a cap=>exact⟨by simp,a,cap,rfl,.inl rfl⟩
   |vs _ _ b off cap m G al w u I ak=>
    refine⟨w,c4 ⟨b,off,c6⟩,cap,rfl,.inr ⟨⟨b,off,c6⟩,(n2 (l.length*sz)).map λq=>m (q/sz) (q%sz),rfl,⟨by simp,λi k c B=>?_⟩,λq am D=>?_⟩⟩
    .obtain⟨e,he,S⟩:=gw B;have hi:=(c7.1 he).1;have ad:=w i e he;have J:i*sz+k<l.length*sz:=by
      have:(i+1)*sz<=l.length*sz:=ev _ (by omega);rw[eo,hX] at this;omega
     refine⟨m i k,?_,I i k c B,.aW (ak i k c B)⟩
     rw[e6,h9 J];have V:(i*sz+k)/sz=i:=by rw[l2,Nat.mul_add_div R,Nat.div_eq_of_lt (by omega)];omega
     have ac:(i*sz+k)%sz=k:=by rw[l2,q3,p0 (by omega)]
     simp[V,ac]
    .have L:q<l.length*sz:=by
      have:=(c7.1 D).1;simpa using this
     rw[e6,h9 L] at D;simp at D;subst D;obtain⟨af,Y,U⟩:=Jv R L;obtain⟨c,B⟩:=Gg w af Y;have:=u _ _ _ B;rw[U] at this;rw[h8];exact this
 .exact⟨by simp,c6,0,o.pF,.inl rfl⟩
 .obtain⟨a,aj⟩:=o.rh;exact⟨by simp,a,0,aj,.inl rfl⟩
 .have s:=lh o M ae;have F:=ai.obj r j M;subst w;unfold SL at s;obtain⟨ap,s⟩:=s;have G:((j.es.drop off).take len).length=len:=by simp;omega
  refine⟨λi e he=>?_,?_⟩
  .rw[h6] at he
   split at he
   .rw[ea] at he;exact F.width _ e he
   .cases he
  .rw[G]
   split at s
   .obtain⟨_,rfl,a,rfl⟩:=s;exact⟨a,0,rfl,.inl (by simp)⟩
   .rename_i b C T;obtain⟨cap,a,rfl,_,ag,_⟩:=s;refine⟨a,cap,rfl,?_⟩
    by_cases h0:len=0
    .exact .inl (by simp[h0])
    .obtain rfl:=ag h0;have N:=F.mem;rw[T] at N;obtain⟨_,cells,aa,ah,ao,aq,ab⟩:=N;have X:(off+len)*j.sz<=C*j.sz:=ev _ (by omega);rw[eo] at X;refine .inr ⟨⟨b,off*j.sz,c6⟩,(cells.toList.drop (off*j.sz)).take (len*j.sz),rfl,⟨by rw[G,ft,j5,gy,ah];omega,λi k c u=>?_⟩,λq m n=>?_⟩
     .obtain⟨e,he,S⟩:=gw u;rw[h6] at he
      split at he
      .rename_i hi;rw[ea] at he;have ad:=F.width _ e he;have Z:abk j.es (off+i) k=c4 c:=by
        unfold abk at u⊢;rw[e0 hi,ea] at u;exact u
       obtain⟨m,n,I,W⟩:=ab _ _ _ Z;refine⟨m,?_,I,W⟩
       have J:i*j.sz+k<len*j.sz:=by
        have:(i+1)*j.sz<=len*j.sz:=ev _ (by omega);rw[eo,hX] at this;omega
       rw[e0 J,ea,fe, <-j1, <-eo];exact n
      .cases he
     .rw[h6] at n
      split at n
      .rw[ea,fe] at n;rw[h8,cell_of_row A b _ cells j.ty (0,0) aa];exact n
      .cases n
end
section
variable {P:Program}{nt:Nat}{Q:fE}{E:Env}{H:List aO}{d:Option Nat}{ty:TypeId}{pos:String}{aft:Array Edge}{x y z:Operand}{t:TypeId}{all:Array Oper}{rest:List Oper}
def xr{c:World}{h e:TypeId}{k a cap l:Nat}{b f:Option Addr}(j:P.underlying t=c4 (.slice e))(g:cH P e=c4 k)(i:a<=cap):
 (hL #[t,t] h #[.slice b a cap,.slice f 0 l]).run P c= .ok (.slice b a cap) c:=by
 cases b <;> cases f <;> simp[hL,run_underlying j,run_sizeOf g,Builtin.lenOf,Builtin.firstCells,i,loadCells,loadCellsFrom,storeCells]
def Ei{b:Operand}{a:Act}{c:World}:(execOp a.eval ⟨d,.call {callee:=.builtin .append,args:=#[b,x],argTypes:=#[t,t]},ty,pos,aft,c6⟩).run P c=
 ((hL #[t,t] ty #[a.eval b,a.eval x]).run P c).andThen λv e=>.ok (.value v) e:=by
 simp[execOp,resolve,invoke,builtin]
def Pb{s:Operand}{r v len by_:Nat}{o:aO}{p:PV}{c:List PV}{J:Value}(bh:PE E s= .sl r v 0 len)(ap:ek H r o)(a6:o.aF=v)(bn:PE E x=p)(bv:lE H p o.sz c)
 (M:dU P t=c4 o.ty) (T:cH P o.ty=c4 o.sz) (a9:kB P o.ty=c4 by_) (a7:dV P o.ty=c4 J) (aH:J.cells.size=o.sz) (aA:(len+c.length)*by_<=140737488355328) (ba:len+c.length<=9223372036854775807):
 fJ P ⟨d,.call {callee:=.builtin .append,args:=#[s,x],argTypes:=#[t,t]},ty,pos,aft,c6⟩ E H λbb H1=>bb= .sl r (v+1) 0 (len+c.length)/\H1=H.set r ⟨o.ty,o.sz,o.es.take len++c,v+1⟩:=by
 intro g nt aD a Z bz bD bl;have U:=Z.m.obj r o ap;have aj:=U.pos;have a2:=lh (bh▸Z.e.eval s) ap a6;obtain⟨aE,aZ,R,bq,aQ⟩:=bv.real Z.m (bn▸Z.e.eval x) aj;obtain⟨bj,ai⟩:=id a2;simp only[gx] at bj;have az:H[r]?=c4 o:=ap;have aw:len+c.length<=maxLen:=by unfold maxLen;omega
 cases G:P.info? o.ty with
 |none=>simp[cH,G] at T
 |some K=>
 have an:K.zero=c4 J:=by simpa[dV,G] using a7
 have aC:K.size=o.sz:=by simpa[cH,G] using T
 have W:K.bytes=by_:=by simpa[kB,G] using a9
 have ah:(o.es.take len).length=len:=by simp;omega
 have aR:∀(i:Nat) (m:PV),(o.es.take len++c)[i]?=c4 m->m.cells.length=o.sz:=by
  intro i m F
  by_cases ab:i<len
  .rw[dv (by omega),e0 ab] at F;exact U.width i m F
  .rw[dt (by omega)] at F;exact aE _ m F
 have aU:∃(D:Value) (j:World) (q:Option (Nat×Nat)),(hL #[t,t] ty #[aD.eval s,aD.eval x]).run P a= .ok D j/\
  j.os=a.os/\j.tape=a.tape/\j.output=a.output/\a.heap.size<=j.heap.size/\(∀b,b<a.heap.size->(∀e,g.β r≠c4 (b,e))->j.heap[b]?=a.heap[b]?)/\
  (∀b e,q=c4 (b,e)->(∃N,g.β r=c4 (b,N))\/a.heap.size<=b)/\
  wG g H a j ⟨o.ty,o.sz,o.es.take len++c,v+1⟩ q/\
  (match q with
   |none=>len+c.length=0/\∃u,D= .slice u 0 0
   |some (b,e)=>D= .slice (c4 ⟨b,0,c6⟩) (len+c.length) e/\len+c.length<=e):=by
  have av:∀(X n:List Value) (cells:Array Value),X.length=len*o.sz->gI g H a o.sz c n->(∀i h l,i<len->abk o.es i h=c4 l->∃k,X[i*o.sz+h]?=c4 k/\k.oneCell'=true/\VR g H a l k)->
   cells.toList.take ((len+c.length)*o.sz)=X++n->∀i h l,abk (o.es.take len++c) i h=c4 l->∃k,cells[i*o.sz+h]?=c4 k/\k.oneCell'=true/\VR g H a l k:=by
   intro X n cells L B af bi i h l C;obtain⟨m,F,bm⟩:=gw C;have bE:=aR i m F;have ab:=(c7.1 F).1;rw[eH,ah] at ab;have br:i*o.sz+h<(len+c.length)*o.sz:=by
    have:(i+1)*o.sz<=(len+c.length)*o.sz:=ev _ (by omega);rw[eo,hX] at this;omega
   have bp:cells[i*o.sz+h]?=(X++n)[i*o.sz+h]? :=by rw[<-bi,e0 br,fe]
   rw[bp]
   by_cases ax:i<len
   .have au:abk o.es i h=c4 l:=by
     unfold abk at C⊢;rw[dv (by omega),e0 ax] at C;exact C
    obtain⟨k,O,A,I⟩:=af i h l ax au;refine⟨k,?_,A,I⟩
    rw[dv (c7.1 O).1];exact O
   .have au:abk c (i -len) h=c4 l:=by
     unfold abk at C⊢;rw[dt (by omega),ah] at C;exact C
    obtain⟨k,O,A,I⟩:=B.2 _ _ _ au;refine⟨k,?_,A,I⟩
    have ay:i*o.sz=len*o.sz+(i -len)*o.sz:=by rw[<-eo];congr 1;omega
    rw[dt (by rw[L,ay];omega),L,ay];rw[show len*o.sz+(i -len)*o.sz+h -len*o.sz=(i -len)*o.sz+h by omega];exact O
  rw[bq];cases ac:g.β r with
  |none=>
   rw[ac] at ai;obtain⟨_,rfl,ak,al⟩:=ai;rw[al];have bA:o.es=[]:=by have:=U.mem;rw[ac] at this;exact this
   rcases aQ with rfl |⟨u,n,rfl,B,ae⟩
   .exact⟨_,a,c6,xr (gD M) T (ef _),rfl,rfl,rfl,ef _,λ_ _ _=>rfl,(λ_ _ f=>by cases f),by simp[wG],by simp⟩
   .by_cases aN:c=[]
    .subst aN;exact⟨_,a,c6,xr (gD M) T (ef _),rfl,rfl,rfl,ef _,λ_ _ _=>rfl,(λ_ _ f=>by cases f),by simp[wG],by simp⟩
    .have a8:0<c.length:=o9.2 aN;have aM:n.length=c.length*K.size:=by rw[aC];exact B.1
     simp only[gx] at aA ba aw;have a1:∃e,(hL #[t,t] ty #[.slice ak 0 0,.slice (c4 u) c.length R]).run P a= .ok (.slice (c4 ⟨a.heap.size,0,c6⟩) c.length e) (a.drew.alloc (.cells (n.toArray++m2 J.cells (e -c.length)) o.ty))/\c.length<=e/\e<=maxLen:=by
      refine⟨grownCap a c.length 0 o.ty,?_,grownCap_ge a _ _ _,grownCap_le_maxLen a _ _ _ aw⟩
      cases ak with
      |none=>exact run_append_nil a t ty o.ty K J (gD M) G an u c.length R n aM ae a8 (by omega) (by rw[W];omega)
      |some aX=>
       have:=run_append_grow (P:=P) a t ty o.ty K J (gD M) G an aX 0 0 [] (by simp) (by simp) u c.length R n aM ae (by omega) (by omega) (growslice_fits (by omega) (by rw[W,gx];omega));simpa using this
     obtain⟨e,Y,aG,bf⟩:=a1;refine⟨_,_,c4 (a.heap.size,e),Y,rfl,rfl,rfl,by simp,λb a3 _=>gv a.drew _ b a3,λb N f=>by injection f with f;injection f with A I;exact .inr (by omega),?_,by simp,by simpa using aG⟩
     refine⟨_,heap_alloc_new a.drew _,?_,bf,by simpa using aG,?_⟩
     .simp only[oS,kc,size_zeroCells,aH,B.1, <-eo]
      congr 1
      omega
     .refine av [] n _ (by simp) B (λi h l G=>by omega) ?_
      simp only[Array.toList_append,o2,gx];rw[<-B.1];exact List.take_left
  |some V=>
   obtain⟨b,e⟩:=V;rw[ac] at ai;obtain⟨cap,ak,al,aa,_,has⟩:=ai;obtain⟨rfl,rfl⟩:=has rfl;rw[al];have aJ:=U.mem;rw[ac] at aJ;obtain⟨bx,aK,aB,aF,aS,bB,bc⟩:=aJ;have af:∀i h l,i<len->abk o.es i h=c4 l->∃k,(aK.toList.take (len*o.sz))[i*o.sz+h]?=c4 k/\k.oneCell'=true/\VR g H a l k:=by
    intro i h l ab C;obtain⟨k,O,A,I⟩:=bc i h l C;refine⟨k,?_,A,I⟩
    obtain⟨m,F,bm⟩:=gw C;have bw:=U.width i m F;have bt:i*o.sz+h<len*o.sz:=by
     have:(i+1)*o.sz<=len*o.sz:=ev _ (by omega);rw[eo,hX] at this;omega
    rw[e0 bt,fe];exact O
   have L:(aK.toList.take (len*o.sz)).length=len*o.sz:=by
    have:len*o.sz<=cap*o.sz:=ev _ aa;simp;omega
   have aI:c=[]->∃(D:Value) (j:World) (q:Option (Nat×Nat)),(hL #[t,t] ty #[.slice (c4 ⟨b,0,c6⟩) len cap,.slice aZ c.length R]).run P a= .ok D j/\
    j.os=a.os/\j.tape=a.tape/\j.output=a.output/\a.heap.size<=j.heap.size/\(∀w,w<a.heap.size->(∀e,c4 (b,cap)≠c4 (w,e))->j.heap[w]?=a.heap[w]?)/\
    (∀w e,q=c4 (w,e)->(∃N,c4 (b,cap)=c4 (w,N))\/a.heap.size<=w)/\
    wG g H a j ⟨o.ty,o.sz,o.es.take len++c,v+1⟩ q/\
    (match q with
     |none=>len+c.length=0/\∃u,D= .slice u 0 0
     |some (b,e)=>D= .slice (c4 ⟨b,0,c6⟩) (len+c.length) e/\len+c.length<=e):=by
    rintro rfl;refine⟨_,a,c4 (b,cap),xr (gD M) T aa,rfl,rfl,rfl,ef _,λ_ _ _=>rfl,λw N f=>by injection f with f;injection f with A I;exact .inl ⟨cap,by rw[A]⟩,?_,by simp,by simpa using aa⟩
    refine⟨aK,aB,aF,aS,by simp;omega,av _ [] aK L ⟨by simp,by simp[abk]⟩ af (by simp)⟩
   rcases aQ with rfl |⟨u,n,rfl,B,ae⟩
   .exact aI rfl
   .have aY:a.ownsRow 0 o.ty o.sz (.slice (c4 ⟨b,0,c6⟩) len cap) len (aK.toList.take (len*o.sz)):=
     ⟨L,.inr ⟨b,cap,aK,rfl,pc _,aB,aa,aS,aF,rfl⟩⟩
    obtain⟨bC,j,Y,a0,S,_,aL⟩:=run_append_own_at (P:=P) a 0 t ty o.ty K J o.sz by_ (gD M) G an aC W aH aj _ len _ aY u c.length R n B.1 ae (B.one aj aE) aw aA (pc _);rcases a0.2 with⟨rfl,h0⟩ |⟨bd,be,aP,rfl,_,aq,ag,am,ao,ar⟩
    .refine aI ?_
     have:c.length=0:=by omega
     exact e5 this
    .refine⟨_,j,c4 (bd,be),Y,S.os,S.tape,S.output,S.size,λw W a5=>S.block w W (λm=>a5 cap (by simp[q6] at m;rw[m])),λw N f=>?_,⟨aP,aq,ao,am,by rw[eH,ah];exact ag,av _ n aP L B af ar⟩,rfl,ag⟩
     injection f with f
     injection f with A I
     subst A;simp only[q6] at aL;rcases aL with f |f
     .injection f with f
      exact .inl ⟨cap,by rw[f]⟩
     .injection f with f
      exact .inr (by omega)
 obtain⟨D,j,q,Y,aq,ag,am,ao,ar,a4,bs,ad⟩:=aU;unfold n0;rw[Ei,Y];obtain⟨bk,aV⟩:=Z.m.set (o':=⟨o.ty,o.sz,o.es.take len++c,v+1⟩) az aq ag am ao ar (by simp;omega) (λm=>absurd m (by simp;omega)) a4 aj aR bs;have bo:r<H.length:=(c7.1 az).1;refine bl D j (g.push r q) _ _ ⟨rfl,rfl⟩ ?_ aV bk
 refine .sl r (v+1) 0 _ ⟨o.ty,o.sz,o.es.take len++c,v+1⟩ D (by rw[ee bo]) (ef _) ?_ λ_=>?_
 .cases q with
  |none=>obtain⟨_,u,rfl⟩:=ad;rfl
  |some V=>obtain⟨b,e⟩:=V;obtain⟨rfl,_⟩:=ad;rfl
 .refine⟨by simp[ah],?_⟩
  rw[Gh.kg];cases q with
  |none=>
   obtain⟨h0,u,rfl⟩:=ad;exact⟨rfl,h0,u,rfl⟩
  |some V=>
   obtain⟨b,e⟩:=V;obtain⟨rfl,aT⟩:=ad;exact⟨e,_,rfl,aT,λ_=>by simp,λ_=>⟨rfl,rfl⟩⟩
end
section
variable {P:Program}{nt:Nat}{Q:fE}{E:Env}{H:List aO}{d:Option Nat}{ty:TypeId}{pos:String}{aft:Array Edge}{gd:Option (Nat×Bool)}{x y z:Operand}{t:TypeId}{all:Array Oper}{rest:List Oper}
def PO{l:Operand}{c h w:Nat}{p:PV}{a:List PV}{f:Value}(o:PE E l= .bg\/PE E l= .z0)(V:PE E x=p)(ap:lE H p h a)(L:0<h)
 (D:dU P t=c4 c) (M:cH P c=c4 h) (aa:kB P c=c4 w) (X:dV P c=c4 f) (R:f.cells.size=h) (ar:a.length*w<=140737488355328) (au:a.length<=9223372036854775807) (F:a≠[]):
 nY P E H ⟨d,.call {callee:=.builtin .append,args:=#[l,x],argTypes:=#[t,t]},ty,pos,aft,c6⟩ c h a (λq G=>.sl q G 0 a.length):=by
 have ai:∀g nt (r:Act) b,Rel g nt E H r b->∃s,r.eval l= .slice s 0 0:=λg nt r b m=>by
  rcases o with o |o
  .exact⟨c6,(o▸m.e.eval l).pF⟩
  .exact(o▸m.e.eval l).rh
 have ak:a.length<=maxLen:=by unfold maxLen;omega
 intro g nt r b m;obtain⟨s,Z⟩:=ai g nt r b m;obtain⟨ao,aw,u,ab,U⟩:=ap.real m.m (V▸m.e.eval x) L;rcases U with rfl |⟨A,n,rfl,v,I⟩
 .exact absurd rfl F
 cases k:P.info? c with
 |none=>simp[cH,k] at M
 |some j=>
 have C:j.zero=c4 f:=by simpa[dV,k] using X
 have aj:j.size=h:=by simpa[cH,k] using M
 have N:j.bytes=w:=by simpa[kB,k] using aa
 have K:n.length=a.length*j.size:=by rw[aj];exact v.1
 have Y:0<a.length:=o9.2 F;have S:∃e,(hL #[t,t] ty #[.slice s 0 0,.slice (c4 A) a.length u]).run P b= .ok (.slice (c4 ⟨b.heap.size,0,c6⟩) a.length e) (b.drew.alloc (.cells (n.toArray++m2 f.cells (e -a.length)) c))/\a.length<=e/\e<=maxLen:=by
  refine⟨grownCap b a.length 0 c,?_,grownCap_ge b _ _ _,grownCap_le_maxLen b _ _ _ ak⟩
  cases s with
  |none=>exact run_append_nil b t ty c j f (gD D) k C A a.length u n K I Y (by omega) (by rw[N];omega)
  |some af=>
   have:=run_append_grow (P:=P) b t ty c j f (gD D) k C af 0 0 [] (by simp) (by simp) A a.length u n K I (by omega) (by omega) (growslice_fits (by omega) (by rw[N,gx];omega));simpa using this
 obtain⟨e,ae,B,ah⟩:=S;refine⟨n.toArray++m2 f.cells (e -a.length),e,.slice (c4 ⟨b.heap.size,0,c6⟩) a.length e,b.drew,?_,.inr rfl,L,ao,?_,ah,B,λi ag al W=>?_,λav aq ax q G O ac=>FO O ac B⟩
 .rw[Ei,Z,ab,ae]
  rfl
 .simp only[oS,kc,size_zeroCells,R,v.1, <-eo]
  congr 1
  omega
 .obtain⟨ad,J,am,T⟩:=v.2 i ag al W;refine⟨ad,?_,am,T⟩
  have an:=(c7.1 J).1;rw[Array.getElem?_append_left (by simpa using an)];simpa using J
def Oh{s:Operand}{c a v q T D h:Nat}{p:PV}{b:List PV}{o:Value}(l:H[q]?=c4 ⟨T,D,[],h⟩)(f:PE E s= .bg\/PE E s= .z0)(n:PE E x=p)(A:lE H p a b)(m:0<a)
 (r:dU P t=c4 c) (w:cH P c=c4 a) (I:kB P c=c4 v) (F:dV P c=c4 o) (C:o.cells.size=a) (K:b.length*v<=140737488355328) (L:b.length<=9223372036854775807):
 fJ P ⟨d,.call {callee:=.builtin .append,args:=#[s,x],argTypes:=#[t,t]},ty,pos,aft,c6⟩ E H λM H1=>M= .sl q (h+1) 0 b.length/\H1=H.set q ⟨c,a,b,h+1⟩:=by
 have R:∀g nt (j:Act) i,Rel g nt E H j i->∃k,j.eval s= .slice k 0 0:=λg nt j i e=>by
  rcases f with f |f
  .exact⟨c6,(f▸e.e.eval s).pF⟩
  .exact(f▸e.e.eval s).rh
 have Y:b.length<=maxLen:=by unfold maxLen;omega
 by_cases u:b=[]
 .subst u;intro g nt j i e X W B;obtain⟨k,G⟩:=R g nt j i e;obtain⟨_,Z,V,J,_⟩:=A.real e.m (n▸e.e.eval x) m;unfold n0;rw[Ei,G,J,l0,xr (gD r) w (ef _)];have O:=(c7.1 l).1;obtain⟨U,N⟩:=e.m.set (o':=⟨c,a,[],h+1⟩) (p:=c6) l rfl rfl rfl (ef _) (λ_ _ _=>rfl) (by simp) (λS=>absurd S (by simp)) (by simp) m (by simp) rfl;refine B (.slice k 0 0) i (g.push q c6) _ _ ⟨rfl,rfl⟩ ?_ N U
  refine .sl _ (h+1) 0 0 ⟨c,a,[],h+1⟩ _ (by simp[O]) (ef _) rfl λ_=>⟨by simp,?_⟩
  rw[Gh.kg];exact⟨rfl,rfl,k,rfl⟩
 .exact sX l (PO f n A m r w I F C K L u)
def mU(E:Env)(e:Nat):Option Operand->Nat->Prop
 |none,a=>a=e
 |some f,a=>∃c b,PE E f= .int c b/\b=(a:Int)
def sQ{n:World}{w s:Nat}{p:Option Addr}{len cap a c:Nat}{e f:Option Operand}{h:Act}{g:Gh}{H:List aO}(A:fI g H n nt E h)(B:dU P t=c4 w)(i:cH P w=c4 s)(u:mU E 0 e a)(v:mU E len f c)(r:a<=c)(q:c<=cap):
 (j6 t (.slice p len cap) (e.map h.eval) (f.map h.eval) (c6:Option Value)).run P n= .ok (.slice (if cap=a then p else p.map (·.add (a*s))) (c -a) (cap -a)) n:=by
 have j:=gD B;have k:e=c6/\a=0\/∃b,e.map h.eval=c4 (.int b (a:Int)):=by
  cases e with
  |none=>exact .inl ⟨rfl,u⟩
  |some m=>
   obtain⟨b,C,o,rfl⟩:=u;exact .inr ⟨b,by simp[(o▸A.eval m).fQ]⟩
 have l:f=c6/\c=len\/∃b,f.map h.eval=c4 (.int b (c:Int)):=by
  cases f with
  |none=>exact .inl ⟨rfl,v⟩
  |some m=>
   obtain⟨b,C,o,rfl⟩:=v;exact .inr ⟨b,by simp[(o▸A.eval m).fQ]⟩
 have D:((c:Nat):Int)<=(cap:Int):=by omega
 have G:((a:Nat):Int)<=(c:Int):=by omega
 rcases k with⟨rfl,rfl⟩ |⟨b,k⟩ <;> rcases l with⟨rfl,rfl⟩ |⟨F,l⟩
 .simp[j6,m3,run_underlying j,j3,run_sizeOf i]
 .simp[j6,m3,run_underlying j,j3,run_sizeOf i,l,kh,asIntOf,q]
 .simp[j6,m3,run_underlying j,j3,run_sizeOf i,k,kh,asIntOf,r]
 .simp[j6,m3,run_underlying j,j3,run_sizeOf i,k,l,kh,asIntOf,r,q]
def FV{e:List PV}{b c i g:Nat}{h:PV}(a:abk ((e.take c).drop b) i g=c4 h):abk e (b+i) g=c4 h/\b+i<c:=by
 unfold abk at*;rw[ea] at a
 by_cases f:b+i<c
 .rw[e0 f] at a;exact⟨a,f⟩
 .rw[hI (by simp;omega)] at a;simp at a
def aaK{a G l h:Nat}{c I:List PV}{C B:Option Operand}(R:PE E x= .vs a c)(u:dU P t=c4 G)(A:cH P G=c4 a)(s:mU E 0 C l)(v:mU E c.length B h)(r:l<=h)(n:h<=c.length)(e:(c.take h).drop l=I):
 cM P ⟨d,.slice t x C B c6,ty,pos,aft,gd⟩ E H (.vs a I):=by
 intro g nt Y w p;have m:=R▸p.e.eval x;subst e;have J:((c.take h).drop l).length=h -l:=by simp;omega
 generalize q:Y.eval x=ab at m;cases m with
 |aW m=>
  cases m with
  |eX a K cap=>
   simp only[l0,Nat.le_zero] at n;subst n;have U:l=0:=by omega
   subst U;refine⟨.slice (if cap=0 then K else K.map (·.add (0*a))) (0 -0) (cap -0),?_,.aW (.eX a _ _)⟩
   have T:mU E 0 B 0:=v;simp only[execOp,q,ie,gb,sQ p.e u A s T r (pc _),ez,hz]
  |vs _ _ b o cap S D L W O X aa=>
   by_cases ac:l<h
   .refine⟨.slice (c4 ⟨b,o+l*a,c6⟩) (h -l) (cap -l),?_,?_⟩
    .have Z:¬cap=l:=by omega
     simp only[execOp,q,ie,gb,sQ p.e u A s v r (hq n D),ez,hz,if_neg Z,o1,h8]
    .have:=VI.vs (F:=g.F) (w:=w) a ((c.take h).drop l) b (o+l*a) (cap -l) (λi f=>S (l+i) f) (by omega) L
      (λi V e=>by
       rw[ea] at e
       by_cases M:l+i<h
       .rw[e0 M] at e;exact W _ V e
       .rw[hI (by simp;omega)] at e;cases e)
      (λi f j k=>by
       have:=O (l+i) f j (FV k).1;rw[eo] at this;rw[<-this]
       congr 2
       omega)
      (λi f j k=>X _ _ j (FV k).1) (λi f j k=>aa _ _ j (FV k).1)
     rw[J] at this;exact .aW this
   .have ad:l=h:=by omega
    have N:(c.take h).drop l=[]:=e5 (by rw[J];omega);rw[N];refine⟨.slice (if cap=l then c4 ⟨b,o,c6⟩ else(c4 ⟨b,o,c6⟩:Option Addr).map (·.add (l*a))) 0 (cap -l),?_,.aW (.eX a _ _)⟩
    simp only[execOp,q,ie,gb,sQ p.e u A s v r (hq n D),ez,hz];rw[show h -l=0 by omega]
def acJ{m e:Nat}{c a:Option Operand}(i:PE E x= .bg)(h:dU P t=c4 e)(l:cH P e=c4 m)(f:mU E 0 c 0)(j:mU E 0 a 0):
 cM P ⟨d,.slice t x c a c6,ty,pos,aft,gd⟩ E H .bg:=by
 intro g nt o n b;have k:=(i▸b.e.eval x).pF;refine⟨.slice c6 0 0,?_,.aW .bg⟩
 simp only[execOp,k,ie,gb,sQ b.e h l f j (ef _) (ef _),ez,hz]
 rfl
def SC{u r v q len l h:Nat}{c:aO}{lo hi:Option Operand}(A:PE E x= .sl r v q len)(j:ek H r c)(w:c.aF=v)(n:dU P t=c4 u)(p:cH P u=c4 c.sz)(m:mU E 0 lo l)(o:mU E len hi h)(C:l<=h)(D:h<=len):
 cM P ⟨d,.slice t x lo hi c6,ty,pos,aft,gd⟩ E H (.sl r v (q+l) (h -l)):=by
 intro g nt R O k;have a:=lh (A▸k.e.eval x) j w;have s:v<=c.aF:=by omega
 unfold SL at a;obtain⟨T,a⟩:=a;cases f:g.β r with
 |none=>
  rw[f] at a;obtain⟨rfl,rfl,e,i⟩:=a;have h0:h=0:=by omega
  have K:l=0:=by omega
  subst h0;subst K;refine⟨.slice e 0 0,?_,.sl r v _ _ c _ j s rfl λ_=>⟨by omega,?_⟩⟩
  .simp only[execOp,i,ie,gb,sQ k.e n p m o (ef _) (ef _),ez,hz]
   rfl
  .rw[f];exact⟨rfl,rfl,e,rfl⟩
 |some F=>
  obtain⟨b,M⟩:=F;rw[f] at a;obtain⟨cap,e,i,B,J,h0⟩:=a;refine⟨.slice (if cap=l then e else e.map (·.add (l*c.sz))) (h -l) (cap -l),?_,.sl r v _ _ c _ j s rfl λ_=>⟨by omega,?_⟩⟩
  .simp only[execOp,i,ie,gb,sQ k.e n p m o C (hq D B),ez,hz]
  .rw[f];refine⟨cap -l,_,rfl,by omega,λN=>?_,λS=>?_⟩
   .rw[if_neg (by omega),J (by omega),o1,h8,eo]
   .obtain⟨I,L⟩:=h0 (by omega);have G:l=0:=by omega
    subst G;subst I;refine⟨?_,by omega⟩
    split
    .rfl
    .simp[Addr.add_zero']
def Zm{c f:Nat}{e b:Operand}{q k:IntKind}{p:List PV}(u:lE H (PE E x) c p)(s:0<c)(l:dU P t=c4 f)(o:cH P f=c4 c)(m:PE E e= .int q 0)(r:PE E b= .int k 0):
 cM P ⟨d,.slice t x c6 (c4 e) (c4 b),ty,pos,aft,gd⟩ E H .z0:=by
 intro g nt w v a;obtain⟨_,h,cap,j,_⟩:=u.real a.m (a.e.eval x) s;refine⟨.slice h 0 0,?_,.aW (.z0 h)⟩
 have i:=(m▸a.e.eval e).fQ;have n:=(r▸a.e.eval b).fQ;simp[execOp,j,i,n,j6,m3,run_underlying (gD l),j3,run_sizeOf o,kh,asIntOf]
end
def MV(b:Nat):∀(e:List Value) (a:Nat) (c:Array Value),b+a+e.length<=c.size->
 (e.zipIdx a).foldl (λc p=>c.setIfInBounds (b+p.2) p.1) c=(c.toList.take (b+a)++e++c.toList.drop (b+a+e.length)).toArray
 |[],a,c,_=>by simp
 |j::e,a,c,h=>by
  rw[List.zipIdx_cons,List.foldl_cons,MV b e (a+1) _ (by simp at h⊢;omega)];simp only[my] at h
  congr 1
  apply List.ext_getElem?
  intro f;simp only[Array.toList_setIfInBounds,my]
  by_cases l:f<b+a
  .rw[eE,eE,dv (by simp;omega),dv (by simp;omega),e0 (by omega),e0 l,ey (by omega)]
  .by_cases k:f=b+a
   .subst k;rw[eE,eE,dv (by simp;omega),e0 (by omega),ee (by simp;omega),dt (by simp;omega)];have:min (b+a) c.size=b+a:=by omega
    simp[this]
   .rw[eE,eE,dt (l₁:=(c.toList.set (b+a) j).take (b+(a+1))) (by simp;omega),dt (l₁:=c.toList.take (b+a)) (by simp;omega)];have i:min (b+(a+1)) c.size=b+(a+1):=by omega
    have m:min (b+a) c.size=b+a:=by omega
    simp only[ft,o3,gy,i,m,List.cons_append];rw[show f - (b+a)=(f - (b+(a+1)))+1 by omega,List.getElem?_cons_succ]
    by_cases g:f - (b+(a+1))<e.length
    .rw[dv g,dv g]
    .rw[dt (by omega),dt (by omega),ea,ea,ey (by omega)]
     congr 1
     omega
def ajC{place:Nat->Option (Nat×Nat)}{cells:Array Value}{i a size:Nat}{v:Value}{rest:List (Nat×Value)}(c:place i=c4 (a,size))(b:v.cells.size=size)(f:a+size<=cells.size):
 kl place cells ((i,v)::rest)=kl place (cells.toList.take a++v.cells.toList++cells.toList.drop (a+size)).toArray rest:=by
 have e:(c3 (v.cells.size≠size)||c3 (a+v.cells.size>cells.size))=false:=by simp[b];omega
 simp only[kl,c];rw[if_neg (by simp[b];omega)]
 congr 1
 have:=MV a v.cells.toList 0 cells (by simp[b];omega);simp only[l1,gy,b] at this;rw[<-this, <-Array.foldl_toList,Array.toList_zipIdx]
def qn(E:Env):List (Nat×Operand)->List (Nat×PV)->Prop
 |[],[]=>True
 |(i,b)::r,(a,v)::c=>i=a/\PE E b=v/\qn E r c
 |_,_=>False
def mE(place:Nat->Option (Nat×Nat))(cells:List PV):List (Nat×PV)->Option (List PV)
 |[]=>c4 cells
 |(i,v)::r=>
  match place i with
  |none=>c6
  |some (a,size)=>bif e4 v.cells.length size&&hK (a+size) cells.length&&v.cells.all PV.one then mE place (cells.take a++v.cells++cells.drop (a+size)) r else c6
def DO(g:Gh)(H:List aO)(h:World)(b:List PV)(e:Array Value):Prop:=
 e.size=b.length/\∀(c:Nat) (f:PV),b[c]?=c4 f->∃a,e[c]?=c4 a/\a.oneCell'=true/\VR g H h f a
def BQ{g:Gh}{H:List aO}{r:World}{nt:Nat}{E:Env}{s:Act}(B:fI g H r nt E s)(place:Nat->Option (Nat×Nat)):∀(l:List (Nat×Operand)) (vs:List (Nat×PV)) (f:List PV) (h:Array Value) (j:List PV),
 qn E l vs->(∀i v,(i,v)∈vs->∀J,v≠ .bu J)->DO g H r f h->mE place f vs=c4 j->∃D,kl place h (l.map λ(i,x)=>(i,s.eval x))=c4 D/\DO g H r j D
 |[],[],f,h,j,_,_,e,a=>by
  simp only[mE,m4] at a;subst a;exact⟨h,rfl,e⟩
 |(i,A)::l,(V,v)::vs,f,h,j,T,C,e,a=>by
  obtain⟨rfl,I,G⟩:=T;simp only[mE] at a;cases u:place i with
  |none=>simp[u] at a
  |some p=>
   obtain⟨c,size⟩:=p;simp only[u] at a;cases k:(e4 v.cells.length size&&hK (c+size) f.length&&v.cells.all PV.one) with
   |false=>simp[k] at a
   |true=>
    rw[k] at a;simp only[cond_true] at a;simp only[p4] at k;obtain⟨⟨m,o⟩,L⟩:=k;have m:=h5 m;have o:=ei o;have O:=I▸B.eval A;obtain⟨S,N⟩:=O.tZ L (C i v (by simp));have w:(s.eval A).cells.size=size:=by simp at S;omega
    rw[ma,ajC u w (by rw[e.1];exact o)];refine BQ B place l vs _ _ j G (λi v R=>C i v (by simp[R])) ⟨?_,λn q b=>?_⟩ a
    .simp only[kc,eH,ft,j5,gy,e.1,w,m]
    .rw[kd];have F:min c h.size=c:=by rw[e.1];omega
     have K:min c f.length=c:=by omega
     by_cases M:n<c
     .rw[eE,dv (by simp;omega),e0 M] at b⊢;simpa using e.2 n q b
     .rw[eE,dt (by simp;omega)] at b⊢;simp only[ft,gy,F,K] at b⊢
      by_cases U:n -c<size
      .rw[dv (by omega)] at b;rw[dv (by simp;omega)];simpa using N _ q b
      .rw[dt (by omega),ea] at b;rw[dt (by simp;omega),ea];simp only[gy,m,w] at b⊢;simpa using e.2 _ q b
section
variable {P:Program}{nt:Nat}{Q:fE}{E:Env}{H:List aO}{d:Option Nat}{ty:TypeId}{pos:String}{aft:Array Edge}{gd:Option (Nat×Bool)}{x y z:Operand}{t:TypeId}{all:Array Oper}{rest:List Oper}
def Jk(P:Program)(t:TypeId):Option (List (Nat×Nat)):=
 match P.underlying t with
 |some (.struct a)=>a.toList.mapM λf=>(P.info? f.type).map λi=>(f.offset,i.size)
 |_=>c6
def aeV{v:Value}{b:PV}(c:jq v=b)(a:b.one=true):v.oneCell'=true:=by
 subst c;unfold jq at a
 split at a <;> first |rfl |(simp[PV.one] at a;done)
def Qu{g:Gh}{H:List aO}{f:World}{c:List Value}(e:(c.map jq).all PV.one=true):DO g H f (c.map jq) c.toArray:=by
 refine⟨by simp,λh i a=>?_⟩
 rw[e6] at a;cases b:c[h]? with
 |none=>simp[b] at a
 |some z=>
  simp[b] at a;refine⟨z,by simp[b],aeV a ?_,a▸ .aW (KQ _ _ _)⟩
  exact h7.1 e i (by rw[<-a];exact ng.2 ⟨z,dT b,rfl⟩)
def ahR{c:List (Nat×Operand)}{vs:List (Nat×PV)}{zs:List Value}{j a:List PV}{n:List (Nat×Nat)}(e:dV P t=c4 (.agg zs.toArray))(B:zs.map jq=j)(D:j.all PV.one=true)(f:Jk P t=c4 n)
 (p:qn E c vs) (I:∀i v,(i,v)∈vs->∀s,v≠ .bu s) (u:mE (n.toArray[·]?) j vs=c4 a):cM P ⟨d,.build t c.toArray,ty,pos,aft,gd⟩ E H (.agg a):=by
 intro g nt F w G;subst B;obtain⟨h,C,m⟩:=BQ G.e _ c vs _ _ a p I (Qu D) u;refine⟨.agg h,?_,?_⟩
 .have o:P.built t ((c.toArray.map λ(i,x)=>(i,F.eval x)).toList)=c4 h:=by
   unfold Jk at f;unfold dV at e;cases k:P.info? t with
   |none=>simp[k] at e
   |some L=>
    simp[k] at e
    split at f
    .rename_i J l;simp only[q8,k,l,e,f];simpa[o6] using C
    .cases f
  simp only[execOp,gb,run_build w t _ h o,ez]
  rfl
 .have:=VR.agg (g:=g) (H:=H) (w:=w) a h.toList (by simp[m.1]) (λi A x r b=>by
   obtain⟨K,l,_,q⟩:=m.2 i A r;rw[fe,l] at b;injection b with b
   exact b▸q)
  simpa using this
def VH{c:List (Nat×Operand)}{vs:List (Nat×PV)}{zs:List Value}{j a:List PV}{K n l:Nat}(e:dV P t=c4 (.agg zs.toArray))(C:zs.map jq=j)(F:j.all PV.one=true)(M:pk P t=c4 (K,n))(f:cH P n=c4 l)
 (s:qn E c vs) (L:∀i v,(i,v)∈vs->∀u,v≠ .bu u) (A:mE (λi=>c4 (i*l,l)) j vs=c4 a):cM P ⟨d,.build t c.toArray,ty,pos,aft,gd⟩ E H (.agg a):=by
 intro g nt G w J;subst C;obtain⟨h,D,o⟩:=BQ J.e _ c vs _ _ a s L (Qu F) A;refine⟨.agg h,?_,?_⟩
 .have p:P.built t ((c.toArray.map λ(i,x)=>(i,G.eval x)).toList)=c4 h:=by
   unfold dV at e;unfold cH at f;cases m:P.info? t with
   |none=>simp[m] at e
   |some O=>
    simp[m] at e;cases k:P.info? n with
    |none=>simp[k] at f
    |some R=>
     simp[k] at f;simp only[q8,m,Kn M,e,k,f];simpa[o6] using D
  simp only[execOp,gb,run_build w t _ h p,ez]
  rfl
 .have:=VR.agg (g:=g) (H:=H) (w:=w) a h.toList (by simp[o.1]) (λi B x r b=>by
   obtain⟨N,I,_,q⟩:=o.2 i B r;rw[fe,I] at b;injection b with b
   exact b▸q)
  simpa using this
def mY:Nat->List PV->List (Nat×PV)
 |_,[]=>[]
 |a,v::r=>(a,v)::mY (a+1) r
def NE(a:Nat):∀(c:List PV) (b:Nat) (f:List PV),(∀e∈c,e.cells.length=a/\e.cells.all PV.one=true)->f.length=(b+c.length)*a->
 mE (λi=>c4 (i*a,a)) f (mY b c)=c4 (f.take (b*a)++c.flatMap (·.cells))
 |[],b,f,_,h=>by
  simp only[mY,mE,List.flatMap_nil,q4];rw[hY (by simp at h;omega)]
 |e::c,b,f,j,h=>by
  obtain⟨g,k⟩:=j e (by simp);have o:(b+1)*a<=(b+(e::c).length)*a:=ev _ (by simp);rw[eo,hX] at o;have l:e4 e.cells.length a=true:=by rw[g];exact k7 a
  have p:hK (b*a+a) f.length=true:=Nat.ble_eq▸(by omega);simp only[mY,mE,l,p,k,Bool.and_true,cond_true];have m:(f.take (b*a)++e.cells++f.drop (b*a+a)).length=(b+1+c.length)*a:=by
   simp only[eH,ft,j5,g];have:(b+(e::c).length)*a=(b+1+c.length)*a:=by congr 1;simp;omega
   omega
  rw[NE a c (b+1) _ (λe n=>j e (by simp[n])) m]
  congr 1
  have q:min (b*a) f.length=b*a:=by omega
  rw[List.take_append_of_le_length (by simp[g];rw[eo];omega),hY (by simp[g];rw[eo];omega)];simp
def Om{g:Nat}:∀(b:List PV) (i a:Nat) (f:PV),(∀e∈b,e.cells.length=g)->abk b i a=c4 f->(b.flatMap (·.cells))[i*g+a]?=c4 f
 |[],i,a,f,_,c=>by simp[abk] at c
 |e::b,0,a,f,h,c=>by
  simp[abk] at c;rw[m5,qq,gx,dv (c7.1 c).1];exact c
 |e::b,i+1,a,f,h,c=>by
  have k:abk b i a=c4 f:=by simpa[abk] using c
  rw[m5,dt (by rw[h e (by simp),eo];omega),h e (by simp)];rw[show(i+1)*g+a -g=i*g+a by rw[eo];omega];exact Om b i a f (λe j=>h e (by simp[j])) k
def Pn{ps:List (Nat×Operand)}{es:List PV}{te sz n:Nat}{zv:Value}(B:qn E ps (mY 0 es))(V:es.length=n)(Y:es.all (λa=>e4 a.cells.length sz&&a.cells.all PV.one)=true)(ad:∀a∈es,∀R,a≠ .bu R)
 (C:dU P t=c4 te) (I:cH P te=c4 sz) (L:dV P te=c4 zv) (ah:zv.cells.size=sz) (W:zv.cells.toList.all (·.oneCell')=true) (G:0<sz) (al:n*sz<=16777216):
 nY P E H ⟨d,.buildSlice t n ps.toArray,ty,pos,aft,c6⟩ te sz es (λq D=>.sl q D 0 n):=by
 subst V;have j:∀a∈es,a.cells.length=sz/\a.cells.all PV.one=true:=λa c=>by
  have:=h7.1 Y a c;simp only[p4] at this;exact⟨h5 this.1,this.2⟩
 intro g nt F w aa
 let z0:List Value:=(n2 (es.length*sz)).map λq=>zv.cells.getD (q%zv.cells.size) undef
 have ae:DO g H w ((n2 (es.length*sz)).map λ_=>PV.any) z0.toArray:=by
  refine⟨by simp[z0],λh s f=>?_⟩
  have A:h<es.length*sz:=by
   have:=(c7.1 f).1;simpa using this
  rw[e6,h9 A] at f;simp at f;subst f;refine⟨zv.cells.getD (h%zv.cells.size) undef,by simp[z0,h9 A],?_,.any _⟩
  have u:h%zv.cells.size<zv.cells.size:=q5 _ (by omega);have:=h7.1 W (zv.cells[h%zv.cells.size]) (by simp);simpa[u] using this
 obtain⟨o,k,m⟩:=BQ aa.e (λi=>c4 (i*sz,sz)) ps (mY 0 es) _ _ _ B (λi v ab=>by
  have:∀(l:Nat) (b:List PV),(i,v)∈mY l b->v∈b:=by
   intro l b
   induction b generalizing l with
   |nil=>simp[mY]
   |cons F b r=>
    simp only[mY,mb,Prod.mk.injEq];rintro(⟨_,rfl⟩ |e)
    .exact .inl rfl
    .exact .inr (r _ e)
  exact ad v (this 0 es ab)) ae (NE sz es 0 _ j (by simp))
 rw[qq,o7,o2] at m;have ac:o.size=es.length*sz:=by
  rw[m.1];have:∀b:List PV,(∀a∈b,a.cells.length=sz)->(b.flatMap (·.cells)).length=b.length*sz:=λb=>by
   induction b with
   |nil=>simp
   |cons a b r=>intro e;rw[m5,eH,e a (by simp),r (λa c=>e a (by simp[c])),my,eo];omega
  exact this es λa c=>(j a c).1
 refine⟨o,es.length,.slice (c4 ⟨w.heap.size,0,c6⟩) es.length es.length,w,?_,.inl rfl,G,λi a c=>(j a (dT c)).1,ac,?_,ef _,λi h s f=>?_,λaj ai ak q D J N=>FO J N (ef _)⟩
 .have X:(Array.range (es.length*sz)).map (λx=>zv.cells[x%zv.cells.size]!)=z0.toArray:=by
   apply Array.ext'
   rw[Array.toList_map,Array.toList_range];show _=z0
   apply List.map_congr_left
   intro q _;have u:q%zv.cells.size<zv.cells.size:=q5 _ (by omega);simp[u]
  by_cases h0:es.length*sz=0
  .have K:es=[]:=by
    rcases Nat.mul_eq_zero.1 h0 with e |e
    .exact e5 e
    .omega
   subst K;have T:ps=[]:=by
    cases ps with
    |nil=>rfl
    |cons p ps=>simp[mY,qn] at B
   subst T;have ag:z0=[]:=by simp[z0]
   rw[ag] at k;simp[kl] at k;subst k;simp[execOp,p6,run_underlying (gD C),run_sizeOf I,kl,newRow,Array.range_zero']
  .have M:¬(16777216<es.length*sz):=by omega
   have U:kl (λi=>c4 (i*sz,sz)) z0.toArray (ps.map λp=>(p.1,F.eval p.2))=c4 o:=k;simp[execOp,p6,run_underlying (gD C),run_sizeOf I,M,h0,Ey L,X,U,newRow]
 .have:es.length<=es.length*sz:=ga _ G;unfold maxLen;omega
 .obtain⟨O,Z,S,af⟩:=m.2 _ s (Om es i h s (λa c=>(j a c).1) f);exact⟨O,Z,S,af⟩
end
def VR.ub{g:Gh}{H:List aO}{w:World}{r v:Nat}{a:aO}{x:Value}(h:VR g H w (.fl r v) x)(e:ek H r a)(m:a.aF=v):VR g H w (.sl r v 0 a.es.length) x:=by
 cases h with
 |aW h=>cases h
 |fl _ _ n _ c j k l=>
  unfold ek at e;rw[e] at c;injection c with c
  subst c;exact .sl r v 0 _ a x e j k l
def VR.aa1{g:Gh}{H:List aO}{w:World}{r v n:Nat}{e:aO}{x:Value}(h:VR g H w (.sl r v 0 n) x)(c:ek H r e)(k:n=e.es.length):VR g H w (.fl r v) x:=by
 subst k;cases h with
 |aW h=>cases h
 |sl _ _ _ _ o _ a j l m=>
  unfold ek at c;rw[c] at a;injection a with a
  subst a;exact .fl r v e x c j l m
def fI.fl{g:Gh}{H:List aO}{e:World}{nt:Nat}{E:Env}{a:Act}{t r v:Nat}{c:aO}(h:fI g H e nt E a)(l:look E t= .fl r v)(m:ek H r c)(k:c.aF=v):fI g H e nt ((t,.sl r v 0 c.es.length)::E) a:=
 ⟨h.defers,h.size,λs=>by
  by_cases j:t=s
  .subst j;rw[ni];exact(l▸h.at_ t).ub m k
  .rw[Ar _ _ j];exact h.at_ s⟩
def RO{P:Program}{c:Oper}{E:Env}{H:List aO}{t r v:Nat}{a:aO}{p:PV}(f:look E t= .fl r v)(i:ek H r a)(e:a.aF=v)(k:cM P c ((t,.sl r v 0 a.es.length)::E) H p):cM P c E H p:=
 λg nt j h b=>k g nt j h ⟨b.m,b.e.fl f i e⟩
def yP{P:Program}{c:Oper}{E:Env}{H:List aO}{t r v:Nat}{a:aO}{e:PV->List aO->Prop}(j:look E t= .fl r v)(l:ek H r a)(i:a.aF=v)(o:fJ P c ((t,.sl r v 0 a.es.length)::E) H e):fJ P c E H e:=
 λg nt n k b m h f=>o g nt n k ⟨b.m,b.e.fl j l i⟩ m h f
end Go.Bml
namespace Go.X
open Go Go.Aml Go.Bml
structure Ty where
 T:Type
 enc:T->PV
inductive TV (D:Nat->Type):Type where
 |any
 |z0
 |fS
 |bg
 |dB
 |int (k:IntKind) (n:Int)
 |bool (b:Bool)
 |str (s:ByteArray)
 |row (n:Nat) (xs:List (D n))
 |rv (n:Nat) (ts:List (TV D))
 |ptr (r v i j:Nat)
 |fl (r v:Nat)
 |sl (r v off len:Nat)
 |vp (cs:List (TV D)) (j:Nat)
 |agg (cs:List (TV D))
 |bu (cs:List (TV D))
 |fn (f:Nat) (cs ds:List (TV D))
 |jC (o:Option Nat)
 deriving Inhabited
inductive Bd (D:Nat->Type):Type where
 |aap (n:Nat) (xs:List (D n))
 |box (ty:Nat) (cs:List (TV D))
 |dead
 |hole (n:Nat) (xs:List (D n)) (es:List (TV D))
structure Ob (D:Nat->Type) where
 st:Nat
 aF:Nat
 bd:Bd D
abbrev En(a:Nat->Type):=List (Nat×TV a)
structure St (D:Nat->Type) where
 E:En D
 H:List (Ob D)
structure Tb where
 ty:Nat->Ty
 tv:(n:Nat)->(ty n).T->TV (λn=>(ty n).T)
 up:(n:Nat)->TV (λn=>(ty n).T)->Option (ty n).T
 sz:Nat->Nat
 flat:Nat->Bool
 el:Nat->Nat
@[reducible] def Tb.D(B:Tb)(n:Nat):Type:=(B.ty n).T
def nth{a:Type}:List a->Nat->Option a
 |[],_=>c6
 |d::_,0=>c4 d
 |_::c,b+1=>nth c b
def me{a:Type}:List a->Nat->a->List a
 |[],_,_=>[]
 |_::c,0,b=>b::c
 |e::c,d+1,b=>e::me c d b
def b8{a:Type}:List a->List (Nat×a)->List a
 |b,[]=>b
 |b,p::c=>b8 (me b p.1 p.2) c
def aX{a:Type}:List a->List a->List a
 |[],b=>b
 |d::c,b=>d::aX c b
def len{a:Type}:List a->Nat
 |[]=>0
 |_::b=>Nat.succ (len b)
def has:List Nat->Nat->Bool
 |[],_=>false
 |c::b,a=>bif e4 c a then true else has b a
def lk{b:Nat->Type}:En b->Nat->TV b
 |[],_=>.any
 |p::r,a=>bif e4 p.1 a then p.2 else lk r a
def fV(a b:IntKind):Bool:=c3 (a=b)
def Cs{a:Nat->Type}:Value->TV a
 | .bool b=>.bool b
 | .int e c=>.int e c
 | .string d=>.str d
 | .pointer c6=>.fS
 | .slice c6 0 0=>.bg
 | .nilFunc=>.dB
 |_=>.any
def rq{D:Nat->Type}:List Value->List (TV D)
 |[]=>[]
 |v::a=>Cs v::rq a
def cv{D:Nat->Type}:Value->TV D
 | .agg a=>.agg (rq a.toList)
 |v=>Cs v
def pe{a:Nat->Type}(c:En a):Operand->TV a
 | .tmp b=>lk c b
 | .const v=>cv v
 | .global _=>.any
 | .func f=>.fn f [] []
def fB{a:Nat->Type}(b:En a):List Operand->List (TV a)
 |[]=>[]
 |c::d=>pe b c::fB b d
def tr{a b:Type}(e:Option a)(c:a->Option b):Option b:=
 match e with
 |some d=>c d
 |none=>c6
inductive CP where
 |any
 |v (n:Nat)
 |p (q:Nat)
 |r (q:Nat)
 |q (cs:List CP)
 |f (cO:Nat) (cs ds:List CP)
 |g (cs:List CP)
 |b (b:Bool)
 |i (k:IntKind) (n:Int)
 |z
 |ns
 deriving Inhabited
inductive OP where
 |aap (m n:Nat)
 |box (ty:Nat) (cs:List CP)
 |dead
 |refs (m:Nat) (qs:List Nat)
 deriving Inhabited
def iQ:List Nat->List CP
 |[]=>[]
 |q::a=>.r q::iQ a
structure bY where
 dF:List (Nat×List Nat×OP)
 dE:List (Nat×CP)
 deriving Inhabited
mutual
def CP.bX:CP->List Nat
 | .v n=>[n]
 | .q a=>CP.gA a
 | .f _ a c=>aX (CP.gA a) (CP.gA c)
 | .g a=>CP.gA a
 |_=>[]
def CP.gA:List CP->List Nat
 |[]=>[]
 |c::a=>aX c.bX (CP.gA a)
end
def OP.bX:OP->List Nat
 | .aap _ n=>[n]
 | .box _ a=>CP.gA a
 | .dead=>[]
 | .refs _ c=>CP.gA (iQ c)
def vu:List (Nat×CP)->List Nat
 |[]=>[]
 |b::a=>aX b.2.bX (vu a)
def rS:List (Nat×List Nat×OP)->List Nat
 |[]=>[]
 |b::a=>aX b.2.2.bX (rS a)
def bY.bX(p:bY):List Nat:=aX (rS p.dF) (vu p.dE)
structure lD where
 dO:List (Nat×Bool×OP)
 new:List (Nat×List Nat×OP)
 dE:List (Nat×CP)
 deriving Inhabited
def ux:List (Nat×Bool×OP)->List Nat
 |[]=>[]
 |b::a=>aX b.2.2.bX (ux a)
def lD.bX(p:lD):List Nat:=aX (ux p.dO) (aX (rS p.new) (vu p.dE))
def bi(a:Nat->Type):List Nat->Type
 |[]=>Unit
 |[b]=>a b
 |b::c::ns=>a b×bi a (c::ns)
section
variable (B:Tb){R:Type}
def m9:(ns:List Nat)->List (TV B.D)->(bi B.D ns->Option R)->Option R
 |[],[],a=>a ()
 |[c],[b],a=>tr (B.up c b) a
 |c::g::ns,b::f,a=>tr (B.up c b) λe=>m9 (g::ns) f λd=>a (e,d)
 |_,_,_=>c6
def rQ:(ns:List Nat)->bi B.D ns->List (TV B.D)
 |[],_=>[]
 |[b],a=>[B.tv b a]
 |b::c::ns,a=>B.tv b a.1::rQ (c::ns) a.2
end
def dN{a:Nat->Type}:TV a->List (TV a)
 | .agg c=>c
 |b=>[b]
def aK{a:Nat->Type}(c:List (Ob a))(r v:Nat):Option (Bd a):=
 match nth c r with
 |some b=>bif e4 b.aF v then c4 b.bd else c6
 |none=>c6
def ml{a:Nat->Type}(c:List (Ob a))(d:List Nat):TV a->TV a
 | .fl r v=>match aK c r v with
  |some (.aap b e)=>bif has d r then .any else .row b e
  |_=>.any
 |_=>.any
def qf{a:Nat->Type}(b:List (Ob a))(c:List Nat):List (TV a)->List (TV a)
 |[]=>[]
 |e::d=>ml b c e::qf b c d
def DA{a:Nat->Type}:List (TV a)->Bool
 |[]=>true
 | .fl _ _::b=>DA b
 |_::_=>false
mutual
def kJ{g:Nat->Type}(b:List (Ob g))(a:List Nat):TV g->TV g
 | .fl r v=>match aK b r v with
  |some (.aap c e)=>bif has a r then .any else .row c e
  |some (.hole c [] h)=>bif has a r then .any else bif DA h then .rv c (qf b a h) else .any
  |_=>.any
 | .sl r v k len=>match aK b r v with
  |some (.aap c e)=>bif has a r then .any else .row c ((e.drop k).take len)
  |_=>.any
 | .agg d=>.agg (jS b a d)
 | .fn f d j=>.fn f (jS b a d) (jS b a j)
 | .ptr .. =>.any
 | .bu _=>.any
 |i=>i
def jS{a:Nat->Type}(b:List (Ob a))(c:List Nat):List (TV a)->List (TV a)
 |[]=>[]
 |e::d=>kJ b c e::jS b c d
end
mutual
def refs{c:Nat->Type}:TV c->List Nat
 | .fl r _=>[r]
 | .sl r _ _ _=>[r]
 | .ptr r _ _ _=>[r]
 | .agg a=>iB a
 | .bu a=>iB a
 | .fn _ a b=>aX (iB a) (iB b)
 |_=>[]
def iB{b:Nat->Type}:List (TV b)->List Nat
 |[]=>[]
 |c::a=>aX (refs c) (iB a)
end
def kY{c:Nat->Type}(a:List (Ob c)):List Nat->List Nat
 |[]=>[]
 |r::b=>match nth a r with
  |some ⟨_,_,.hole _ [] d⟩=>aX (iB d) (kY a b)
  |_=>kY a b
def qE{f:Nat->Type}(a:List (Ob f)):TV f->List Nat->TV f
 |e,[]=>e
 |e,d::c=>match e with
  | .fn _ _ g=>qE a ((nth g d).getD .any) c
  | .agg b=>qE a ((nth b d).getD .any) c
  | .ptr r v 0 0=>match aK a r v with
   |some (.box _ b)=>qE a ((nth b d).getD .any) c
   |_=>.any
  | .fl r v=>match aK a r v with
   |some (.hole _ [] b)=>qE a ((nth b d).getD .any) c
   |_=>.any
  |_=>.any
inductive Rf where
 |bG (r:Nat)
 |new
 |gone
 |bad
def Tf{a:Nat->Type}(b:List (Ob a)):TV a->Rf
 | .fl r v=>match aK b r v with
  |some (.aap _ _)=>.bG r
  |some (.hole _ _ _)=>.bG r
  |_=>.bad
 | .ptr r v 0 0=>match aK b r v with
  |some (.box _ _)=>.bG r
  |_=>.bad
 | .bg=>.new
 | .z0=>.new
 |_=>.bad
def U7{d:Nat->Type}(a:List (Ob d))(r:Nat):List Nat->Rf
 |[]=>.bG r
 |e::b=>match nth a r with
  |some c=>Tf a (qE a (.ptr r c.aF 0 0) (e::b))
  |none=>.bad
def nQ{D:Nat->Type}(b:St D):List (Nat×List Nat×OP)->List Rf
 |[]=>[]
 |a::c=>(bif hK 100000 a.1 then U7 b.H (a.1 -100000) a.2.1 else Tf b.H (qE b.H (lk b.E a.1) a.2.1))::nQ b c
def bL:List Rf->List Nat
 |[]=>[]
 | .bG r::a=>r::bL a
 |_::a=>bL a
def rj:List Nat->Bool
 |[]=>true
 |b::a=>bif has a b then false else rj a
def JG:List Rf->Bool
 |[]=>true
 | .bad::_=>false
 |_::a=>JG a
mutual
def MG:CP->Bool
 | .p _=>false
 | .r _=>false
 | .q a=>ow a
 | .f _ a b=>bif ow a then ow b else false
 | .g a=>ow a
 |_=>true
def ow:List CP->Bool
 |[]=>true
 |b::a=>bif MG b then ow a else false
end
def cat{a:Type}:Option (List a)->Option (List a)->Option (List a)
 |some c,c4 b=>c4 (aX c b)
 |_,_=>c6
mutual
def eR{j:Nat->Type}(d:List (Ob j))(c:List Rf)(g:List Nat):CP->TV j->Option (List (TV j))
 | .any,_=>c4 []
 | .v _,a=>c4 [kJ d g a]
 | .p q,a=>match a with
  | .ptr r v 0 0=>match aK d r v,nth c q with
   |some (.box _ _),c4 (.bG i)=>bif e4 r i then c4 [] else c6
   |_,_=>c6
  |_=>c6
 | .r q,a=>match a with
  | .fl r v=>match aK d r v,nth c q with
   |some (.aap _ _),c4 (.bG i)=>bif e4 r i then c4 [] else c6
   |some (.hole _ _ _),c4 (.bG i)=>bif e4 r i then c4 [] else c6
   |_,_=>c6
  | .bg=>match nth c q with
   |some .new=>c4 []
   |_=>c6
  | .z0=>match nth c q with
   |some .new=>c4 []
   |_=>c6
  |_=>c6
 | .q e,a=>match a with
  | .ptr r v 0 0=>match aK d r v with
   |some (.box _ h)=>bif has g r then c6 else bif ow e then fg d c g e h else c6
   |_=>c6
  | .vp h 0=>bif ow e then fg d c g e h else c6
  |_=>c6
 | .f k e o,a=>match a with
  | .fn f h p=>bif e4 f k then cat (fg d c g e h) (fg d c g o p) else c6
  |_=>c6
 | .g e,a=>match a with
  | .agg h=>fg d c g e h
  |_=>c6
 | .b b,a=>match a with
  | .bool t=>bif Bool.xor b t then c6 else c4 []
  |_=>c6
 | .i m n,a=>match a with
  | .int l s=>bif fV m l then bif c3 (s=n) then c4 [] else c6 else c6
  |_=>c6
 | .ns,a=>match a with
  | .bg=>c4 []
  |_=>c6
 | .z,a=>match a with
  | .dB=>c4 []
  |_=>c6
def fg{a:Nat->Type}(d:List (Ob a))(b:List Rf)(c:List Nat):List CP->List (TV a)->Option (List (TV a))
 |[],[]=>c4 []
 |h::e,f::g=>cat (eR d b c h f) (fg d b c e g)
 |_,_=>c6
end
def dn{f:Nat->Type}(a:List (Ob f))(d:List Rf)(e:List Nat):OP->Rf->Option (List (TV f))
 | .aap b _,.bG r=>match nth a r with
  |some ⟨_,_,.aap c j⟩=>bif e4 b c then c4 [.row c j] else c6
  |_=>c6
 | .aap b _,.new=>c4 [.row b []]
 | .box m g,.bG r=>match nth a r with
  |some ⟨_,_,.box l k⟩=>bif e4 m l then fg a d e g k else c6
  |_=>c6
 | .refs b i,.bG r=>match nth a r with
  |some ⟨_,_,.hole c [] h⟩=>bif e4 b c then fg a d e (iQ i) h else c6
  |_=>c6
 |_,_=>c6
def iP{d:Nat->Type}(c:List (Ob d))(a:List Rf)(b:List Nat):List (Nat×List Nat×OP)->List Rf->Option (List (TV d))
 |[],[]=>c4 []
 |g::f,i::e=>cat (dn c a b g.2.2 i) (iP c a b f e)
 |_,_=>c6
def oz{d:Nat->Type}(a:St d)(b:List Rf)(c:List Nat):List (Nat×CP)->Option (List (TV d))
 |[]=>c4 []
 |e::f=>cat (eR a.H b c e.2 (lk a.E e.1)) (oz a b c f)
def leaves{b:Nat->Type}(p:bY)(c:St b)(a:List Rf):Option (List (TV b)):=
 bif JG a then bif rj (bL a) then cat (iP c.H a (bL a) p.dF a) (oz c a (bL a) p.dE) else c6 else c6
def qH{f:Nat->Type}(b:List (Ob f)):Nat->Nat->List Rf->Bool
 |0,_,_=>true
 |d+1,a,.bG r::c=>bif e4 r a then(match nth b r with |some e=>bif e4 e.aF 0 then qH b d (a+1) c else false |none=>false) else false
 |_,_,_=>false
section
variable {B:Tb}{R:Type}
def take(B:Tb)(d:Nat)(p:bY)(a:St B.D)(c:bi B.D p.bX->Option R):Option R:=
 let b:=nQ a p.dF
 bif qH a.H d 0 b then tr (leaves p a b) λe=>m9 B p.bX e c else c6
mutual
def hO{f:Nat->Type}(c:Nat->Nat×Nat):CP->List (TV f)->TV f×List (TV f)
 | .any,a=>(.any,a)
 | .v _,h::a=>(h,a)
 | .v _,[]=>(.any,[])
 | .p q,a=>(.ptr (c q).1 (c q).2 0 0,a)
 | .r q,a=>(.fl (c q).1 (c q).2,a)
 | .q d,a=>match jD c d a with
  |(e,a)=>(.vp e 0,a)
 | .f g d k,a=>match jD c d a with
  |(e,a)=>match jD c k a with
   |(l,a)=>(.fn g e l,a)
 | .g d,a=>match jD c d a with
  |(e,a)=>(.agg e,a)
 | .b b,a=>(.bool b,a)
 | .i i j,a=>(.int i j,a)
 | .z,a=>(.dB,a)
 | .ns,a=>(.bg,a)
def jD{b:Nat->Type}(c:Nat->Nat×Nat):List CP->List (TV b)->List (TV b)×List (TV b)
 |[],a=>([],a)
 |g::d,a=>match hO c g a with
  |(f,a)=>match jD c d a with
   |(e,a)=>(f::e,a)
end
def dI{d:Nat->Type}(e:Nat->Nat×Nat)(b v:Nat):OP->List (TV d)->Ob d×List (TV d)
 | .aap _ _,g::a=>match g with
  | .row h i=>(⟨b,v,.aap h i⟩,a)
  |_=>(⟨b,v,.dead⟩,a)
 | .aap _ _,[]=>(⟨b,v,.dead⟩,[])
 | .box l f,a=>match jD e f a with
  |(c,a)=>(⟨b,v,.box l c⟩,a)
 | .dead,a=>(⟨b,v,.dead⟩,a)
 | .refs k j,a=>match jD e (iQ j) a with
  |(c,a)=>(⟨b,v,.hole k [] c⟩,a)
def lM{c:Nat->Type}(b:Nat->Nat×Nat)(q:Nat):List (Nat×List Nat×OP)->List (TV c)->List (Ob c)×List (TV c)
 |[],a=>([],a)
 |f::e,a=>match dI b 0 (b q).2 f.2.2 a with
  |(g,a)=>match lM b (q+1) e a with
   |(d,a)=>(g::d,a)
def gR{c:Nat->Type}(b:Nat->Nat×Nat):List (Nat×CP)->List (TV c)->List (Nat×TV c)
 |[],_=>[]
 |d::e,a=>match hO b d.2 a with
  |(f,a)=>(d.1,f)::gR b e a
def nI(B:Tb)(a:Nat->Nat×Nat)(p:bY)(b:bi B.D p.bX):St B.D:=
 match lM a 0 p.dF (rQ B p.bX b) with
 |(c,d)=>⟨gR a p.dE d,c⟩
def cz(B:Tb)(p:bY)(a:bi B.D p.bX):St B.D:=nI B (λq=>(q,0)) p a
def dJ{a:Nat->Type}(b:List (Ob a))(r:Nat):Nat:=(match nth b r with |some c=>c.st |none=>0)+1
def OP.qj:OP->Bool
 | .dead=>true
 |_=>false
def gone:List (Nat×Bool×OP)->Nat->Bool
 |[],_=>false
 |a::b,r=>bif e4 a.1 r then a.2.2.qj else gone b r
def bN:List (Nat×Bool×OP)->Nat->Bool
 |[],_=>false
 |b::a,r=>bif e4 b.1 r then true else bN a r
def nL(b:List (Nat×Bool×OP)):Nat->Nat->List Rf->List Rf
 |0,_,a=>a
 |c+1,r,a=>(bif gone b r then .gone else .bG r)::nL b c (r+1) a
def calm{b:Nat->Type}(a:List (Nat×Bool×OP)):Nat->List (Ob b)->List (Ob b)->Bool
 |_,[],_=>true
 |r,e::d,f::c=>bif (bif bN a r then true else e4 e.st f.st) then calm a (r+1) d c else false
 |_,_::_,[]=>false
def wH{g:Nat->Type}(c d:List (Ob g)):List (Nat×Bool×OP)->Bool
 |[]=>true
 |a::e=>bif a.2.1 then(match nth c a.1,nth d a.1 with
  |some f,c4 b=>bif a.2.2.qj then false else bif e4 f.aF b.aF then wH c d e else false
  |_,_=>false) else bif m1 a.1 (len c) then wH c d e else false
def ET(a:List Nat):List (Nat×CP)->Bool
 |[]=>true
 |c::b=>bif has a c.1 then ET a b else false
def pX{e:Nat->Type}(d:List (Ob e))(b:List Rf)(c:List Nat):List (Nat×Bool×OP)->Option (List (TV e))
 |[]=>c4 []
 |a::f=>cat (bif a.2.2.qj then c4 [] else dn d b c a.2.2 (.bG a.1)) (pX d b c f)
def DZ:List (Nat×Bool×OP)->List Nat
 |[]=>[]
 |b::a=>b.1::DZ a
def zE(b:Nat):List (Nat×Bool×OP)->Bool
 |[]=>true
 |a::c=>bif (bif hK b a.1 then true else bif a.2.1 then(bif a.2.2.qj then false else true) else false) then zE b c else false
def nW(B:Tb)(g:Nat)(e:St B.D)(h:List Nat)(p:lD)(a:St B.D)(f:bi B.D p.bX->Option R):Option R:=
 let d:=nQ a p.new
 let b:=nL p.dO (len e.H) 0 d
 let c:=bL b
 bif zE g p.dO then bif ET h p.dE then bif JG d then bif rj c then bif rj (DZ p.dO) then bif calm p.dO 0 e.H a.H then bif wH e.H a.H p.dO then
  tr (cat (pX a.H b c p.dO) (cat (iP a.H b c p.new d) (oz a b c p.dE))) λi=>m9 B p.bX i f
 else c6 else c6 else c6 else c6 else c6 else c6 else c6
def mw{e:Nat->Type}(c:List (Ob e))(b:List (Nat×Bool×OP))(q:Nat):Nat:=
 match nth c q with
 |some a=>bif bN b q then(bif kv b q then a.aF else a.aF+1) else a.aF
 |none=>1
where kv:List (Nat×Bool×OP)->Nat->Bool
 |[],_=>false
 |a::d,r=>bif e4 a.1 r then a.2.1 else kv d r
def pU{c:Nat->Type}(e:List (Ob c))(d:Nat->Nat×Nat):List (Nat×Bool×OP)->List (TV c)->List (Nat×Ob c)×List (TV c)
 |[],a=>([],a)
 |b::g,a=>match dI d (dJ e b.1) (d b.1).2 b.2.2 a with
  |(h,a)=>match pU e d g a with
   |(f,a)=>((b.1,h)::f,a)
def mN{b:Nat->Type}(a:List Nat):En b->En b
 |[]=>[]
 |p::r=>bif has a p.1 then mN a r else p::mN a r
def ik(B:Tb)(a:St B.D)(f:List Nat)(p:lD)(d:bi B.D p.bX):St B.D:=
 let b:=λq=>(q,mw a.H p.dO q)
 match pU a.H b p.dO (rQ B p.bX d) with
 |(e,c)=>match lM b (len a.H) p.new c with
  |(g,c)=>⟨aX (gR b p.dE c) (mN f a.E),aX (b8 a.H e) g⟩
end
structure aq (B:Tb) where
 cO:Nat
 na:Nat
 low:Nat
 par:bY
 az:bY
 F:bi B.D par.bX->Option (bi B.D az.bX)
structure cr (D:Nat->Type) where
 val:TV D
 wr:List (Nat×Ob D)
 nw:Nat
 rd:List Nat
section
variable (B:Tb)(P:Program){R:Type}
def drop{b:Type}:Nat->List b->List b
 |0,a=>a
 |_+1,[]=>[]
 |c+1,_::a=>drop c a
def tk{a:Type}:Nat->List a->List a
 |0,_=>[]
 |_+1,[]=>[]
 |b+1,d::c=>d::tk b c
def piece{e:Nat->Type}(c:TypeId)(a:List (TV e))(b:Nat):Option (TV e):=
 match dP P c with
 |some true=>match cH P c with
  |some d=>bif hK (b+d) (len a) then c4 (.agg (tk d (drop b a))) else c6
  |none=>c6
 |some false=>nth a b
 |none=>c6
def A6{a:Nat->Type}(d:TypeId->TV a->TV a->Option Bool)(c e:List (TV a)):List Field->Option Bool
 |[]=>c4 true
 |f::g=>bif f.name != "_" then(match piece P f.type c f.offset,piece P f.type e f.offset with
  |some h,c4 b=>(match d f.type h b,A6 d c e g with
   |some p,c4 q=>c4 (p&&q)
   |_,_=>c6)
  |_,_=>c6) else c6
def yq{f:Nat->Type}:Nat->TypeId->TV f->TV f->Option Bool
 |0,_,_,_=>c6
 |i+1,e,c,a=>match P.underlying e with
  |some .bool=>(match c,a with
   | .bool d,.bool b=>c4 (d==b)
   |_,_=>c6)
  |some (.int _)=>(match c,a with
   | .int d l,.int b j=>bif fV d b then c4 (l==j) else c6
   |_,_=>c6)
  |some (.struct g)=>bif P.stoodInHeld e then c6 else(match c,a with
   | .agg h,.agg k=>A6 P (yq i) h k g.toList
   |_,_=>c6)
  |_=>c6
def LM(P:Program)(a:TypeId):Bool:=match P.underlying a with |some (.func ..)=>true |_=>false
def bin(g:BinOp)(f:TypeId)(l k:TV B.D)(c:TV B.D->Option R):Option R:=
 match l,k with
 | .int a e,.int b d=>match g with
  | .add=>bif fV a b then c (.int a (a.wrap (e+d))) else c6
  | .sub=>bif fV a b then c (.int a (a.wrap (e -d))) else c6
  | .mul=>bif fV a b then c (.int a (a.wrap (e*d))) else c6
  | .quo=>bif fV a b then(ph a e d).bind λr=>c (.int a r) else c6
  | .rem=>bif fV a b then(nG e d).bind λr=>c (.int a r) else c6
  | .and=>bif fV a b then c (.int a (bits .and a e d)) else c6
  | .or=>bif fV a b then c (.int a (bits .or a e d)) else c6
  | .xor=>bif fV a b then c (.int a (bits .xor a e d)) else c6
  | .andNot=>bif fV a b then c (.int a (bits .andNot a e d)) else c6
  | .shl=>(uU a e d).bind λr=>c (.int a r)
  | .shr=>(iN a e d).bind λr=>c (.int a r)
  | .eql=>bif fV a b then c (.bool (c3 (e=d))) else c6
  | .neq=>bif fV a b then c (.bool (c3 (e≠d))) else c6
  | .lss=>bif fV a b then c (.bool (c3 (e<d))) else c6
  | .leq=>bif fV a b then c (.bool (c3 (e<=d))) else c6
  | .gtr=>bif fV a b then c (.bool (c3 (d<e))) else c6
  | .geq=>bif fV a b then c (.bool (c3 (d<=e))) else c6
 | .bool a,.bool b=>match g with
  | .eql=>bif sr P f then c (.bool (a==b)) else c6
  | .neq=>bif sr P f then c (.bool (a != b)) else c6
  |_=>c6
 | .agg h,.agg i=>match g with
  | .eql=>bif P.eqGuardType P.depth f then c6 else tr (yq P 10000 f (.agg h) (.agg i)) λb=>c (.bool b)
  | .neq=>bif P.eqGuardType P.depth f then c6 else tr (yq P 10000 f (.agg h) (.agg i)) λb=>c (.bool (!b))
  |_=>c6
 | .jC j,.dB=>bif LM P f then match g with
  | .eql=>c (.bool j.isNone)
  | .neq=>c (.bool (!j.isNone))
  |_=>c6 else c6
 |_,_=>c6
def HY(e:UnOp)(d:TV B.D)(a:TV B.D->Option R):Option R:=
 match e,d with
 | .neg,.int c f=>a (.int c (c.wrap (0 -f)))
 | .not,.bool b=>a (.bool (!b))
 |_,_=>c6
def Es(i b:Nat)(a:TV B.D->Option R):Nat->List (TV B.D)->Option R
 |_,[]=>c6
 |c,e::d=>bif e4 i (b+c) then a e else Es i b a (c+1) d
def AK(d:Int)(a:Nat)(c:Nat->Option R):Nat->List (TV B.D)->Option R
 |_,[]=>c6
 |b,_::e=>bif c3 (d=((a+b:Nat):Int)) then c (a+b) else AK d a c (b+1) e
def load(j:List (Ob B.D))(c:TypeId)(f:TV B.D)(b:cr B.D->Option R):Option R:=
 match f with
 | .vp d a=>tr (piece P c d a) λv=>b ⟨v,[],0,[]⟩
 | .ptr r v i a=>match aK j r v with
  |some (.aap g e)=>(e[i]?).bind λf=>tr (piece P c (dN (B.tv g f)) a) λv=>b ⟨v,[],0,[r]⟩
  |some (.box _ d)=>bif e4 i 0 then tr (piece P c d a) λv=>b ⟨v,[],0,[r]⟩ else c6
  |some (.hole g e h)=>Es B i e.length (λk=>tr (piece P c (dN k) a) λv=>b ⟨v,[],0,[r]⟩) 0 h
  |_=>c6
 |_=>c6
def oJ{a:Type}(b:List a)(c:Nat)(d:List a):List a:=aX (tk c b) (aX d (drop (c+len d) b))
def tF{a:Nat->Type}:TV a->Bool
 | .bu _=>false
 |_=>true
mutual
def yH{a:Nat->Type}:TV a->Bool
 | .any=>false
 | .agg _=>false
 | .bu _=>false
 |_=>true
def jj{b:Nat->Type}:List (TV b)->Bool
 |[]=>true
 |c::a=>bif yH c then jj a else false
end
def store(e:List (Ob B.D))(k:TypeId)(h a:TV B.D)(g:cr B.D->Option R):Option R:=
 match cH P k with
 |some b=>bif e4 (len (dN a)) b then bif jj (dN a) then match h with
  | .ptr r v i d=>match aK e r v with
   |some (.aap b j)=>(j[i]?).bind λh=>
    match B.tv b h with
    | .agg c=>bif hK (d+len (dN a)) (len c) then tr (B.up b (.agg (oJ c d (dN a)))) λf=>g ⟨.any,[(r,⟨dJ e r,v,.aap b (j.set i f)⟩)],0,[r]⟩ else c6
    |_=>bif e4 d 0 then tr (B.up b a) λf=>g ⟨.any,[(r,⟨dJ e r,v,.aap b (j.set i f)⟩)],0,[r]⟩ else c6
   |some (.box l c)=>bif e4 i 0 then bif hK (d+len (dN a)) (len c) then g ⟨.any,[(r,⟨dJ e r,v,.box l (oJ c d (dN a))⟩)],0,[r]⟩ else c6 else c6
   |_=>c6
  |_=>c6 else c6 else c6
 |none=>c6
def rowOf(d:List (Ob B.D))(e:TV B.D)(c:(a:Nat)->List (B.D a)->List Nat->Option R):Option R:=
 match e with
 | .row a b=>c a b []
 | .fl r v=>match aK d r v with
  |some (.aap a b)=>c a b [r]
  |_=>c6
 | .sl r v f len=>match aK d r v with
  |some (.aap a b)=>c a ((b.drop f).take len) [r]
  |_=>c6
 |_=>c6
def sU(b a:Nat)(c:List (B.D b)):Option (List (B.D a)):=
 if d:b=a then c4 (d▸c) else c6
def CK(e:List (Ob B.D))(c:Nat)(b:TV B.D)(a:List (B.D c)->List Nat->Option R):Option R:=
 match b with
 | .bg=>a [] []
 | .z0=>a [] []
 |b=>rowOf B e b λh f g=>tr (sU B h c f) λd=>a d g
def KK:Option Nat->Nat->Bool
 |some a,b=>e4 a b
 |none,_=>false
def kX(b:TypeId)(a:Nat):Bool:=match dU P b,cH P a with |some c,c4 d=>bif e4 c a then e4 d (B.sz a) else false |_,_=>false
def indexAddr(f:List (Ob B.D))(e:TypeId)(j i:TV B.D)(d:cr B.D->Option R):Option R:=
 match i with
 | .int _ c=>match j with
  | .row a b=>bif kX B P e a then(aj b c).bind λl=>d ⟨.vp (dN (B.tv a l)) 0,[],0,[]⟩ else c6
  | .fl r v=>match aK f r v with
   |some (.aap a b)=>bif kX B P e a then(aj b c).bind λ_=>d ⟨.ptr r v c.toNat 0,[],0,[r]⟩ else c6
   |some (.hole a b h)=>bif kX B P e a then AK B c b.length (λi=>d ⟨.ptr r v i 0,[],0,[r]⟩) 0 h else c6
   |_=>c6
  | .sl r v g len=>match aK f r v with
   |some (.aap a b)=>bif kX B P e a then(aj ((b.drop g).take len) c).bind λ_=>d ⟨.ptr r v (g+c.toNat) 0,[],0,[r]⟩ else c6
   |_=>c6
  | .ptr r v i k=>match c with
   | .ofNat q=>match pk P e with
    |some (a,m)=>match cH P m with
     |some n=>bif m1 q a then d ⟨.ptr r v i (k+q*n),[],0,[]⟩ else c6
     |none=>c6
    |none=>c6
   |_=>c6
  |_=>c6
 |_=>c6
def ints{c:Nat->Type}(a:IntKind):List (TV c)->Option (List Int)
 |[]=>c4 []
 | .int b d::e=>bif fV a b then(match ints a e with |some r=>c4 (d::r) |none=>c6) else c6
 |_=>c6
def gS{a:Nat->Type}:List (TV a)->Option (List Bool)
 |[]=>c4 []
 | .bool b::c=>(match gS c with |some r=>c4 (b::r) |none=>c6)
 |_=>c6
def Gx(c:TypeId)(b:Nat):Bool:=match pk P c with
 |some (d,a)=>(match cH P a,dP P a with |some e,c4 false=>bif e4 d b then e4 e 1 else false |_,_=>false)
 |none=>false
def index(f:TypeId)(g i:TV B.D)(c:cr B.D->Option R):Option R:=
 match i,g with
 | .int _ e,.agg a=>bif Gx P f (len a) then match a with
  | .int d _::_=>tr (ints d a) λb=>(aj b e).bind λv=>c ⟨.int d v,[],0,[]⟩
  | .bool _::_=>tr (gS a) λb=>(aj b e).bind λv=>c ⟨.bool v,[],0,[]⟩
  |_=>c6 else c6
 |_,_=>c6
def rE(b:En B.D)(d:Int):Option Operand->Option Int
 |none=>c4 d
 |some a=>match pe b a with
  | .int _ c=>c4 c
  |_=>c6
def pP{a:Nat->Type}:TV a->Bool
 | .int _ (.ofNat 0)=>true
 |_=>false
def Bx(a:En B.D):Option Operand->Bool
 |none=>true
 |some b=>pP (pe a b)
def slice(c:En B.D)(k:List (Ob B.D))(f:TypeId)(l:TV B.D)(i g:Option Operand)(h:cr B.D->Option R):Option R:=
 match l with
 | .row a d=>bif kX B P f a then tr (rE B c 0 i) λe=>tr (rE B c (d.length:Int) g) λb=>(eG d e b).bind λj=>h ⟨.row a j,[],0,[]⟩ else c6
 | .fl r v=>match aK k r v with
  |some (.aap a d)=>bif kX B P f a then tr (rE B c 0 i) λe=>tr (rE B c (d.length:Int) g) λb=>(eG d e b).bind λ_=>h ⟨.sl r v e.toNat (b.toNat -e.toNat),[],0,[r]⟩ else c6
  |_=>c6
 | .bg=>bif Bx B c i then bif Bx B c g then(match dU P f with |some a=>bif kX B P f a then h ⟨.bg,[],0,[]⟩ else c6 |none=>c6) else c6 else c6
 |_=>c6
def shrink(j:En B.D)(a:List (Ob B.D))(h:TypeId)(i:TV B.D)(e:Option Operand)(g:cr B.D->Option R):Option R:=
 match i with
 | .fl r v=>match aK a r v with
  |some (.aap c d)=>bif kX B P h c then tr (rE B j (d.length:Int) e) λb=>(eG d 0 b).bind λf=>g ⟨.fl r (v+1),[(r,⟨dJ a r,v+1,.aap c f⟩)],0,[r]⟩ else c6
  |_=>c6
 |_=>c6
def fill{b:Nat->Type}:List (Nat×Nat)->List (TV b)->List (Nat×List (TV b))->Option (List (TV b))
 |_,a,[]=>c4 a
 |c,a,p::r=>match nth c p.1 with
  |some (d,size)=>bif e4 (len p.2) size then bif hK (d+size) (len a) then bif jj p.2 then fill c (oJ a d p.2) r else c6 else c6 else c6
  |none=>c6
def ul(a:En B.D):List (Nat×Operand)->Option (List (Nat×List (TV B.D)))
 |[]=>c4 []
 |p::r=>bif tF (pe a p.2) then(match ul a r with |some b=>c4 ((p.1,dN (pe a p.2))::b) |none=>c6) else c6
def AA(a:Nat):Nat->Nat->List (Nat×Nat)
 |0,_=>[]
 |b+1,i=>(i*a,a)::AA a b (i+1)
def placesOf(a:TypeId):Option (List (Nat×Nat)):=
 match Jk P a with
 |some b=>c4 b
 |none=>match pk P a with
  |some (c,d)=>match cH P d with
   |some e=>c4 (AA e c 0)
   |none=>c6
  |none=>c6
def rn(b:En B.D)(a:Nat):Nat->List (Nat×Operand)->Option (List (B.D a))
 |_,[]=>c4 []
 |i,p::r=>bif e4 p.1 i then match B.up a (pe b p.2),rn b a (i+1) r with
  |some c,c4 d=>c4 (c::d)
  |_,_=>c6
  else c6
def kR{a:Nat->Type}:List (Nat×TV a)->TV a
 |[p]=>p.2
 |b=>.bu (b.map (·.2))
def fi{a:Nat->Type}:Nat->List (TV a)->En a
 |_,[]=>[]
 |i,b::c=>(i,b)::fi (i+1) c
def gu{f:Nat->Type}(c:List (Ob f))(b:List Rf)(a d q:Nat):Nat×Nat:=
 bif m1 q a then match nth b q with
  |some (.bG r)=>(r,match nth c r with |some e=>e.aF |none=>0)
  |_=>(0,0)
 else(d+(q -a),1)
def jL{c:Nat->Type}(a:List (Ob c)):List Rf->List (Nat×Ob c)
 |[]=>[]
 | .bG r::b=>match nth a r with
  |some d=>(r,⟨d.st+1,d.aF+1,.dead⟩)::jL a b
  |none=>jL a b
 |_::b=>jL a b
def iF{a:Nat->Type}(b:List (Ob a)):List Rf->List (Ob a)->List (Nat×Ob a)
 | .bG r::d,c::e=>(r,⟨dJ b r,c.aF,c.bd⟩)::iF b d e
 |_,_=>[]
def news{a:Nat->Type}:Nat->List (Ob a)->List (Nat×Ob a)
 |_,[]=>[]
 |b,d::c=>(b,d)::news (b+1) c
mutual
def jn{e:Nat->Type}(b:List (Ob e)):CP->TV e->List Nat
 | .v _,a=>aX (refs a) (kY b (refs a))
 | .q d,a=>match a with
  | .ptr r _ _ _=>r::(match nth b r with
   |some ⟨_,_,.box _ c⟩=>gJ b d c
   |_=>[])
  | .vp c _=>gJ b d c
  |_=>[]
 | .f _ d f,a=>match a with
  | .fn _ c g=>aX (gJ b d c) (gJ b f g)
  |_=>[]
 | .g d,a=>match a with
  | .agg c=>gJ b d c
  |_=>[]
 |_,_=>[]
def gJ{b:Nat->Type}(a:List (Ob b)):List CP->List (TV b)->List Nat
 |f::c,d::e=>aX (jn a f d) (gJ a c e)
 |_,_=>[]
end
def eW{f:Nat->Type}(a:List (Ob f)):List (Nat×List Nat×OP)->List Rf->List Nat
 |(_,_,.box _ d)::c,.bG r::b=>aX (match nth a r with
  |some ⟨_,_,.box _ e⟩=>gJ a d e
  |_=>[]) (eW a c b)
 |_::c,_::b=>eW a c b
 |_,_=>[]
def gK{d:Nat->Type}(a:St d):List (Nat×CP)->List Nat
 |[]=>[]
 |b::c=>aX (jn a.H b.2 (lk a.E b.1)) (gK a c)
mutual
def Kk(f:Nat->Bool):CP->Bool
 | .v b=>f b
 | .q _=>false
 | .f _ a c=>bif rr f a then rr f c else false
 | .g a=>rr f a
 |_=>true
def rr(f:Nat->Bool):List CP->Bool
 |[]=>true
 |b::a=>bif Kk f b then rr f a else false
end
def uT(f:Nat->Bool)(d:Nat->Nat):OP->Bool
 | .aap _ a=>f (d a)
 | .box _ b=>rr f b
 | .dead=>true
 | .refs _ c=>rr f (iQ c)
def oN(f:Nat->Bool)(a:Nat->Nat):List (Nat×List Nat×OP)->Bool
 |[]=>true
 |c::b=>bif uT f a c.2.2 then oN f a b else false
def tJ(f:Nat->Bool):List (Nat×CP)->Bool
 |[]=>true
 |b::a=>bif Kk f b.2 then tJ f a else false
def zc:List Nat->Bool
 |[]=>true
 |_=>false
def kA:Nat->List Rf->Bool
 |0,_=>true
 |a+1,.bG _::b=>kA a b
 |_,_=>false
def here{b:Nat->Type}(a:List (Ob b)):List Nat->Bool
 |[]=>true
 |i::c=>match nth a i with
  |some _=>here a c
  |none=>false
def Nv(b:St B.D)(a:aq B)(c:List Rf)(j:List (TV B.D))(g:cr B.D->Option R):Option R:=
 let e:=aX (eW b.H a.par.dF c) (gK b a.par.dE)
 bif (bif zc e then true else bif oN B.flat B.el a.az.dF then tJ B.flat a.az.dE else false) then bif kA a.low c then bif here b.H e then
  m9 B a.par.bX j λi=>(a.F i).bind λf=>
   match nI B (gu b.H c a.low (len b.H)) a.az f with
   |⟨h,d⟩=>bif hK a.low (len d) then g ⟨kR h,aX (iF b.H (tk a.low c) (tk a.low d)) (aX (jL b.H (drop a.low c)) (news (len b.H) (drop a.low d))),len (drop a.low d),aX (bL c) e⟩ else c6
 else c6 else c6 else c6
def nz(f:Nat)(a:St B.D)(c:cr B.D->Option R):List (aq B)->Option R
 |[]=>c6
 |b::d=>bif (bif e4 b.cO f then e4 (len a.E) b.na else false) then
  match leaves b.par a (nQ a b.par.dF) with
  |some e=>Nv B a b (nQ a b.par.dF) e c
  |none=>nz f a c d
  else nz f a c d
def nf{a:Type}:List a->List a->List a
 |[],b=>b
 |d::c,b=>nf c (d::b)
def sV(f:Nat)(b:St B.D)(c:cr B.D->Option R):List (aq B)->Option R
 |[]=>c6
 |a::d=>bif (bif e4 (len b.E) a.na then(leaves a.par b (nQ b a.par.dF)).isSome else false) then cond (e4 f a.cO) (nz B a.cO b c [a]) (sV f b c d) else sV f b c d
def Dm(f:Int->Int->Int):List (TV B.D)->Option (TV B.D)
 |[.int a c,.int b d]=>bif fV a b then c4 (.int a (f c d)) else c6
 |_=>c6
def KP{d:Nat->Type}(e:Bool)(c a:TV d):TV d:=
 match c,a with
 | .bool f,.bool b=>.bool (cond e f b)
 |c,a=>cond e c a
def Cf:Operand->Operand->Bool
 | .tmp a,.tmp b=>e4 a b
 | .const (.int a d),.const (.int b c)=>bif fV a b then c3 (d=c) else false
 |_,_=>false
def lB(a:Nat)(c:Option Nat)(z:Option Value):Bool:=
 match c,z with
 |some b,c4 z=>bif e4 a b then e4 z.cells.size a else false
 |_,_=>false
def Ax:List Value->Bool
 |[]=>true
 |v::a=>bif v.oneCell' then Ax a else false
def Ix(z:Option Value):Bool:=
 match z with
 |some z=>Ax z.cells.toList
 |none=>false
def iG{a:Type}(z:a)(c b:Nat)(d:List a):List a:=d.take c++(hB b z++d.drop (c+b))
def mg{a:Type}(b:List a)(e d:Nat)(c:List a):List a:=c.take e++(b.take d++c.drop (e+(b.take d).length))
def B4(d:List (Ob B.D))(e:TV B.D)(c:Nat->Nat->Nat->Nat->(a:Nat)->List (B.D a)->Option R):Option R:=
 match e with
 | .fl r v=>match aK d r v with
  |some (.aap a b)=>c r v 0 b.length a b
  |_=>c6
 | .sl r v f len=>match aK d r v with
  |some (.aap a b)=>c r v f len a b
  |_=>c6
 |_=>c6
def GF(d:List (Ob B.D))(c:TV B.D)(b:cr B.D->Option R):Option R:=
 match c with
 | .fl r v=>match aK d r v with
  |some (.aap _ a)=>b ⟨.int .i64 (a.length:Int),[],0,[r]⟩
  |some (.hole _ a e)=>b ⟨.int .i64 ((a.length+len e:Nat):Int),[],0,[r]⟩
  |_=>c6
 |c=>rowOf B d c λ_ a f=>b ⟨.int .i64 (a.length:Int),[],0,f⟩
def FK(a:En B.D)(c:List (Ob B.D))(b:Nat)(f:List (Nat×Operand))(d:Nat)(e:cr B.D->Option R):Option R:=
 match f with
 |[p]=>bif e4 p.1 0 then bif e4 d 1 then bif e4 (len (dN (pe a p.2))) (B.sz b) then bif jj (dN (pe a p.2)) then bif tF (pe a p.2) then e ⟨.fl (len c) 1,[(len c,⟨1,1,.hole b [] [pe a p.2]⟩)],1,[]⟩ else c6 else c6 else c6 else c6 else c6
 |_=>c6
def GI(c:List (Ob B.D))(d f:Nat)(l j:TV B.D)(e:cr B.D->Option R):Option R:=
 match j with
 | .fl q i=>match aK c q i with
  |some (.hole k [] b)=>bif e4 k d then match l with
   | .bg=>bif hK (len b*f) 140737488355328 then e ⟨.fl (len c) 1,[(len c,⟨1,1,.hole d [] b⟩)],1,[q]⟩ else c6
   | .fl r v=>match aK c r v with
    |some (.hole g a h)=>tr (sU B g d a) λa=>bif hK ((a.length+len h+len b)*f) 140737488355328 then e ⟨.fl r (v+1),[(r,⟨dJ c r,v+1,.hole d a (aX h b)⟩)],0,[r,q]⟩ else c6
    |some (.aap g a)=>tr (sU B g d a) λa=>bif hK ((a.length+len b)*f) 140737488355328 then e ⟨.fl r (v+1),[(r,⟨dJ c r,v+1,.hole d a b⟩)],0,[r,q]⟩ else c6
    |_=>c6
   |_=>c6
   else c6
  |_=>c6
 |_=>c6
def SG(b:List (Ob B.D))(c:TV B.D):Bool:=
 match c with
 | .fl q a=>match aK b q a with
  |some (.hole _ _ _)=>true
  |_=>false
 |_=>false
def step(H:List (aq B))(F:Bool)(d:En B.D)(h:List (Ob B.D))(u:Op)(g:cr B.D->Option R):Option R:=
 let mk (a:Nat) (l:List (B.D a)) (m:List Nat):Option R:=
  bif F then g ⟨.row a l,[],0,m⟩ else g ⟨.fl (len h) 1,[(len h,⟨1,1,.aap a l⟩)],1,m⟩
 match u with
 | .move c=>g ⟨pe d c,[],0,[]⟩
 | .assign c=>g ⟨pe d c,[],0,[]⟩
 | .pick k t b=>match pe d k with
  | .bool k=>g ⟨KP k (pe d t) (pe d b),[],0,[]⟩
  |_=>c6
 | .binOp u e c y _=>bin B P u e (pe d c) (pe d y) λv=>g ⟨v,[],0,[]⟩
 | .unOp u _ c=>HY B u (pe d c) λv=>g ⟨v,[],0,[]⟩
 | .convert T Q c=>match pe d c,yi P Q with
  | .int _ x,c4 t=>bif (P.underlying T).isSome then g ⟨.int t (t.wrap x),[],0,[]⟩ else c6
  |_,_=>c6
 | .extract c i=>match pe d c with
  | .bu j=>tr (nth j i) λv=>g ⟨v,[],0,[]⟩
  |_=>c6
 | .nilCheck c=>match pe d c with
  | .ptr r v i p=>g ⟨.ptr r v i p,[],0,[]⟩
  | .vp j p=>g ⟨.vp j p,[],0,[]⟩
  | .fn f j G=>g ⟨.fn f j G,[],0,[]⟩
  |_=>c6
 | .field e c f=>match pe d c,nU P e f with
  | .agg j,c4 (I,o)=>tr (piece P I j o) λv=>g ⟨v,[],0,[]⟩
  |_,_=>c6
 | .fieldAddr e c f=>match nU P e f with
  |some (I,o)=>match cH P I with
   |some (_+1)=>match pe d c with
    | .ptr r v i p=>g ⟨.ptr r v i (p+o),[],0,[]⟩
    | .vp j p=>g ⟨.vp j (p+o),[],0,[]⟩
    |_=>c6
   |_=>c6
  |none=>c6
 | .indexAddr e c i=>indexAddr B P h e (pe d c) (pe d i) g
 | .index e c i=>index B P e (pe d c) (pe d i) g
 | .load e c=>load B P h e (pe d c) g
 | .store e c y=>store B P h e (pe d c) (pe d y) g
 | .slice e c L E c6=>bif F then(match L with |none=>shrink B P d h e (pe d c) E g |some _=>c6) else slice B P d h e (pe d c) L E g
 | .slice e c c6 (c4 E) (c4 N)=>bif pP (pe d E) then bif pP (pe d N) then rowOf B h (pe d c) λa _ m=>bif kX B P e a then g ⟨.z0,[],0,m⟩ else c6 else c6 else c6
 | .box e c=>match dN (pe d c) with
  |j=>bif jj j then bif m1 0 (len j) then g ⟨.ptr (len h) 1 0 0,[(len h,⟨1,1,.box e j⟩)],1,[]⟩ else c6 else c6
 | .alloc e=>match dV P e with
  |some z=>match dN (cv z) with
   |j=>bif jj j then bif m1 0 (len j) then g ⟨.ptr (len h) 1 0 0,[(len h,⟨1,1,.box e j⟩)],1,[]⟩ else c6 else c6
  |none=>c6
 | .build e C=>match dV P e,placesOf P e with
  |some (.agg z),c4 S=>match rq z.toList with
   |j=>bif jj j then tr (ul B d C.toList) λn=>tr (fill S j n) λj=>g ⟨.agg j,[],0,[]⟩ else c6
  |_,_=>c6
 | .buildSlice e n C=>match dU P e with
  |some a=>bif lB (B.sz a) (cH P a) (dV P a) then bif Ix (dV P a) then bif hK (n*B.sz a) 16777216 then match rn B d a 0 C.toList with
   |some l=>bif e4 (len l) n then mk a l [] else c6
   |none=>FK B d h a C.toList n g
   else c6 else c6 else c6
  |none=>c6
 | .makeSlice e n k=>bif Cf n k then match dU P e,pe d n with
  |some a,.int _ x=>match dV P a,kB P a with
   |some z,c4 (s+1)=>bif lB (B.sz a) (cH P a) (dV P a) then bif jj (dN (cv (D:=B.D) z)) then tr (B.up a (cv z)) λz=>(gP (s+1) z x).bind λl=>mk a l [] else c6 else c6
   |_,_=>c6
  |_,_=>c6 else c6
 | .makeFunc (.func f) t k=>g ⟨.fn f (fB d t.toList) (fB d k.toList),[],0,[]⟩
 | .call k=>match k.callee with
  | .value f=>match pe d f with
   | .fn K j G=>nz B K ⟨fi 0 (aX j (aX (fB d k.args.toList) G)),h⟩ g (bif F then nf H [] else H)
   | .jC O=>O.bind λK=>sV B K ⟨fi 0 (fB d k.args.toList),h⟩ g H
   |_=>c6
  | .builtin b=>match b with
   | .len=>match fB d k.args.toList,k.argTypes.toList with
    |[c],[e]=>match dU P e with
     |some _=>(match c with
      | .bg=>g ⟨.int .i64 0,[],0,[]⟩
      | .z0=>g ⟨.int .i64 0,[],0,[]⟩
      |c=>GF B h c g)
     |none=>c6
    |_,_=>c6
   | .min=>tr (Dm B min (fB d k.args.toList)) λv=>g ⟨v,[],0,[]⟩
   | .max=>tr (Dm B max (fB d k.args.toList)) λv=>g ⟨v,[],0,[]⟩
   | .append=>match fB d k.args.toList,k.argTypes.toList with
    |[M,c],[e,J]=>bif e4 e J then match dU P e with
     |some a=>match kB P a with
      |some (s+1)=>bif lB (B.sz a) (cH P a) (dV P a) then bif SG B h c then GI B h a (s+1) M c g else CK B h a c λq m=>match M with
       | .bg=>(bj (s+1) [] q).bind λw=>mk a w m
       | .z0=>(bj (s+1) [] q).bind λw=>mk a w m
       | .fl r v=>match aK h r v with
        |some (.aap x l)=>tr (sU B x a l) λl=>(bj (s+1) l q).bind λw=>g ⟨.fl r (v+1),[(r,⟨dJ h r,v+1,.aap a w⟩)],0,r::m⟩
        |_=>c6
       |_=>c6
       else c6
      |_=>c6
     |none=>c6 else c6
    |_,_=>c6
   | .clear=>match fB d k.args.toList,k.argTypes.toList with
    |[c],[e]=>B4 B h c λr v o A a l=>bif KK (dU P e) a then bif lB (B.sz a) (cH P a) (dV P a) then match dV P a with
     |some z=>bif jj (dN (cv (D:=B.D) z)) then tr (B.up a (cv z)) λz=>g ⟨.bu [],[(r,⟨dJ h r,v,.aap a (iG z o A l)⟩)],0,[r]⟩ else c6
     |none=>c6 else c6 else c6
    |_,_=>c6
   | .copy=>match fB d k.args.toList,k.argTypes.toList with
    |[c,y],[e,J]=>bif e4 e J then B4 B h c λr v o A a l=>bif KK (dU P e) a then bif lB (B.sz a) (cH P a) (dV P a) then CK B h a y λq m=>g ⟨.int .i64 ((min A q.length:Nat):Int),[(r,⟨dJ h r,v,.aap a (mg q o A l)⟩)],0,r::m⟩ else c6 else c6 else c6
    |_,_=>c6
   |_=>c6
  |_=>c6
 |_=>c6
end
structure Hn where
 fz:List Nat
 outs:List (Nat×lD)
 lp:Option lD
abbrev h0:Hn:=⟨[],[],c6⟩
def hint:List (Nat×Hn)->Nat->Hn
 |[],_=>h0
 |p::a,n=>bif e4 p.1 n then p.2 else hint a n
structure Lg where
 rt:List Nat
 wt:List Nat
 rd:List Nat
 wr:List Nat
def tmpsOf:List Operand->List Nat
 |[]=>[]
 | .tmp b::a=>b::tmpsOf a
 |_::a=>tmpsOf a
def yI:Option Nat->List Nat
 |some a=>[a]
 |none=>[]
section
variable (L:Lp)(B:Tb)(P:Program)(G:List (aq B))(n:Nat)
def gr{a:Nat->Type}(b:En a):Option Nat->TV a->En a
 |some c,v=>(c,v)::b
 |none,_=>b
def zL(i:Nat):List Oper->Bool
 |[]=>false
 |b::r=>bif (match b.guard with |some (a,_)=>e4 i a |none=>false) then true else zL i r
def eV{a:Type}:List (Nat×a)->List Nat
 |[]=>[]
 |p::b=>p.1::eV b
def xt{a:Nat->Type}:Ob a:=⟨0,0,.dead⟩
def dx{a:Nat->Type}:Nat->List (Ob a)
 |0=>[]
 |n+1=>xt::dx n
def behind{a:Nat->Type}(b:List (Ob a))(r:cr a):List (Ob a):=b8 (aX b (dx r.nw)) r.wr
def sZ(d:List Oper)(c:Oper):List Nat:=match c.guard with
 |some (b,_)=>match nth d b with
  |some a=>yI a.dst
  |none=>[]
 |none=>[]
def gU{b:Nat->Type}(a:List (Ob b)):List Nat->List (Nat×Ob b)
 |[]=>[]
 |r::d=>match nth a r with
  |some c=>(r,⟨c.st+1,c.aF+1,.dead⟩)::gU a d
  |none=>gU a d
def G0{a:Nat->Type}(b:List (Ob a)):TV a->TV a
 | .bu d=>.bu (jS b [] d)
 |c=>kJ b [] c
def Jd{b:Nat->Type}(n:Nat)(a:List (Nat×Ob b)):List Nat->Bool
 |[]=>true
 |r::c=>bif hK n r then bif has (eV a) r then Jd n a c else false else false
def Fs{c:Nat->Type}(b:List (Ob c))(a:cr c):Option (cr c):=
 bif Jd (len b) a.wr (refs a.val) then bif zc (kY (behind b a) (refs a.val)) then c4 ⟨G0 (behind b a) a.val,aX a.wr (gU (behind b a) (refs a.val)),a.nw,a.rd⟩ else c6 else c6
def zM{d:Type}(f e:Bool)(g:En B.D)(b:List (Ob B.D))(h:Op)(a:cr B.D->Option d):Option d:=
 step B P G f g b h λc=>bif e then tr (Fs b c) a else a c
def rV{b:Nat->Type}(c:List Oper)(a:Oper)(r:cr b):Lg:=⟨aX (sZ c a) (tmpsOf a.op.operands.toList),yI a.dst,r.rd,eV r.wr⟩
def xo(b:List Oper)(a:Oper):Lg:=⟨sZ b a,yI a.dst,[],[]⟩
def Dp(n:Nat):List Nat->Bool
 |[]=>true
 |a::b=>bif m1 a n then Dp n b else false
def ops{k:Type}(f:List Nat)(c:List Oper)(g:List Lg->St B.D->Option k):Nat->List Oper->List Lg->St B.D->Option k
 |_,[],e,a=>g e a
 |i,d::r,e,a=>
  let go:=zM B P G (has f i) (has f (i+1000)) a.E a.H d.op λh=>bif Dp (len a.H) h.rd then
   let j:=behind a.H h
   let e:=rV c d h::e
   bif zL i c then match h.val with
    | .bool q=>cond q (ops f c g (i+1) r e ⟨gr a.E d.dst (.bool true),j⟩) (ops f c g (i+1) r e ⟨gr a.E d.dst (.bool false),j⟩)
    |_=>c6
   else ops f c g (i+1) r e ⟨gr a.E d.dst h.val,j⟩
   else c6
  match d.guard with
  |none=>go
  |some (p,o)=>match nth c p with
   |some l=>match l.dst with
    |some m=>match lk a.E m with
     | .bool b=>cond (Bool.xor b o) (ops f c g (i+1) r (xo c d::e) ⟨gr a.E d.dst (.bu []),a.H⟩) go
     | .bu []=>ops f c g (i+1) r (xo c d::e) ⟨gr a.E d.dst (.bu []),a.H⟩
     |_=>c6
    |none=>c6
   |none=>c6
def meets:List Nat->List Nat->Bool
 |[],_=>false
 |c::b,a=>bif has a c then true else meets b a
def iw:List Edge->List Nat
 |[]=>[]
 |a::b=>bif Region.binds .any a then a.on::iw b else iw b
def oF(p:Nat->Bool):List Nat->Bool
 |[]=>false
 |a::b=>bif p a then true else oF p b
def before(b:List Oper):Nat->Nat->Nat->Bool
 |0,_,_=>false
 |f+1,i,c=>match nth b c with
  |some a=>bif has (iw a.after.toList) i then true else oF (λd=>before b f i d) (iw a.after.toList)
  |none=>false
def mm(a b:Lg):Bool:=bif meets a.wr b.rd then true else bif meets a.wr b.wr then true else bif meets b.wr a.rd then true else bif meets a.wt b.rt then true else bif meets a.wt b.wt then true else meets b.wt a.rt
def vK(a:List Oper)(d:Lg)(c:Nat):Nat->List Lg->Bool
 |_,[]=>true
 |i,b::e=>bif (bif mm d b then before a (len a) i c else true) then vK a d c (i+1) e else false
def n4(a:List Oper):List Lg->Nat->List Lg->Bool
 |_,_,[]=>true
 |d,b,c::e=>bif vK a c b 0 d then n4 a (aX d [c]) (b+1) e else false
def m7:Nat->List Oper->Bool
 |_,[]=>true
 |i,b::c=>bif oF (λa=>hK i a) (iw b.after.toList) then false else m7 (i+1) c
def tI:List Oper->List Nat->List Nat
 |[],ws=>ws
 |a::r,ws=>match a.dst with
  |some b=>b::tI r ws
  |none=>tI r ws
def cQ:Code->List Nat->List Nat
 | .region _ c _,ws=>tI c.toList ws
 | .seq a b,ws=>cQ a (cQ b ws)
 | .cond _ a b,ws=>cQ a (cQ b ws)
 | .block _ a,ws=>cQ a ws
 | .loop a,ws=>cQ a ws
 |_,ws=>ws
def Ej(a:Nat):List Oper->Bool
 |[]=>true
 |b::r=>bif fL a b.dst then Ej a r else false
def gB(a:Nat):Code->Bool
 | .region _ d _=>Ej a d.toList
 | .seq c b=>bif gB a c then gB a b else false
 | .cond _ c b=>bif gB a c then gB a b else false
 | .block _ c=>gB a c
 | .loop c=>gB a c
 |_=>true
def qM:List (Nat×lD)->Type
 |[]=>Empty
 |[p]=>bi B.D p.2.bX
 |p::q::r=>bi B.D p.2.bX⊕qM (q::r)
variable (S0:St B.D)(ws:List Nat)
def inj{d:Type}:(g:List (Nat×lD))->Nat->St B.D->(qM B g->Option d)->Option d
 |[],_,_,_=>c6
 |[p],c,b,a=>bif e4 p.1 c then nW B n S0 ws p.2 b a else c6
 |p::q::r,c,b,a=>bif e4 p.1 c then nW B n S0 ws p.2 b (λf=>a (.inl f)) else inj (q::r) c b (λe=>a (.inr e))
def out{d:Type}:(e:List (Nat×lD))->qM B e->(Nat->St B.D->Option d)->Option d
 |[],_,_=>c6
 |[p],c,a=>a p.1 (ik B S0 ws p.2 c)
 |p::q::r,c,a=>Sum.elim (λf=>a p.1 (ik B S0 ws p.2 f)) (λb=>out (q::r) b a) c
def join{b:Type}(e:Code)(g:Hn)(c:Nat->St B.D->Option b)(d:{R':Type}->(Nat->St B.D->Option R')->Option R'):Option b:=
 match g.outs with
 |[]=>d c
 |p::a=>(d (R':=qM B (p::a)) λh f=>inj B n S0 (cQ e []) (p::a) h f c4).bind λi=>out B S0 (cQ e []) (p::a) i c
def D8{a:Type}(g:(Nat->St B.D->Option a)->St B.D->Option a)(c:St B.D->Option a)(f:Nat->St B.D->Option a):Nat->St B.D->Option a
 |0,b=>c b
 |h+1,b=>g (λd e=>bif e4 d 0 then D8 g c f h e else f d e) b
def zP:List Nat->Nat
 |[]=>0
 |a::_=>a
def exec(d:List (Nat×Hn)):Code->Nat->{R:Type}->(Nat->St B.D->Option R)->St B.D->Option R
 | .skip,_,_,c,a=>c 0 a
 | .ret,_,_,c,a=>c 1 a
 | .exit g,_,_,c,a=>c (g+2) a
 | .label _,_,_,c,a=>c 0 a
 | .region g h m,p,_,c,a=>join B n a (.region g h m) (hint d p) c λc=>ops B P G (hint d p).fz h.toList (λs a=>bif m then(bif m7 0 h.toList then bif n4 h.toList [] 0 (nf s []) then c 0 a else c6 else c6) else c 0 a) 0 h.toList [] a
 | .seq e b,p,_,c,a=>join B n a (.seq e b) (hint d p) c λc=>exec d e (2*p) (λf a=>bif e4 f 0 then exec d b (2*p+1) c a else c f a) a
 | .cond j e b,p,_,c,a=>join B n a (.cond j e b) (hint d p) c λc=>match pe a.E j with
  | .bool j=>cond j (exec d e (2*p) c a) (exec d b (2*p+1) c a)
  |_=>c6
 | .block g e,p,_,c,a=>join B n a (.block g e) (hint d p) c λc=>exec d e (2*p) (λf a=>bif e4 f (g+2) then c 0 a else c f a) a
 | .loop e,p,_,c,a=>D8 B (λo i=>exec d e (2*p) o i) (λa=>match (hint d p).lp with
  |some q=>nW B n a (cQ e []) q a λr=>(L.loop (λl=>exec d e (2*p) (R:=bi B.D q.bX⊕qM B (hint d p).outs) (λf i=>bif e4 f 0 then nW B n a (cQ e []) q i (λl=>c4 (.inl l)) else inj B n a (cQ e []) (hint d p).outs f i λk=>c4 (.inr k)) (ik B a (cQ e []) q l)) r).bind λk=>out B a (cQ e []) (hint d p).outs k c
  |none=>c6) c (zP (hint d p).fz) a
 |_,_,_,_,_=>c6
def nh{f:Type}(b:St B.D):Nat->List ResultVar->En B.D->(En B.D->Option f)->Option f
 |_,[],c,a=>a c
 |i,.tmp e::d,c,a=>nh b (i+1) d ((i,lk b.E e)::c) a
 |i,.cell g e::d,c,a=>load B P b.H e (lk b.E g) λr=>nh b (i+1) d ((i,r.val)::c) a
def gl(a:aq B)(c:List ResultVar)(code:Code)(g:List (Nat×Hn))(d:bi B.D a.par.bX):Option (bi B.D a.az.bX):=
 exec L B P G a.low g code 1 (λf b=>bif hK f 1 then nh B P b 0 c [] λe=>take B a.low a.az ⟨e,b.H⟩ c4 else c6) (cz B a.par d)
end
end Go.X
namespace Go.Bml
open Go
def VR.dH{g:Gh}{H:List aO}{w:World}{c:PV}{x:Value}(h:VR g H w c x)(k:cE 0 c):VI g.F w c x:=by
 induction h with
 |aW h=>exact h
 |ptr r v i J o a y m K=>cases k with |ptr _ _ _ _ h=>omega
 |sl r v off len o x y m F j=>cases k with |sl _ _ _ _ h=>omega
 |fl r v o x y m F j=>cases k with |fl _ _ h=>omega
 |agg l n s m u=>cases k with |agg _ t=>exact .agg l n s λi c x e j=>u i c x e j (t c (dT e))
 |bu l n s m u=>cases k with |bu _ t=>exact .bu l n s λi c x e j=>u i c x e j (t c (dT e))
 |fn f l B n D s m A I u C=>
  cases k with |fn _ _ _ t G=>exact .fn f l B n D s (λi c x e j=>u i c x e j (t c (dT e))) A (λi c x e j=>C i c x e j (G c (dT e)))
def ako{f:Nat}{b:PV}(h:cE f b){j:Nat}{c:PV}(a:b.cells[j]?=c4 c):cE f c:=by
 by_cases i:∃e,b= .agg e
 .obtain⟨e,rfl⟩:=i;cases h with |agg _ l=>exact l c (dT a)
 .have k:b.cells=[b]:=by cases b <;> first |rfl |exact absurd ⟨_,rfl⟩ i
  rw[k] at a
  match j,a with
  |0,a=>simp at a;subst a;exact h
def nR{c:Nat}{es:List PV}(j:∀b,b∈es->cE c b){i h:Nat}{f:PV}(a:abk es i h=c4 f):cE c f:=by
 obtain⟨b,e,_⟩:=gw a;unfold abk at a;rw[e] at a;exact ako (j b (dT e)) a
def Ed{g:Gh}{H:List aO}{w:World}{r c len:Nat}{o:aO}{q:Value}{F:Nat->Prop}(s:qT g H w r o)(h:SL g o r c len q)(O:∀l,l∈o.es->cE 0 l)
 (z:∀b,g.F b->F b) (y:∀b m,g.β r=c4 (b,m)->F b):VI F w (.vs o.sz ((o.es.drop c).take len)) q:=by
 unfold SL at h;obtain⟨T,h⟩:=h;have t:((o.es.drop c).take len).length=len:=by simp;omega
 cases k:g.β r with
 |none=>
  rw[k] at h;obtain⟨rfl,rfl,n,rfl⟩:=h;simp only[o7];exact .eX o.sz n 0
 |some C=>
  obtain⟨b,m⟩:=C;rw[k] at h;obtain⟨cap,n,rfl,Q,N,_⟩:=h
  by_cases h0:len=0
  .subst h0;simp only[o7];exact .eX o.sz n cap
  .obtain rfl:=N h0;have v:=s.mem;rw[k] at v;obtain⟨_,cells,D,S,R,U,J⟩:=v;have K:∀i a e,abk ((o.es.drop c).take len) i a=c4 e->abk o.es (c+i) a=c4 e:=λi a e f=>by
    unfold abk at f⊢
    by_cases L:i<len
    .rw[e0 L,ea] at f;exact f
    .rw[hI (by rw[t];omega)] at f;simp at f
   have p:∀i a e,abk ((o.es.drop c).take len) i a=c4 e->cells[(c+i)*o.sz+a]?=c4 (cells.getD (c*o.sz+(i*o.sz+a)) undef)/\(cells.getD (c*o.sz+(i*o.sz+a)) undef).oneCell'=true/\VI F w e (cells.getD (c*o.sz+(i*o.sz+a)) undef):=λi a e f=>by
    have u:=K i a e f;obtain⟨G,x,M,A⟩:=J _ _ _ u;have I:(c+i)*o.sz+a=c*o.sz+(i*o.sz+a):=by rw[eo];omega
    have B:cells.getD (c*o.sz+(i*o.sz+a)) undef=G:=by rw[<-I];simp[j2,x]
    rw[B];exact⟨x,M,(A.dH (nR O u)).mono z λ_ _=>rfl⟩
   have:=VI.vs (F:=F) (w:=w) o.sz ((o.es.drop c).take len) b (c*o.sz) cap (λi a=>cells.getD (c*o.sz+(i*o.sz+a)) undef) (by omega) (y b m k)
    (λi l j=>by
     rw[h6] at j
     split at j
     .rw[ea] at j;exact s.width _ l j
     .cases j)
    (λi a e f=>by
     rw[cell_of_row w b _ cells o.ty (0,0) D];have:=(p i a e f).1;rw[<-this]
     congr 1
     rw[eo];omega)
    (λi a e f=>(p i a e f).2.1) (λi a e f=>(p i a e f).2.2)
   rw[t] at this;exact this
section
variable {g:Gh}{H:List aO}{w:World}
def Gh.plus(g:Gh)(k:Nat):Gh:=⟨λb=>g.F b\/b=k,g.β⟩
def bF.afW(h:bF g H w)(ty:Nat)(cells:Array Value):
 GStep H.length g H w (g.plus w.heap.size) H (w.alloc (.cells cells ty))/\bF (g.plus w.heap.size) H (w.alloc (.cells cells ty)):=by
 have l:GStep H.length g H w (g.plus w.heap.size) H (w.alloc (.cells cells ty)):=
  ⟨rfl,rfl,rfl,by simp,λ_ a=>.inl a,λb a=>gv w _ b (h.fb b a),λb a _=>gv w _ b a,λb a=>a.elim .inl (λe=>.inr (.inl (by omega))),λr b C a=>.inr ⟨r,C,a⟩,λr o M m=>⟨o,m,ef _,λ_=>⟨rfl,rfl,rfl⟩⟩⟩
 refine⟨l,⟨λb a=>?_,h.inj,h.m8,λr o m=>?_⟩⟩
 .rcases a with a |a
  .exact l4 (h.fb b a) l.size
  .subst a;simp
 .obtain⟨a1,K,j⟩:=h.obj r o m;refine⟨a1,K,?_⟩
  show match g.β r with
   |none=>o.es=[]
   |some (b,C)=>¬(g.F b\/b=w.heap.size)/\_
  cases a:g.β r with
  |none=>rw[a] at j;exact j
  |some p=>
   obtain⟨b,L⟩:=p;rw[a] at j;obtain⟨G,s,k,F,A,J,x⟩:=j;refine⟨λn=>n.elim G (λe=>by have:=nN k;omega),s,(gv w _ b (nN k)).trans k,F,A,J,λi y c I=>?_⟩
   obtain⟨u,D,t,B⟩:=x i y c I;exact⟨u,D,t,B.nZ l⟩
end
section
variable {P:Program}{nt:Nat}{E:Env}{H:List aO}{o:Oper}
def J5{elem b m:Nat}{f:List PV}(X:nY P E H o elem b f (λq N=>.sl q N 0 m))(Z:f.length=m)(ac:∀p,p∈f->cE 0 p):
 fJ P o E H λL H1=>L= .vs b f/\H1=H:=by
 subst Z;intro g nt U w k ag ae x;obtain⟨cells,R,r,c,M,G,ah,O,ad,ai,af,D,A⟩:=X g nt U w k;unfold n0;rw[M];have I:bF g H c/\GStep H.length g H w g H c/\c.heap.size=w.heap.size:=by
  rcases G with rfl |rfl
  .exact⟨k.m,GStep.refl _ _ _ _,rfl⟩
  .obtain⟨T,Y⟩:=Ez (m:=H.length) k.m;exact⟨Y,T,rfl⟩
 obtain⟨v,l,u⟩:=I;obtain⟨s,J⟩:=v.afW elem cells;have C:=A ⟨λ_=>False,λq=>if q=0 then c4 (w.heap.size,R) else c6⟩ [⟨elem,b,f,0⟩] (c.alloc (.cells cells elem)) 0 0 rfl rfl;have n:=lh (o:=⟨elem,b,f,0⟩) C rfl rfl;unfold SL at n;obtain⟨_,cap,ab,Q,y,V,_⟩:=n;have aa:(c.alloc (.cells cells elem)).heap[w.heap.size]?=c4 (.cells cells elem (0,0)):=by rw[<-u];exact heap_alloc_new c _
 have W:VI (g.plus c.heap.size).F (c.alloc (.cells cells elem)) (.vs b f) r:=by
  rw[Q]
  by_cases h0:f.length=0
  .rw[e5 h0];exact .eX b ab cap
  .obtain rfl:=V h0;have j:∀i a e,abk f i a=c4 e->cells[i*b+a]?=c4 (cells.getD (i*b+a) undef)/\(cells.getD (i*b+a) undef).oneCell'=true/\VI (g.plus c.heap.size).F (c.alloc (.cells cells elem)) e (cells.getD (i*b+a) undef):=λi a e h=>by
    obtain⟨K,t,S,z⟩:=D i a e h;have B:cells.getD (i*b+a) undef=K:=by simp[j2,t]
    rw[B];exact⟨t,S,((z.nZ l).nZ s).dH (nR ac h)⟩
   have:=VI.vs (F:=(g.plus c.heap.size).F) (w:=c.alloc (.cells cells elem)) b f w.heap.size 0 cap (λi a=>cells.getD (i*b+a) undef) y (.inr u.symm) O
    (λi a e h=>by
     rw[cell_of_row _ _ _ cells elem (0,0) aa,gx];exact(j i a e h).1)
    (λi a e h=>(j i a e h).2.1) (λi a e h=>(j i a e h).2.2)
   simpa using this
 exact x r _ (g.plus c.heap.size) _ H ⟨rfl,rfl⟩ (.aW W) J (l.trans s)
def ab0{d:Option Nat}{ty:TypeId}{pos:String}{aft:Array Edge}{l:TypeId}{f k:Operand}{j b t:Nat}{p:PV}{e:List PV}{n:Value}(c:PE E f= .bg\/PE E f= .z0)(m:PE E k=p)(x:lE H p b e)(u:0<b)
 (q:dU P l=c4 j) (v:cH P j=c4 b) (C:kB P j=c4 t) (A:dV P j=c4 n) (z:n.cells.size=b) (F:e.length*t<=140737488355328) (G:e.length<=9223372036854775807) (K:∀r,r∈e->cE 0 r):
 fJ P ⟨d,.call {callee:=.builtin .append,args:=#[f,k],argTypes:=#[l,l]},ty,pos,aft,c6⟩ E H λI H1=>I= .vs b e/\H1=H:=by
 by_cases s:e=[]
 .subst s;have J:∀g nt (h:Act) w,Rel g nt E H h w->∃i,h.eval f= .slice i 0 0:=λg nt h w a=>by
   rcases c with c |c
   .exact⟨c6,(c▸a.e.eval f).pF⟩
   .exact(c▸a.e.eval f).rh
  intro g nt h w a N M y;obtain⟨i,B⟩:=J g nt h w a;obtain⟨_,O,L,D,_⟩:=x.real a.m (m▸a.e.eval k) u;unfold n0;rw[Ei,B,D,l0,xr (gD q) v (ef _)];exact y (.slice i 0 0) w g _ H ⟨rfl,rfl⟩ (.aW (.eX b i 0)) a.m (GStep.refl _ _ _ _)
 .exact J5 (PO c m x u q v C A z F G s) rfl K
end
section
variable {P:Program}{E:Env}{H:List aO}{d:Option Nat}{ty:TypeId}{pos:String}{aft:Array Edge}{gd:Option (Nat×Bool)}
def apw{f:FuncId}{bs cs:List Operand}:cM P ⟨d,.makeFunc (.func f) bs.toArray cs.toArray,ty,pos,aft,gd⟩ E H (.fn f (bs.map (PE E)) (cs.map (PE E))):=by
 intro g nt h w m;refine⟨.func (.func f) (bs.map h.eval).toArray (cs.map h.eval).toArray,by simp[execOp,Instr.makeFunc],?_⟩
 have k:∀(c:List Operand) (i:Nat) (j:PV) (e:Value),(c.map (PE E))[i]?=c4 j->(c.map h.eval)[i]?=c4 e->VR g H w j e:=λc i j e a b=>by
  rw[e6] at a b;cases l:c[i]? with
  |none=>rw[l] at a;cases a
  |some o=>
   rw[l] at a b;injection a with a;injection b with b
   subst a;subst b;exact m.e.eval o
 exact .fn f _ _ _ _ (by simp) (k bs) (by simp) (k cs)
end
inductive Cc:PV->PV->Prop
 |refl (c:PV):Cc c c
 |nil (sz:Nat):Cc .bg (.vs sz [])
 |z0 (sz:Nat):Cc .z0 (.vs sz [])
 |agg (cs ds:List PV) (hl:cs.length=ds.length) (h:∀(i:Nat) (c d:PV),cs[i]?=c4 c->ds[i]?=c4 d->Cc c d):Cc (.agg cs) (.agg ds)
def Cc.vi{F:Nat->Prop}{w:World}{c d:PV}(h:Cc c d):∀{x:Value},VI F w c x->VI F w d x:=by
 induction h with
 |refl c=>exact id
 |nil sz=>intro x h;cases h;exact .eX sz c6 0
 |z0 sz=>intro x h;cases h;exact .eX sz _ 0
 |agg e l s u n=>
  intro x h;cases h with
  |agg _ k t j=>
   refine .agg l k (by omega) λi c x a m=>?_
   have hi:i<e.length:=by
    have:=(c7.1 a).1;omega
   exact n i _ c (c5 hi) a (j i _ x (c5 hi) m)
def Cc.vr{g:Gh}{H:List aO}{w:World}{c d:PV}(h:Cc c d):∀{x:Value},VR g H w c x->VR g H w d x:=by
 induction h with
 |refl c=>exact id
 |nil sz=>intro x h;rw[h.pF];exact .aW (.eX sz c6 0)
 |z0 sz=>
  intro x h;obtain⟨a,rfl⟩:=h.rh;exact .aW (.eX sz _ 0)
 |agg j m t u s=>
  intro x h;obtain⟨l,rfl,y,k⟩:=h.ky;refine .agg m l (by omega) λi c x e n=>?_
  have hi:i<j.length:=by
   have:=(c7.1 e).1;omega
  exact s i _ c (c5 hi) e (k i _ x (c5 hi) n)
def Cc.cells{c d:PV}(h:Cc c d):c.cells.length=d.cells.length/\∀(i:Nat) (a b:PV),c.cells[i]?=c4 a->d.cells[i]?=c4 b->Cc a b:=by
 cases h with
 |refl=>exact⟨rfl,λi a b j e=>by rw[j] at e;injection e with e;subst e;exact .refl _⟩
 |nil sz=>exact⟨rfl,λi a b j e=>by
  match i,j,e with
  |0,j,e=>simp[PV.cells] at j e;subst j;subst e;exact .nil sz⟩
 |z0 sz=>exact⟨rfl,λi a b j e=>by
  match i,j,e with
  |0,j,e=>simp[PV.cells] at j e;subst j;subst e;exact .z0 sz⟩
 |agg m n k l=>exact⟨k,l⟩
structure jB (o o':aO):Prop where
 ty:o'.ty=o.ty
 sz:o'.sz=o.sz
 aF:o'.aF=o.aF
 len:o'.es.length=o.es.length
 wid:∀(i:Nat) (e:PV),o'.es[i]?=c4 e->e.cells.length=o'.sz
 cells:∀(i j:Nat) (c':PV),abk o'.es i j=c4 c'->∃c,abk o.es i j=c4 c/\Cc c c'
def jB.of{ty sz aF:Nat}{es j:List PV}(s:es.length=j.length)(h:∀(i:Nat) (c d:PV),es[i]?=c4 c->j[i]?=c4 d->Cc c d)(m:∀(i:Nat) (e:PV),j[i]?=c4 e->e.cells.length=sz):jB ⟨ty,sz,es,aF⟩ ⟨ty,sz,j,aF⟩:=by
 refine⟨rfl,rfl,rfl,s.symm,m,λi k t a=>?_⟩
 unfold abk at a⊢;cases he:j[i]? with
 |none=>rw[he] at a;cases a
 |some e=>
  rw[he] at a;have hi:i<es.length:=by
   have:=(c7.1 he).1;omega
  obtain⟨u,n⟩:=(h i _ e (c5 hi) he).cells;simp only[hU] at a;have l:k<es[i].cells.length:=by
   have:=(c7.1 a).1;omega
  exact⟨es[i].cells[k],by rw[c5 hi];exact c5 l,n k _ t (c5 l) a⟩
section
variable {g:Gh}{H:List aO}{w:World}{r:Nat}{o o':aO}
def SL.cv(h:jB o o'){q off len:Nat}{x:Value}(a:SL g o q off len x):SL g o' q off len x:=by
 unfold SL at*;rw[h.len,h.sz];exact a
def VR.qN(I:H[r]?=c4 o)(h:jB o o'){c:PV}{x:Value}(j:VR g H w c x):VR g (H.set r o') w c x:=by
 have P:r<H.length:=(c7.1 I).1;have F:∀q p,H[q]?=c4 p->∃d,(H.set r o')[q]?=c4 d/\d.aF=p.aF/\d.sz=p.sz/\d.es.length=p.es.length/\∀{s off len x},SL g p s off len x->SL g d s off len x:=λq p m=>by
  by_cases e:r=q
  .subst e;rw[I] at m;injection m with m
   subst m;exact⟨o',ee P,h.aF,h.sz,h.len,λN=>N.cv h⟩
  .exact⟨p,by rw[ey e];exact m,rfl,rfl,rfl,id⟩
 induction j with
 |aW h=>exact .aW h
 |ptr q v i M p a y j Q=>
  obtain⟨d,u,G,C,A,B⟩:=F q p y;exact .ptr q v i M d a u (by omega) λe=>by rw[C,A];exact Q (by omega)
 |sl q v off len p x y j E D=>
  obtain⟨d,u,G,C,A,B⟩:=F q p y;exact .sl q v off len d x u (by omega) E λe=>B (D (by omega))
 |fl q v p x y j E D=>
  obtain⟨d,u,G,C,A,B⟩:=F q p y;exact .fl q v d x u (by omega) E λe=>by rw[A];exact B (D (by omega))
 |agg k l n j t=>exact .agg k l n t
 |bu k l n j t=>exact .bu k l n t
 |fn f k K l O n j J R t L=>exact .fn f k K l O n t J L
def bF.qN(k:bF g H w)(m:H[r]?=c4 o)(h:jB o o'):bF g (H.set r o') w:=by
 have M:r<H.length:=(c7.1 m).1;refine⟨k.fb,k.inj,λq b C d=>by rw[o3];exact k.m8 q b C d,λq p j=>?_⟩
 by_cases e:r=q
 .subst e;rw[ee M] at j;injection j with j
  subst j;obtain⟨a1,I,a⟩:=k.obj r o m;refine⟨by rw[h.sz];exact a1,h.wid,?_⟩
  cases d:g.β r with
  |none=>
   rw[d] at a;have:o'.es.length=0:=by rw[h.len,a];rfl
   exact e5 this
  |some t=>
   obtain⟨b,C⟩:=t;rw[d] at a;obtain⟨F,cells,u,E,A,G,y⟩:=a;refine⟨F,cells,by rw[h.ty];exact u,by rw[h.sz];exact E,A,by rw[h.len];exact G,λi l c s=>?_⟩
   obtain⟨K,J,L⟩:=h.cells i l c s;obtain⟨x,D,n,B⟩:=y i l K J;exact⟨x,by rw[h.sz];exact D,n,(L.vr B).qN m h⟩
 .rw[ey e] at j;obtain⟨a1,I,a⟩:=k.obj q p j;refine⟨a1,I,?_⟩
  cases d:g.β q with
  |none=>rw[d] at a;exact a
  |some t=>
   obtain⟨b,C⟩:=t;rw[d] at a;obtain⟨F,cells,u,E,A,G,y⟩:=a;exact⟨F,cells,u,E,A,G,λi l c s=>let ⟨x,D,n,B⟩:=y i l c s;⟨x,D,n,B.qN m h⟩⟩
def GStep.qN{n:Nat}{m:Gh}{H0:List aO}{l:World}(a:GStep n m H0 l g H w)(k:H[r]?=c4 o)(h:jB o o'):GStep n m H0 l g (H.set r o') w:=by
 have u:r<H.length:=(c7.1 k).1;refine⟨a.os,a.tape,a.output,a.size,a.F,a.jh,a.rest,a.oY,a.oZ,λq p s x=>?_⟩
 obtain⟨t,c,d,j⟩:=a.dF q p s x
 by_cases e:r=q
 .subst e;rw[k] at c;injection c with c
  subst c;exact⟨o',ee u,by rw[h.aF];exact d,λe=>by rw[h.sz,h.len];exact j (by rw[<-h.aF];exact e)⟩
 .exact⟨t,by rw[ey e];exact c,d,j⟩
end
def tu{h:Program}{f:Oper}{j:Env}{H:List aO}{i b:PV}{r:Nat}{o o':aO}(z:fJ h f j H λv e=>v=i/\e=H.set r o)(B:r<H.length)(a:jB o o')(m:Cc i b):fJ h f j H λv e=>v=b/\e=H.set r o':=by
 intro g q y w n s p k;refine z g q y w n s p ?_
 rintro x A t v D ⟨rfl,rfl⟩ l C u;have d:(H.set r o)[r]?=c4 o:=ee B;have c:(H.set r o).set r o'=H.set r o':=by rw[List.set_set]
 refine k x A t b (H.set r o') ⟨rfl,rfl⟩ (m.vr ?_) ?_ ?_
 .have:=l.qN d a;rwa [c] at this
 .have:=C.qN d a;rwa [c] at this
 .have:=u.qN d a;rwa [c] at this
def ZN{n:Nat->Prop}{w:World}{d:Nat}{k j:List PV}{m:Value}(c:VI n w (.vs d k) m)(e:jB ⟨0,d,k,0⟩ ⟨0,d,j,0⟩):VI n w (.vs d j) m:=by
 have l:j.length=k.length:=e.len;cases c with
 |eX _ x cap=>
  have:j=[]:=e5 (by rw[l];rfl);subst this;exact .eX d x cap
 |vs _ _ b t cap s z p A y v q=>
  rw[<-l];refine .vs d j b t cap s (by omega) p e.wid (λi a h c=>?_) (λi a h c=>?_) (λi a h c=>?_)
  .obtain⟨f,h0,_⟩:=e.cells i a h c;exact y i a f h0
  .obtain⟨f,h0,_⟩:=e.cells i a h c;exact v i a f h0
  .obtain⟨f,h0,u⟩:=e.cells i a h c;exact u.vi (q i a f h0)
def Pf{e:Program}{d:Oper}{i:Env}{H:List aO}{a:Nat}{f h:List PV}(x:fJ e d i H λv c=>v= .vs a f/\c=H)(k:jB ⟨0,a,f,0⟩ ⟨0,a,h,0⟩):fJ e d i H λv c=>v= .vs a h/\c=H:=by
 intro g n u w l p m j;refine x g n u w l p m ?_
 rintro t y q v A ⟨rfl,rfl⟩ b z s;refine j t y q _ _ ⟨rfl,rfl⟩ ?_ z s
 cases b with
 |aW b=>exact .aW (ZN b k)
def qX{d:Program}{c:Oper}{f:Env}{H H1:List aO}{q v e:Nat}{o:aO}(x:fJ d c f H λa b=>a= .sl q v 0 e/\b=H1)(t:ek H1 q o)(s:e=o.es.length):fJ d c f H λa b=>a= .fl q v/\b=H1:=by
 intro g l u w j m k h;refine x g l u w j m k ?_
 rintro a y n B A ⟨rfl,rfl⟩ i z p;exact h a y n _ _ ⟨rfl,rfl⟩ (i.aa1 t s) z p
def P6{e d:Nat}(v:PV):jB ⟨e,v.cells.length,[v],d⟩ ⟨e,v.cells.length,[.agg v.cells],d⟩:=by
 refine⟨rfl,rfl,rfl,rfl,λi h a=>?_,λi f c b=>?_⟩
 .match i,a with
  |0,a=>simp at a;subst a;rfl
 .match i,b with
  |0,b=>exact⟨c,b,.refl c⟩
end Go.Bml
namespace Go.X
open Go Go.Aml Go.Bml
section
variable {α:Type}
def cJ:∀(a:List α) (i:Nat),nth a i=a[i]?
 |[],_=>by simp[nth]
 |_::_,0=>rfl
 |_::a,i+1=>by simpa[nth] using cJ a i
def bK:∀(b a:List α),aX b a=b++a
 |[],_=>rfl
 |c::b,a=>by simp[aX,bK b a]
def eu:∀(a:List α),len a=a.length
 |[]=>rfl
 |_::a=>by simp[len,eu a]
def iL:∀(a:List α) (i:Nat) (b:α),me a i b=a.set i b
 |[],_,_=>rfl
 |_::_,0,_=>rfl
 |c::a,i+1,b=>by simp[me,iL a i b]
def kK:∀(a:Nat) (b:List α),tk a b=b.take a
 |0,_=>by simp[tk]
 |_+1,[]=>rfl
 |a+1,c::b=>by simp[tk,kK a b]
def drop_eq:∀(a:Nat) (b:List α),drop a b=b.drop a
 |0,_=>rfl
 |_+1,[]=>rfl
 |a+1,c::b=>by simpa[drop] using drop_eq a b
def oO:∀(b:List Nat) (a:Nat),has b a=true↔a∈b
 |[],a=>by simp[has]
 |d::b,a=>by
  simp only[has,mb];cases c:e4 d a with
  |true=>simp[(h5 c).symm]
  |false=>
   have:a≠d:=λe=>by rw[e,k7] at c;cases c
   simp[this,oO b a]
def nA{b:List Nat}{a:Nat}(c:has b a=false):a∉b:=λd=>by rw[(oO b a).2 d] at c;cases c
def tw:∀(a:List Nat),rj a=true↔a.Nodup
 |[]=>by simp[rj]
 |b::a=>by
  simp only[rj,List.nodup_cons];cases c:has a b with
  |true=>simp[(oO a b).1 c]
  |false=>simp[nA c,tw a]
def beq_eq{a b:Nat}(c:e4 a b=true):a=b:=h5 c
def fq{e c:Type}{b:Option e}{d:e->Option c}{r:c}(f:tr b d=c4 r):∃a,b=c4 a/\d a=c4 r:=by
 cases b with
 |none=>cases f
 |some a=>exact⟨a,rfl,f⟩
def a8{a:Bool}{b:Option α}{r:α}(c:(bif a then b else c6)=c4 r):a=true/\b=c4 r:=by
 cases a with
 |true=>exact⟨rfl,c⟩
 |false=>cases c
def qy:∀(a:List (Nat×α)) (H:List α),(b8 H a).length=H.length
 |[],_=>rfl
 |p::a,H=>by rw[b8,qy a,iL,o3]
def qV{b:Nat->Type}:∀a,(dx a:List (Ob b)).length=a
 |0=>rfl
 |a+1=>by simp[dx,qV a]
def qh{a b:IntKind}(c:fV a b=true):a=b:=of_decide_eq_true c
end
section
variable (B:Tb)
mutual
def pv:TV B.D->PV
 | .any=>.any
 | .z0=>.z0
 | .fS=>.fS
 | .bg=>.bg
 | .dB=>.dB
 | .int e c=>.int e c
 | .bool b=>.bool b
 | .str l=>.str l
 | .row c g=>.vs (B.sz c) (g.map (B.ty c).enc)
 | .rv c j=>.vs (B.sz c) (aP j)
 | .ptr r v i d=>.ptr r v i d
 | .fl r v=>.fl r v
 | .sl r v k len=>.sl r v k len
 | .vp a d=>.dw (aP a) d
 | .agg a=>.agg (aP a)
 | .bu a=>.bu (aP a)
 | .fn f a h=>.fn f (aP a) (aP h)
 | .jC c6=>.dB
 | .jC (c4 f)=>.fn f [] []
def aP:List (TV B.D)->List PV
 |[]=>[]
 |b::a=>pv b::aP a
end
def db:∀a,aP B a=a.map (pv B)
 |[]=>rfl
 |b::a=>by simp[aP,db a]
def aU:En B.D->Env
 |[]=>[]
 |p::r=>(p.1,pv B p.2)::aU r
def aY(b:Ob B.D):aO:=
 match b.bd with
 | .aap a c=>⟨a,B.sz a,c.map (B.ty a).enc,b.aF⟩
 | .box f d=>⟨f,d.length,[.agg (aP B d)],b.aF⟩
 | .dead=>⟨0,1,[],b.aF⟩
 | .hole a c e=>⟨a,B.sz a,c.map (B.ty a).enc++aP B e,b.aF⟩
def av(H:List (Ob B.D)):List aO:=H.map (aY B)
def ep:∀(b:En B.D) (a:Nat),Bml.look (aU B b) a=pv B (lk b a)
 |[],a=>by simp[aU,Bml.look,lk,pv]
 |p::r,a=>by
  simp only[aU,Bml.look,lk];cases e4 p.1 a with
  |true=>rfl
  |false=>exact ep r a
def OD(v:Value):pv B (Cs v)=jq v:=by
 unfold Cs jq
 split <;> simp[pv]
def r8:∀a:List Value,aP B (rq a)=a.map jq
 |[]=>rfl
 |v::a=>by simp[rq,aP,OD,r8 a]
def DK(v:Value):pv B (cv v)=kP v:=by
 cases v <;> first
  |(simp only[cv,kP];exact OD B _)
  |simp[cv,kP,pv,r8]
def Bw(a:En B.D)(c:Operand):PE (aU B a) c=pv B (pe a c):=by
 cases c with
 |tmp d=>exact ep B a d
 |const v=>exact(DK B v).symm
 |global b=>simp[PE,pe,pv]
 |func f=>simp[PE,pe,pv,aP]
def sx(b:En B.D)(a:Option Nat)(v:TV B.D):aU B (gr b a v)=li (aU B b) a (pv B v):=by
 cases a <;> rfl
def nB(a:TV B.D):(pv B a).cells=(dN a).map (pv B):=by
 cases a <;> first
  |rfl
  |(rename_i b;cases b <;> rfl;done)
  |simp[pv,PV.cells,dN,db]
end
structure cU (P:Program) (B:Tb):Prop where
 row:∀(n m:Nat) (xs:List (B.D m)) (x:B.D n),B.up n (.row m xs)=c4 x->B.tv n x= .row m xs
 el:∀(n:Nat) (x:B.D n) (m:Nat) (xs:List (B.D m)),B.tv n x= .row m xs->m=B.el n
 tv:∀(n:Nat) (x:B.D n),pv B (B.tv n x)=(B.ty n).enc x
 lt:∀(n:Nat) (x:B.D n),cE 0 ((B.ty n).enc x)
 up:∀(n:Nat) (t:TV B.D) (x:B.D n),B.up n t=c4 x->cE 0 (pv B t)/\Cc (pv B t) ((B.ty n).enc x)
 wid:∀(n:Nat) (x:B.D n),((B.ty n).enc x).cells.length=B.sz n
 one:∀(n:Nat) (x:B.D n),((B.ty n).enc x).cells.all PV.one=true
 pos:∀(n:Nat),0<B.sz n
 xw:∀(n:Nat) (x:B.D n) (vs:List PV),(B.ty n).enc x≠ .bu vs
 ic:∀(n:Nat),B.D n->cH P n=c4 (B.sz n)
 flat:∀(n:Nat) (x:B.D n),B.flat n=true->∀(j:Nat) (c:PV),((B.ty n).enc x).cells[j]?=c4 c->∀(F F':Nat->Prop) (w w':World) (v:Value),VI F w c v->VI F' w' c v
def cU.aqv{o:Program}{B:Tb}(t:cU o B)(n:Nat)(x:B.D n)(C:B.flat n=true)(F j:Nat->Prop)(k d:World)(v:Value)(h:VI F k ((B.ty n).enc x) v):VI j d ((B.ty n).enc x) v:=by
 have key:=t.flat n x C;generalize (B.ty n).enc x=e at key h
 by_cases m:∃a,e= .agg a
 .obtain⟨a,rfl⟩:=m;cases h with
  |agg _ w s u=>exact .agg a w s λi c x l y=>key i c l F j k d x (u i c x l y)
 .have A:e.cells=[e]:=by cases e <;> first |rfl |exact absurd ⟨_,rfl⟩ m
  exact key 0 e (by rw[A];rfl) F j k d v h
section
variable {B:Tb}{H:List (Ob B.D)}
def fx{r v:Nat}{b:Bd B.D}(a:aK H r v=c4 b):∃d,nth H r=c4 ⟨d,v,b⟩:=by
 unfold aK at a
 split at a
 .rename_i f e;obtain⟨d,g,h⟩:=f;cases c:e4 g v with
  |true=>
   simp only[c,cond_true,m4] at a;subst a;exact⟨d,by rw[e,beq_eq c]⟩
  |false=>simp[c] at a
 .cases a
def df{r:Nat}{a:Ob B.D}(b:nth H r=c4 a):ek (av B H) r (aY B a):=by
 unfold ek av;rw[cJ] at b;rw[e6,b]
 rfl
def qL:(av B H).length=H.length:=by simp[av]
def Zc{r:Nat}{a:Ob B.D}:av B (me H r a)=(av B H).set r (aY B a):=by
 unfold av;rw[iL,r0]
end
def ajP{a:Program}{e:Oper}{d:Env}{H:List aO}{v:PV}(o:cM a e d H v):fJ a e d H λm l=>m=v/\l=H:=by
 intro g h n c b q p f;obtain⟨i,j,k⟩:=o g h n c b;unfold n0;rw[j];exact f i c g v H ⟨rfl,rfl⟩ k b.m (GStep.refl _ _ _ _)
def lI{c:Program}{a:Oper}{d:Env}{H:List aO}{e b:PV->List aO->Prop}(r:fJ c a d H e)(m:∀v H,e v H->b v H):fJ c a d H b:=
 λg j p o t k i f=>r g j p o t k i λn s l v h q=>f n s l v h (m _ _ q)
section
variable {P:Program}{B:Tb}{R:Type}{r:R}
structure Ag (op:Op) (l:List Nat) (E E':En B.D) (X H':List (Ob B.D)):Prop where
 e:∀x,x∈op.operands->pe E' x=pe E x
 h:∀i,i∈l->nth H' i=nth X i
 le:X.length<=H'.length
def gY(P:Program)(d:Op)(i:En B.D)(g:List (Ob B.D))(a:cr B.D):Prop:=
 ∀e h k f c b,Ag d (aX a.rd (eV a.wr)) i c (aX g (dx a.nw)) b->
  fJ P ⟨e,d,h,k,f,c6⟩ (aU B c) (av B b) λv j=>v=pv B a.val/\j=av B (b8 b a.wr)
def fW(P:Program)(e:Op)(k:En B.D)(h:List (Ob B.D))(l:List Nat)(v:TV B.D):Prop:=
 ∀f j m g b c,(∀a,a∈e.operands->PE (aU B b) a=pv B (pe k a))->(∀i d,i∈l->nth h i=c4 d->nth c i=c4 d)->cM P ⟨f,e,j,m,g,c6⟩ (aU B b) (av B c) (pv B v)
def Dy{b:List (Ob B.D)}{n i:Nat}{c:Ob B.D}(a:nth b i=c4 c):nth (aX b (dx n)) i=c4 c:=by
 rw[cJ] at a⊢;rw[bK,dv (c7.1 a).1];exact a
def fW.sound{c:Op}{E:En B.D}{H:List (Ob B.D)}{rd:List Nat}{v:TV B.D}(h:fW P c E H rd v):gY P c E H ⟨v,[],0,rd⟩:=by
 intro d ty pos e j m a;refine ajP (h d ty pos e j m (λx k=>?_) λi n hi l=>?_)
 .rw[Bw,a.e x k]
 .rw[a.h i (by simp[bK,hi])];exact Dy l
def anB{a:Operand}{b:En B.D}{d:List (Ob B.D)}:fW P (.move a) b d [] (pe b a):=
 λ_ _ _ _ _ _ c _=>aik (c a (by simp[dd]))
def aqt{a:Operand}{b:En B.D}{d:List (Ob B.D)}:fW P (.assign a) b d [] (pe b a):=
 λ_ _ _ _ _ _ c _=>ak6 (c a (by simp[dd]))
def Ra{g:Gh}{w:List aO}{t:World}{v:TypeId}{d:List (TV B.D)}{c:List Value}{b:Nat}{u:TV B.D}(p:d.length=c.length)(q:∀(i:Nat) (j:PV) (k:Value),(aP B d)[i]?=c4 j->c[i]?=c4 k->VR g w t j k)(a:piece P v d b=c4 u):
 ∃s,(∀l,(part v c.toArray b).run P l= .ok s l)/\VR g w t (pv B u) s:=by
 unfold piece at a
 split at a
 .rename_i n
  split at a
  .rename_i m y;obtain⟨z,f⟩:=a8 a;rw[kK,drop_eq] at f;injection f with f
   subst f;refine⟨.agg ((c.drop b).take m).toArray,λl=>?_,?_⟩
   .simp[part,o5 n,Go.Bml.run_sizeOf y,m0,k6]
   .have:pv B (.agg ((d.drop b).take m))= .agg (aP B ((d.drop b).take m)):=rfl;rw[this];refine .agg _ _ (by rw[db];simp[p]) λi j k e h=>?_
    rw[db,e6,h6] at e;rw[h6] at h
    split at e
    .rename_i x;rw[if_pos x] at h;rw[ea] at e h;exact q _ j k (by rw[db,e6];exact e) h
    .simp at e
  .cases a
 .rename_i n;rw[cJ] at a;have o:b<c.length:=by rw[<-p];exact(c7.1 a).1
  refine⟨c[b],λl=>by simp[part,o5 n,o],q b _ _ ?_ (c5 o)⟩
  rw[db,e6,a]
  rfl
 .cases a
def Q1{g:Gh}{j:List aO}{c:World}{C:TypeId->TV B.D->TV B.D->Option Bool}{t:Nat}{k l:List (TV B.D)}{m n:List Value}(u:k.length=m.length)(x:∀(i:Nat) (e:PV) (d:Value),(aP B k)[i]?=c4 e->m[i]?=c4 d->VR g j c e d)
 (s:l.length=n.length) (A:∀(i:Nat) (e:PV) (d:Value),(aP B l)[i]?=c4 e->n[i]?=c4 d->VR g j c e d)
 (y:∀(D:Nat) (z d:TV B.D) (b:Bool),C D z d=c4 b->∀(w v:Value),VR g j c (pv B z) w->VR g j c (pv B d) v->(j9 t D w v).run P c= .ok b c):
 ∀(h:List Field) (b:Bool),A6 P C k l h=c4 b->(q2 t m.toArray n.toArray h).run P c= .ok b c
 |[],b,a=>by
  injection a with a
  subst a;simp[q2]
 |f::h,b,a=>by
  unfold A6 at a;obtain⟨o,a⟩:=a8 a
  split at a
  .rename_i S O M E
   split at a
   .rename_i p q N I;injection a with a
    subst a;obtain⟨Q,G,H⟩:=Ra u x M;obtain⟨T,F,K⟩:=Ra s A E;have L:=y _ _ _ _ N _ _ H K;have J:=Q1 u x s A y h q I;have o:f.name≠ "_":=by simpa using o
    simp only[q2,if_pos o,gb,G,F,ez,L];cases p with
    |true=>simpa using J
    |false=>simp
   .cases a
  .cases a
def Hq{g:Gh}{s:List aO}{w:World}:∀(d c:Nat) (f h:TV B.D) (b:Bool),yq P d c f h=c4 b->∀(j v:Value),VR g s w (pv B f) j->VR g s w (pv B h) v->(j9 d c j v).run P w= .ok b w
 |0,_,_,_,_,a=>by cases a
 |d+1,c,f,h,b,a=>by
  intro j v k i;unfold yq at a
  split at a
  .rename_i e
   split at a
   .rename_i y A;injection a with a
    subst a;rw[VR.n5 k,VR.n5 i];exact run_equalIn_bool' w d c _ _ e
   .cases a
  .rename_i I e
   split at a
   .rename_i H y F A;obtain⟨x,l⟩:=a8 a;obtain rfl:=qh x;injection l with l
    subst l;rw[VR.fQ k,VR.fQ i];exact run_equalIn_int w d c _ _ _ _ e
   .cases a
  .rename_i n e;cases m:P.stoodInHeld c with
   |true=>rw[m] at a;cases a
   |false=>
    rw[m] at a;simp only[cond_false] at a
    split at a
    .rename_i C D;obtain⟨E,rfl,p,u⟩:=VR.ky k;obtain⟨G,rfl,o,z⟩:=VR.ky i;have q:P.fieldsOf c=n:=by unfold Program.fieldsOf;rw[e]
     rw[run_equalIn_struct w d c _ _ (by rw[q];exact e) m,q];rw[db,dk] at p o;exact Q1 p u o z (λc f h b t=>Hq d c f h b t) n.toList b a
    .cases a
  .cases a
def Et{w:World}{a:TypeId}{k j:Array TypeId}{l:Bool}(g:P.underlying a=c4 (.func k j l)):
 ((binOp .eql a .nilFunc .nilFunc).run P w= .ok (.bool true) w/\∀f b v,(binOp .eql a (.func f b v) .nilFunc).run P w= .ok (.bool false) w)/\
 ((binOp .neq a .nilFunc .nilFunc).run P w= .ok (.bool false) w/\∀f b v,(binOp .neq a (.func f b v) .nilFunc).run P w= .ok (.bool true) w):=by
 have h:∀c,(j9 (c+1) a .nilFunc .nilFunc).run P w= .ok true w:=λc=>by simp[j9,run_underlying g]
 have i:∀c f b v,(j9 (c+1) a (.func f b v) .nilFunc).run P w= .ok false w:=λc f b v=>by simp[j9,run_underlying g]
 have e:(mx a .nilFunc .nilFunc).run P w= .ok true w:=h 9999;have d:∀f b v,(mx a (.func f b v) .nilFunc).run P w= .ok false w:=i 9999;refine⟨⟨?_,λf b v=>?_⟩,?_,λf b v=>?_⟩
 .show(do pure (.bool (<-mx a .nilFunc .nilFunc)):Sem Value).run P w=_
  simp[e]
 .show(do pure (.bool (<-mx a (.func f b v) .nilFunc)):Sem Value).run P w=_
  simp[d]
 .show(do pure (.bool !(<-mx a .nilFunc .nilFunc)):Sem Value).run P w=_
  simp[e]
 .show(do pure (.bool !(<-mx a (.func f b v) .nilFunc)):Sem Value).run P w=_
  simp[d]
def afA{n:BinOp}{m yt:TypeId}{e j:Operand}{s:En B.D}{H:List (Ob B.D)}{ag:TV B.D->Option R}(k:bin B P n m (pe s e) (pe s j) ag=c4 r):
 ∃v,ag v=c4 r/\fW P (.binOp n m e j yt) s H [] v:=by
 unfold bin at k
 split at k
 .rename_i l al b am x D;have i:∀{c:En B.D},(∀z,z∈(la n m e j yt).operands->PE (aU B c) z=pv B (pe s z))->PE (aU B c) e= .int l al:=λa=>by rw[a e (by simp[dd]),x];rfl
  have h:∀{c:En B.D},(∀z,z∈(la n m e j yt).operands->PE (aU B c) z=pv B (pe s z))->PE (aU B c) j= .int b am:=λa=>by rw[a j (by simp[dd]),D];rfl
  cases n <;> simp only at k
  case shl=>
   obtain⟨q,C,d⟩:=ec.1 k;obtain⟨h0,E⟩:=alN C;exact⟨_,d,λ_ _ _ _ _ _ a _=>apg (i a) (h a) h0 E⟩
  case shr=>
   obtain⟨q,C,d⟩:=ec.1 k;obtain⟨h0,E⟩:=adR C;exact⟨_,d,λ_ _ _ _ _ _ a _=>abz (i a) (h a) h0 E⟩
  all_goals
   obtain⟨aj,d⟩:=a8 k;obtain rfl:=qh aj
  case add=>exact⟨_,d,λ_ _ _ _ _ _ a _=>Vz (i a) (h a) rfl⟩
  case sub=>exact⟨_,d,λ_ _ _ _ _ _ a _=>Zh (i a) (h a) rfl⟩
  case mul=>exact⟨_,d,λ_ _ _ _ _ _ a _=>acd (i a) (h a) rfl⟩
  case quo=>
   obtain⟨q,C,d⟩:=ec.1 d;obtain⟨h0,E⟩:=agK C;exact⟨_,d,λ_ _ _ _ _ _ a _=>ae6 (i a) (h a) h0 E⟩
  case rem=>
   obtain⟨q,C,d⟩:=ec.1 d;obtain⟨h0,E⟩:=Yg C;exact⟨_,d,λ_ _ _ _ _ _ a _=>ahN (i a) (h a) h0 E⟩
  case and=>exact⟨_,d,λ_ _ _ _ _ _ a _=>akz (i a) (h a) rfl⟩
  case or=>exact⟨_,d,λ_ _ _ _ _ _ a _=>YI (i a) (h a) rfl⟩
  case xor=>exact⟨_,d,λ_ _ _ _ _ _ a _=>abR (i a) (h a) rfl⟩
  case andNot=>exact⟨_,d,λ_ _ _ _ _ _ a _=>aeA (i a) (h a) rfl⟩
  case eql=>exact⟨_,d,λ_ _ _ _ _ _ a _=>aea (i a) (h a)⟩
  case neq=>exact⟨_,d,λ_ _ _ _ _ _ a _=>ajI (i a) (h a)⟩
  case lss=>exact⟨_,d,λ_ _ _ _ _ _ a _=>ahs (i a) (h a)⟩
  case leq=>exact⟨_,d,λ_ _ _ _ _ _ a _=>aj5 (i a) (h a)⟩
  case gtr=>exact⟨_,d,λ_ _ _ _ _ _ a _=>amQ (i a) (h a)⟩
  case geq=>exact⟨_,d,λ_ _ _ _ _ _ a _=>abe (i a) (h a)⟩
 .rename_i l b x D;have i:∀{c:En B.D},(∀z,z∈(la n m e j yt).operands->PE (aU B c) z=pv B (pe s z))->PE (aU B c) e= .bool l:=λa=>by rw[a e (by simp[dd]),x];rfl
  have h:∀{c:En B.D},(∀z,z∈(la n m e j yt).operands->PE (aU B c) z=pv B (pe s z))->PE (aU B c) j= .bool b:=λa=>by rw[a j (by simp[dd]),D];rfl
  cases n <;> simp only at k <;> first |cases k |skip
  case eql=>
   obtain⟨Z,d⟩:=a8 k;exact⟨_,d,λ_ _ _ _ _ _ a _=>abj (i a) (h a) Z⟩
  case neq=>
   obtain⟨Z,d⟩:=a8 k;exact⟨_,d,λ_ _ _ _ _ _ a _=>ai2 (i a) (h a) Z⟩
 .rename_i ah ai x D;have i:∀{c:En B.D},(∀z,z∈(la n m e j yt).operands->PE (aU B c) z=pv B (pe s z))->PE (aU B c) e=pv B (.agg ah):=λa=>by rw[a e (by simp[dd]),x]
  have h:∀{c:En B.D},(∀z,z∈(la n m e j yt).operands->PE (aU B c) z=pv B (pe s z))->PE (aU B c) j=pv B (.agg ai):=λa=>by rw[a j (by simp[dd]),D]
  cases n <;> simp only at k <;> first |cases k |skip
  case eql=>
   cases y:P.eqGuardType P.depth m with
   |true=>rw[y] at k;cases k
   |false=>
    rw[y] at k;obtain⟨b,N,d⟩:=fq k;refine⟨_,d,λW ab V ad c S a _=>?_⟩
    intro g G l w p;have o:=i a▸p.e.eval e;have u:=h a▸p.e.eval j;obtain⟨Q,K,_⟩:=VR.ky o;obtain⟨ac,J,_⟩:=VR.ky u;have L:=Hq (w:=w) 10000 m _ _ b N _ _ o u;refine⟨.bool b,?_,.aW (.bool b)⟩
    rw[K,J] at L;simp only[execOp,K,J];simp[run_eqGuard_agg w .eql m e j Q.toArray ac.toArray y,run_eql_struct,L]
  case neq=>
   cases y:P.eqGuardType P.depth m with
   |true=>rw[y] at k;cases k
   |false=>
    rw[y] at k;obtain⟨b,N,d⟩:=fq k;refine⟨_,d,λW ab V ad c S a _=>?_⟩
    intro g G l w p;have o:=i a▸p.e.eval e;have u:=h a▸p.e.eval j;obtain⟨Q,K,_⟩:=VR.ky o;obtain⟨ac,J,_⟩:=VR.ky u;have L:=Hq (w:=w) 10000 m _ _ b N _ _ o u;refine⟨.bool (!b),?_,.aW (.bool _)⟩
    rw[K,J] at L;simp only[execOp,K,J];simp[run_eqGuard_agg w .neq m e j Q.toArray ac.toArray y,run_neq_struct,L]
 .rename_i A x D;obtain⟨aa,o⟩:=a8 k;have F:∃l b ak,P.underlying m=c4 (.func l b ak):=by
   unfold LM at aa
   split at aa
   .exact⟨_,_,_,by assumption⟩
   .cases aa
  obtain⟨an,ap,ao,F⟩:=F;have i:∀{c:En B.D},(∀z,z∈(la n m e j yt).operands->PE (aU B c) z=pv B (pe s z))->PE (aU B c) e=pv B (.jC A):=λa=>by rw[a e (by simp[dd]),x]
  have h:∀{c:En B.D},(∀z,z∈(la n m e j yt).operands->PE (aU B c) z=pv B (pe s z))->PE (aU B c) j= .dB:=λa=>by rw[a j (by simp[dd]),D];rfl
  have run:∀{c:En B.D} {af:List aO} {g:Gh} {w:World} {l:Act} {G:Nat},Rel g G (aU B c) af l w->PE (aU B c) e=pv B (.jC A)->PE (aU B c) j= .dB->l.eval j= .nilFunc/\((A=c6/\l.eval e= .nilFunc)\/∃f,A=c4 f/\l.eval e= .func (.func f) #[] #[]):=λ{c af g w l G} p o u=>by
   have M:=u▸p.e.eval j;refine⟨by generalize l.eval j=X at M;cases M with |aW M=>cases M;rfl,?_⟩
   have I:=o▸p.e.eval e;cases A with
   |none=>exact .inl ⟨rfl,by generalize l.eval e=X at I;cases I with |aW I=>cases I;rfl⟩
   |some f=>
    refine .inr ⟨f,rfl,?_⟩
    generalize l.eval e=X at I;have T:VR g af w (.fn f [] []) X:=I;cases T with
    |aW T=>
     cases T with
     |fn _ _ _ U vs Y _ O _=>
      obtain rfl:U=[]:=e5 Y.symm;obtain rfl:vs=[]:=e5 O.symm
      rfl
    |fn _ _ _ U vs Y _ O _=>
     obtain rfl:U=[]:=e5 Y.symm;obtain rfl:vs=[]:=e5 O.symm
     rfl
  cases n <;> simp only at o <;> first |cases o |skip
  case eql=>
   refine⟨_,o,λW ab V ad c S a _=>?_⟩
   intro g G l w p;obtain⟨ae,t⟩:=run p (i a) (h a);refine⟨.bool A.isNone,?_,.aW (.bool _)⟩
   rcases t with⟨rfl,t⟩ |⟨f,rfl,t⟩ <;> simp[execOp,ae,t,eqGuard,(Et (w:=w) F).1,(Et (w:=w) F).2]
  case neq=>
   refine⟨_,o,λW ab V ad c S a _=>?_⟩
   intro g G l w p;obtain⟨ae,t⟩:=run p (i a) (h a);refine⟨.bool (!A.isNone),?_,.aW (.bool _)⟩
   rcases t with⟨rfl,t⟩ |⟨f,rfl,t⟩ <;> simp[execOp,ae,t,eqGuard,(Et (w:=w) F).1,(Et (w:=w) F).2]
 .cases k
def amY{h:UnOp}{t:TypeId}{c:Operand}{g:En B.D}{H:List (Ob B.D)}{f:TV B.D->Option R}(a:HY B h (pe g c) f=c4 r):
 ∃v,f v=c4 r/\fW P (.unOp h t c) g H [] v:=by
 unfold HY at a
 split at a
 .rename_i i j d;exact⟨_,a,λ_ _ _ _ _ _ e _=>ajc (by rw[e c (by simp[dd]),d];rfl) rfl⟩
 .rename_i b d;exact⟨_,a,λ_ _ _ _ _ _ e _=>rd_not (by rw[e c (by simp[dd]),d];rfl)⟩
 .cases a
def afz(a:Bool)(c b:TV B.D):pv B (cond a c b)=(bif a then pv B c else pv B b):=by cases a <;> rfl
def akp{z x y:Operand}{E:En B.D}{H:List (Ob B.D)}{a:Bool}(g:pe E z= .bool a):fW P (.pick z x y) E H [] (KP a (pe E x) (pe E y)):=by
 intro d ty pos aft e h c _;have:=Zu (P:=P) (E:=aU B e) (H:=av B h) (d:=d) (ty:=ty) (pos:=pos) (aft:=aft) (gd:=c6) (z:=z) (x:=x) (y:=y) (b:=a) (by rw[c z (by simp[dd]),g];rfl);rw[c x (by simp[dd]),c y (by simp[dd])] at this;unfold KP
 split
 .rename_i j b f i;rw[f,i] at this;cases a <;> exact this
 .rw[afz];exact this
def ahW{a:Operand}{i:Nat}{d:En B.D}{e:List (Ob B.D)}{b:List (TV B.D)}{v:TV B.D}(f:pe d a= .bu b)(c:nth b i=c4 v):fW P (.extract a i) d e [] v:=by
 intro h n l j k m g _;refine aiG (by rw[g a (by simp[dd]),f];rfl) ?_
 rw[cJ] at c;rw[db,e6,c]
 rfl
def wS{f:TypeId}{c:List (TV B.D)}{d:Nat}{v:TV B.D}(a:piece P f c d=c4 v):
 (dP P f=c4 false/\c[d]?=c4 v)\/∃b,dP P f=c4 true/\cH P f=c4 b/\v= .agg ((c.drop d).take b)/\((c.drop d).take b).length=b:=by
 unfold piece at a
 split at a
 .rename_i g
  split at a
  .rename_i b i;obtain⟨h,e⟩:=a8 a;rw[kK,drop_eq] at e;injection e with e
   have j:d+b<=c.length:=by rw[eu] at h;exact ei h
   exact .inr ⟨b,g,i,e.symm,by simp;omega⟩
  .cases a
 .rename_i g;rw[cJ] at a;exact .inl ⟨g,a⟩
 .cases a
def EL{a:List (TV B.D)}{b:Nat}{v:TV B.D}(c:a[b]?=c4 v):(aP B a)[b]?=c4 (pv B v):=by
 rw[db,e6,c];rfl
def Ht(b:List (TV B.D))(a c:Nat):((aP B b).drop a).take c=aP B ((b.drop a).take c):=by
 rw[db,db, <-j7, <-j8]
def aex{i:TypeId}{b:Operand}{f:Nat}{g c:Nat}{j:En B.D}{s:List (Ob B.D)}{a:List (TV B.D)}{v:TV B.D}(l:pe j b= .agg a)(h:nU P i f=c4 (g,c))(k:piece P g a c=c4 v):
 fW P (.field i b f) j s [] v:=by
 intro w y u z n t p _;have e:PE (aU B n) b= .agg (aP B a):=by rw[p b (by simp[dd]),l];rfl
 rcases wS k with⟨d,m⟩ |⟨q,d,o,rfl,x⟩
 .exact aam e h d (EL m)
 .exact T8 e h d o (Ht a c q)
def Gw{c:Operand}{h:En B.D}{k:List (Ob B.D)}{v:TV B.D}(m:(∃r g i b,v= .ptr r g i b)\/(∃a b,v= .vp a b)\/∃f a e,v= .fn f a e)(l:pe h c=v):fW P (.nilCheck c) h k [] v:=by
 intro o q t p j s n _;have d:PE (aU B j) c=pv B v:=by rw[n c (by simp[dd]),l]
 rcases m with⟨r,g,i,b,rfl⟩ |⟨a,b,rfl⟩ |⟨f,a,e,rfl⟩
 .exact adb d
 .exact ZL d
 .exact VJ d
def R3{n:TypeId}{c:Operand}{f k h q:Nat}{j:En B.D}{s:List (Ob B.D)}{v:TV B.D}(l:nU P n f=c4 (k,h))(m:cH P k=c4 (q+1))
 (p:(∃r g i a,pe j c= .ptr r g i a/\v= .ptr r g i (a+h))\/(∃d a,pe j c= .vp d a/\v= .vp d (a+h))):fW P (.fieldAddr n c f) j s [] v:=by
 intro w y u z x t o _;have b:=o c (by simp[dd]);rcases p with⟨r,g,i,a,e,rfl⟩ |⟨d,a,e,rfl⟩
 .rw[e] at b;exact apD b l m (by omega)
 .rw[e] at b;exact Ze b l m (by omega)
def alT{a:Nat}{b:List (B.D a)}{i c:Nat}{d:B.D a}{e:PV}(g:b[i]?=c4 d)(f:((B.ty a).enc d).cells[c]?=c4 e):abk (b.map (B.ty a).enc) i c=c4 e:=by
 unfold abk;rw[e6,g];exact f
def NI{i g:Nat}{h:TV B.D->Option R}:∀{f:List (TV B.D)} {d:Nat},Es B i g h d f=c4 r->∃b c,f[b]?=c4 c/\i=g+d+b/\h c=c4 r
 |[],_,a=>by cases a
 |c::f,d,a=>by
  unfold Es at a;cases e:e4 i (g+d) with
  |true=>rw[e] at a;exact⟨0,c,rfl,beq_eq e,a⟩
  |false=>
   rw[e] at a;obtain⟨b,l,k,m,j⟩:=NI a;exact⟨b+1,l,k,by omega,j⟩
def aav{b s v c:Nat}{xs:List (B.D b)}{a:List (TV B.D)}{d:TV B.D}(e:a[c]?=c4 d):(aY B ⟨s,v,.hole b xs a⟩).es[xs.length+c]?=c4 (pv B d):=by
 show(xs.map (B.ty b).enc++aP B a)[xs.length+c]?=_
 rw[dt (by rw[dk];omega),dk,k6,db,e6,e]
 rfl
def PD(T:cU P B){t:TypeId}{x:Operand}{E:En B.D}{N:List (Ob B.D)}{M:cr B.D->Option R}(c:load B P N t (pe E x) M=c4 r):
 ∃v O,M ⟨v,[],0,O⟩=c4 r/\fW P (.load t x) E N O v:=by
 unfold load at c
 split at c
 .rename_i w o F;obtain⟨v,j,m⟩:=fq c;refine⟨v,_,m,λI J H K l G h _=>?_⟩
  have d:PE (aU B l) x= .dw (aP B w) o:=by rw[h x (by simp[dd]),F];rfl
  rcases wS j with⟨a,b⟩ |⟨u,a,n,rfl,k⟩
  .exact acR d a (EL b)
  .exact Z6 d a n (Ht w o u) (by rw[db,dk,k])
 .rename_i q v i o F;have d:∀{l:En B.D},(∀z,z∈(Op.load t x).operands->PE (aU B l) z=pv B (pe E z))->PE (aU B l) x= .ptr q v i o:=λh=>by rw[h x (by simp[dd]),F];rfl
  split at c
  .rename_i u xs b;obtain⟨s,C⟩:=fx b;obtain⟨e,h,c⟩:=ec.1 c;obtain⟨y,j,m⟩:=fq c;refine⟨y,_,m,λI J H K l G g A=>?_⟩
   have f:=df (A q _ (by simp) C);have p:(pv B (B.tv u e)).cells=(dN (B.tv u e)).map (pv B):=nB B _;rw[T.tv] at p;rcases wS j with⟨a,b⟩ |⟨L,a,n,rfl,k⟩
   .exact AT (d g) f rfl a (alT h (by rw[p,e6,b];rfl))
   .refine Ig (d g) f rfl a n (e:=(B.ty u).enc e) (by simp[aY,h]) ?_ (by rw[db,dk,k])
    rw[p, <-j7, <-j8,db]
  .rename_i W w b;obtain⟨s,C⟩:=fx b;obtain⟨D,c⟩:=a8 c;obtain rfl:=beq_eq D;obtain⟨y,j,m⟩:=fq c;refine⟨y,_,m,λI J H K l G g A=>?_⟩
   have f:=df (A q _ (by simp) C);rcases wS j with⟨a,b⟩ |⟨L,a,n,rfl,k⟩
   .exact AT (d g) f rfl a (by simp[aY,abk,PV.cells,EL b])
   .exact Ig (d g) f rfl a n (e:=.agg (aP B w)) (by simp[aY]) (by simp only[PV.cells];exact Ht w o L) (by rw[db,dk,k])
  .rename_i u xs V b;obtain⟨s,C⟩:=fx b;obtain⟨U,e,h,D,S⟩:=NI c;rw[l1] at D;subst D;obtain⟨y,j,m⟩:=fq S;refine⟨y,_,m,λI J H K l G g A=>?_⟩
   have f:=df (A q _ (by simp) C);have Q:=aav (s:=s) (v:=v) (xs:=xs) h;have p:=nB B e;rcases wS j with⟨a,b⟩ |⟨L,a,n,rfl,k⟩
   .refine AT (d g) f rfl a ?_
    unfold abk;rw[Q];show(pv B e).cells[o]?=_
    rw[p,e6,b]
    rfl
   .refine Ig (d g) f rfl a n (e:=pv B e) Q ?_ (by rw[db,dk,k])
    rw[p, <-j7, <-j8,db]
  .cases c
 .cases c
end
def kV(b:List aO)(p:PV)(d:Nat)(c:List PV):Prop:=lE b p d c\/∃r a,p= .fl r a.aF/\ek b r a/\a.sz=d/\c=a.es
def wD{c:Env}{d:Nat}{q:PV}(a:Operand)(g:a≠ .tmp d):PE ((d,q)::c) a=PE c a:=by
 cases a with
 |tmp h=>exact Ar q c λe=>g (by rw[e])
 |const v=>rfl
 |global b=>rfl
 |func f=>rfl
def akA(v:Value)(r a:Nat):kP v≠ .fl r a:=by
 cases v <;> simp[kP] <;> (try unfold jq) <;> (try split) <;> simp
def ri{e:Env}{d:Operand}{r v:Nat}(c:PE e d= .fl r v):∃a,d= .tmp a/\Bml.look e a= .fl r v:=by
 cases d with
 |tmp a=>exact⟨a,rfl,c⟩
 |const v=>exact absurd c (akA _ _ _)
 |global b=>cases c
 |func f=>cases c
def DP{b:List aO}{r:Nat}{a:aO}(c:ek b r a):lE b (.sl r a.aF 0 a.es.length) a.sz a.es:=
 .inr (.inr (.inr ⟨r,a.aF,0,a.es.length,a,rfl,c,rfl,rfl,by simp⟩))
def uL{P:Program}{m:Oper}{a:Env}{d:List aO}{x:Operand}{sz:Nat}{ys:List PV}{l:PV->List aO->Prop}(g:kV d (PE a x) sz ys)
 (e:∀f,lE d (PE f x) sz ys->(∀c p,PE a c=p->(∀r v,p≠ .fl r v)->PE f c=p)->fJ P m f d l):fJ P m a d l:=by
 rcases g with g |⟨r,b,n,k,rfl,rfl⟩
 .exact e a g λ_ _ e _=>e
 .obtain⟨j,rfl,i⟩:=ri n;refine yP i k rfl (e _ ?_ λc p h q=>?_)
  .rw[show PE ((j,PV.sl r b.aF 0 b.es.length)::a) (.tmp j)= .sl r b.aF 0 b.es.length from ni _ _ _];exact DP k
  .rw[wD c λo=>q r b.aF (by rw[<-h,o];exact i)];exact h
def amo{P:Program}{m:Oper}{a:Env}{d:List aO}{x:Operand}{n:Nat}{h:List PV}{v:PV}(g:kV d (PE a x) n h)
 (e:∀f,lE d (PE f x) n h->(∀c p,PE a c=p->(∀r v,p≠ .fl r v)->PE f c=p)->cM P m f d v):cM P m a d v:=by
 rcases g with g |⟨r,b,o,l,rfl,rfl⟩
 .exact e a g λ_ _ e _=>e
 .obtain⟨k,rfl,j⟩:=ri o;refine RO j l rfl (e _ ?_ λc p i s=>?_)
  .rw[show PE ((k,PV.sl r b.aF 0 b.es.length)::a) (.tmp k)= .sl r b.aF 0 b.es.length from ni _ _ _];exact DP l
  .rw[wD c λq=>s r b.aF (by rw[<-i,q];exact j)];exact i
def JM{d:Env}{f:List aO}{x:Operand}{k c r:Nat}{i:List PV}{a:aO}(h:kV f (PE d x) k i)(l:Bml.look d c= .fl r a.aF)(g:ek f r a):kV f (PE ((c,.sl r a.aF 0 a.es.length)::d) x) k i:=by
 by_cases j:x= .tmp c
 .subst j;rw[show PE ((c,PV.sl r a.aF 0 a.es.length)::d) (.tmp c)= .sl r a.aF 0 a.es.length from ni _ _ _];have m:PE d (.tmp c)= .fl r a.aF:=l;rw[m] at h;rcases h with(b |⟨b,_⟩ |⟨b,_⟩ |⟨_,_,_,_,_,b,_⟩) |⟨o,n,b,e,rfl,rfl⟩
  .cases b
  .cases b
  .cases b
  .cases b
  .injection b with h1 h2
   subst h1;unfold ek at g e;rw[g] at e;injection e with e
   subst e;exact .inl (DP g)
 .rw[wD x j];exact h
section
variable {P:Program}{B:Tb}{R:Type}{r:R}
def yd(B:Tb)(e:List (Ob B.D))(f:TV B.D)(a:Nat)(d:List (B.D a))(g:List Nat):Prop:=
 ∀b:List (Ob B.D),(∀i c,i∈g->nth e i=c4 c->nth b i=c4 c)->kV (av B b) (pv B f) (B.sz a) (d.map (B.ty a).enc)
def Hd{h:List (Ob B.D)}{i:TV B.D}{g:(b:Nat)->List (B.D b)->List Nat->Option R}(a:rowOf B h i g=c4 r):
 ∃b f j,g b f j=c4 r/\yd B h i b f j:=by
 unfold rowOf at a
 split at a
 .exact⟨_,_,_,a,λ_ _=>.inl (.inl rfl)⟩
 .rename_i q v
  split at a
  .rename_i b k d;obtain⟨n,e⟩:=fx d;refine⟨_,_,_,a,λl c=>.inr ⟨q,_,?_,df (c q _ (by simp) e),rfl,rfl⟩⟩
   rfl
  .cases a
 .rename_i q v m len
  split at a
  .rename_i b k d;obtain⟨n,e⟩:=fx d;refine⟨_,_,_,a,λl c=>.inl (.inr (.inr (.inr ⟨q,v,m,len,_,rfl,df (c q _ (by simp) e),rfl,rfl,?_⟩)))⟩
   simp[aY,j8,j7]
  .cases a
 .cases a
def AG{d b:Nat}{f:List (B.D d)}{e:List (B.D b)}(a:sU B d b f=c4 e):∃c:d=b,c▸f=e:=by
 unfold sU at a
 split at a
 .rename_i c;injection a with a
  exact⟨c,a⟩
 .cases a
def Rz{f:List (Ob B.D)}{c:Nat}{g:TV B.D}{e:List (B.D c)->List Nat->Option R}(a:CK B f c g e=c4 r):
 ∃b d,e b d=c4 r/\yd B f g c b d:=by
 unfold CK at a
 split at a
 .exact⟨_,_,a,λ_ _=>.inl (.inr (.inl ⟨rfl,rfl⟩))⟩
 .exact⟨_,_,a,λ_ _=>.inl (.inr (.inr (.inl ⟨rfl,rfl⟩)))⟩
 .obtain⟨l,k,d,a,j⟩:=Hd a;obtain⟨b,i,h⟩:=fq a;obtain⟨rfl,rfl⟩:=AG i;exact⟨_,_,h,j⟩
def mh{e:TypeId}{c:Nat}(b:kX B P e c=true):dU P e=c4 c/\cH P c=c4 (B.sz c):=by
 unfold kX at b
 split at b
 .rename_i f i g h;cases d:e4 f c with
  |true=>
   rw[d] at b;rw[g,h,beq_eq d,beq_eq (a:=i) b];exact⟨rfl,rfl⟩
  |false=>rw[d] at b;cases b
 .cases b
def D9{a:TypeId}{b:Nat}(c:kX B P a b=true):dU P a=c4 b:=(mh c).1
def KT{i:Oper}{e:Env}{d:List aO}{h:Operand}{q:Nat}{a:aO}{v:PV}(j:PE e h= .fl q a.aF)(k:ek d q a)
 (n:∀c,PE c h= .sl q a.aF 0 a.es.length->(∀b p,PE e b=p->(∀r v,p≠ .fl r v)->PE c b=p)->cM P i c d v):cM P i e d v:=by
 obtain⟨o,rfl,g⟩:=ri j;refine RO g k rfl (n _ (ni _ _ _) λb p f m=>?_)
 rw[wD b λl=>m q a.aF (by rw[<-f,l];exact g)];exact f
def Qj{g:Int}{d:Nat}{i:Nat->Option R}:∀{f:List (TV B.D)} {c:Nat},AK B g d i c f=c4 r->∃b,b<f.length/\g=((d+c+b:Nat):Int)/\i (d+c+b)=c4 r
 |[],_,a=>by cases a
 |l::f,c,a=>by
  unfold AK at a;cases e:c3 (g=((d+c:Nat):Int)) with
  |true=>rw[e] at a;exact⟨0,by simp,of_decide_eq_true e,a⟩
  |false=>
   rw[e] at a;obtain⟨b,k,j,h⟩:=Qj a;rw[show d+(c+1)+b=d+c+(b+1) by omega] at j h;exact⟨b+1,by simpa using k,j,h⟩
def amg(y:cU P B){t:TypeId}{x ix:Operand}{E:En B.D}{H:List (Ob B.D)}{F:cr B.D->Option R}(a:indexAddr B P H t (pe E x) (pe E ix) F=c4 r):
 ∃v J,F ⟨v,[],0,J⟩=c4 r/\fW P (.indexAddr t x ix) E H J v:=by
 unfold indexAddr at a
 split at a
 .rename_i K Q O;have p:∀{j:En B.D},(∀z,z∈(Op.indexAddr t x ix).operands->PE (aU B j) z=pv B (pe E z))->PE (aU B j) ix= .int K Q:=λc=>by rw[c ix (by simp[dd]),O];rfl
  split at a
  .rename_i g w h;obtain⟨k,a⟩:=a8 a;obtain⟨e,c,f⟩:=ec.1 a;obtain⟨l,c⟩:=xd c;refine⟨_,_,f,λd ty pos aft j n b _=>?_⟩
   have:=Zx (P:=P) (E:=aU B j) (H:=av B n) (d:=d) (ty:=ty) (pos:=pos) (aft:=aft) (gd:=c6) (t:=t) (x:=x) (ix:=ix) (e:=(B.ty g).enc e) (by rw[b x (by simp[dd]),h];rfl) (p b) l (by rw[e6,c];rfl) (D9 k) (y.ic g e);rw[<-y.tv g e,nB, <-db] at this;exact this
  .rename_i q v h
   split at a
   .rename_i g w o;obtain⟨I,u⟩:=fx o;obtain⟨k,a⟩:=a8 a;obtain⟨e,c,f⟩:=ec.1 a;obtain⟨l,c⟩:=xd c;refine⟨_,_,f,λd ty pos aft j n b s=>?_⟩
    have m:=df (s q _ (by simp) u);refine KT (by rw[b x (by simp[dd]),h];rfl) m λD A C=>?_
    have:=Hm (P:=P) (E:=D) (H:=av B n) (d:=d) (ty:=ty) (pos:=pos) (aft:=aft) (gd:=c6) (t:=t) (x:=x) (ix:=ix) A (C ix _ (p b) (by simp)) l (by simpa[aY] using(c7.1 c).1) m rfl (D9 k) (y.ic g e);rw[gx] at this;exact this
   .rename_i g w X o;obtain⟨I,u⟩:=fx o;obtain⟨k,a⟩:=a8 a;obtain⟨G,T,l,f⟩:=Qj a;rw[l1] at l f;refine⟨_,_,f,λd ty pos aft j n b s=>?_⟩
    have m:=df (s q _ (by simp) u);refine KT (by rw[b x (by simp[dd]),h];rfl) m λD A C=>?_
    have:=Hm (P:=P) (E:=D) (H:=av B n) (d:=d) (ty:=ty) (pos:=pos) (aft:=aft) (gd:=c6) (t:=t) (x:=x) (ix:=ix) A (C ix _ (p b) (by simp)) (i:=w.length+G) (by simpa using l) (by simp[aY,db];omega) m rfl (D9 k) (mh k).2;rw[gx] at this;exact this
   .cases a
  .rename_i q v W len h
   split at a
   .rename_i g w o;obtain⟨I,u⟩:=fx o;obtain⟨k,a⟩:=a8 a;obtain⟨e,c,f⟩:=ec.1 a;obtain⟨l,c⟩:=xd c;refine⟨_,_,f,λd ty pos aft j n b s=>?_⟩
    have m:=df (s q _ (by simp) u);have M:=(c7.1 c).1;simp only[ft] at M;exact Hm (by rw[b x (by simp[dd]),h];rfl) (p b) l (by omega) m rfl (D9 k) (y.ic g e)
   .cases a
  .rename_i q v i G h
   split at a
   .rename_i U
    split at a
    .rename_i g Y S
     split at a
     .rename_i V N;obtain⟨L,f⟩:=a8 a;refine⟨_,_,f,λd ty pos aft j n b _=>?_⟩
      exact aqx (by rw[b x (by simp[dd]),h];rfl) (p b) rfl (ei L) S N
     .cases a
    .cases a
   .cases a
  .cases a
 .cases a
def Li{g:IntKind}:∀{d:List (TV B.D)} {e:List Int},ints g d=c4 e->aP B d=e.map (PV.int g)
 |[],e,a=>by simp[ints] at a;subst a;rfl
 | .int b i::d,e,a=>by
  simp only[ints] at a;obtain⟨h,c⟩:=a8 a;clear a;obtain rfl:=qh h;cases f:ints g d with
  |none=>rw[f] at c;cases c
  |some r=>
   rw[f] at c;injection c with c
   subst c;simp[aP,pv,Li f]
 | .any::_,_,a=>by simp[ints] at a
 | .z0::_,_,a=>by simp[ints] at a
 | .fS::_,_,a=>by simp[ints] at a
 | .bg::_,_,a=>by simp[ints] at a
 | .dB::_,_,a=>by simp[ints] at a
 | .bool _::_,_,a=>by simp[ints] at a
 | .str _::_,_,a=>by simp[ints] at a
 | .row .. ::_,_,a=>by simp[ints] at a
 | .ptr .. ::_,_,a=>by simp[ints] at a
 | .fl .. ::_,_,a=>by simp[ints] at a
 | .sl .. ::_,_,a=>by simp[ints] at a
 | .vp .. ::_,_,a=>by simp[ints] at a
 | .agg _::_,_,a=>by simp[ints] at a
 | .bu _::_,_,a=>by simp[ints] at a
 | .fn .. ::_,_,a=>by simp[ints] at a
 | .jC _::_,_,a=>by simp[ints] at a
def Qx:∀{c:List (TV B.D)} {d:List Bool},gS c=c4 d->aP B c=d.map PV.bool
 |[],d,a=>by simp[gS] at a;subst a;rfl
 | .bool b::c,d,a=>by
  simp only[gS] at a;cases e:gS c with
  |none=>rw[e] at a;cases a
  |some r=>
   rw[e] at a;injection a with a
   subst a;simp[aP,pv,Qx e]
 | .any::_,_,a=>by simp[gS] at a
 | .z0::_,_,a=>by simp[gS] at a
 | .fS::_,_,a=>by simp[gS] at a
 | .bg::_,_,a=>by simp[gS] at a
 | .dB::_,_,a=>by simp[gS] at a
 | .int .. ::_,_,a=>by simp[gS] at a
 | .str _::_,_,a=>by simp[gS] at a
 | .row .. ::_,_,a=>by simp[gS] at a
 | .ptr .. ::_,_,a=>by simp[gS] at a
 | .fl .. ::_,_,a=>by simp[gS] at a
 | .sl .. ::_,_,a=>by simp[gS] at a
 | .vp .. ::_,_,a=>by simp[gS] at a
 | .agg _::_,_,a=>by simp[gS] at a
 | .bu _::_,_,a=>by simp[gS] at a
 | .fn .. ::_,_,a=>by simp[gS] at a
 | .jC _::_,_,a=>by simp[gS] at a
def aeo{f:TypeId}{e:Nat}(b:Gx P f e=true):∃c,pk P f=c4 (e,c)/\cH P c=c4 1/\dP P c=c4 false:=by
 unfold Gx at b
 split at b
 .rename_i g c i
  split at b
  .rename_i k j h;cases d:e4 g e with
   |true=>
    rw[d] at b;obtain rfl:=beq_eq d;obtain rfl:=beq_eq (a:=k) b;exact⟨c,i,j,h⟩
   |false=>rw[d] at b;cases b
  .cases b
 .cases b
def ame{l:TypeId}{g e:Operand}{h:En B.D}{t:List (Ob B.D)}{n:cr B.D->Option R}(a:index B P l (pe h g) (pe h e) n=c4 r):
 ∃v u,n ⟨v,[],0,u⟩=c4 r/\fW P (.index l g e) h t u v:=by
 unfold index at a
 split at a
 .rename_i G C m z x;obtain⟨F,a⟩:=a8 a;obtain⟨N,A,y,w⟩:=aeo F;have q:∀{i:Type} (b:List i) (f:i->PV) (v:i) (j:TV B.D),aP B m=b.map f->pv B j=f v->aj b C=c4 v->fW P (.index l g e) h t [] j:=λb f v j o D c J L I M K H p _=>by
   obtain⟨E,s⟩:=xd c;have d:len m=b.length:=by
    have:=congrArg List.length o;rw[db,dk,dk] at this;rw[eu,this]
   rw[D];refine ac0 (by rw[p g (by simp[dd]),x];rfl) (by rw[p e (by simp[dd]),z];rfl) E ?_ A y w ?_
   .rw[d];exact(c7.1 s).1
   .rw[o,e6,s];rfl
  split at a
  .obtain⟨b,d,a⟩:=fq a;obtain⟨v,c,k⟩:=ec.1 a;exact⟨_,_,k,q b _ v _ (Li d) rfl c⟩
  .obtain⟨b,d,a⟩:=fq a;obtain⟨v,c,k⟩:=ec.1 a;exact⟨_,_,k,q b _ v _ (Qx d) rfl c⟩
  .cases a
 .cases a
def wk{i:En B.D}{h:Env}{dflt:Nat}{e:Option Operand}{d:Int}(a:rE B i (dflt:Int) e=c4 d)(h0:0<=d)(k:∀c,e=c4 c->∀g b,pe i c= .int g b->PE h c= .int g b):mU h dflt e d.toNat:=by
 unfold rE at a
 split at a
 .injection a with a
  show d.toNat=dflt
  omega
 .rename_i c
  split at a
  .rename_i f b j;injection a with a
   subst a;exact⟨f,b,k c rfl f b j,by omega⟩
  .cases a
def NN{h:En B.D}{f:Env}{c:Option Operand}(b:Bx B h c=true)(j:∀a,c=c4 a->∀e g,pe h a= .int e g->PE f a= .int e g):mU f 0 c 0:=by
 unfold Bx at b
 split at b
 .rfl
 .rename_i a;unfold pP at b
  split at b
  .rename_i d i;exact⟨d,0,j a rfl d 0 i,rfl⟩
  .cases b
def NF{b:TV B.D}(a:pP b=true):∃c,b= .int c 0:=by
 unfold pP at a
 split at a
 .exact⟨_,rfl⟩
 .cases a
def aqA{t:TypeId}{x:Operand}{lo hi:Option Operand}{E:En B.D}{H:List (Ob B.D)}{c:cr B.D->Option R}(h:slice B P E H t (pe E x) lo hi c=c4 r):
 ∃v F,c ⟨v,[],0,F⟩=c4 r/\fW P (.slice t x lo hi c6) E H F v:=by
 have ops:∀{m:En B.D},(∀z,z∈(Op.slice t x lo hi c6).operands->PE (aU B m) z=pv B (pe E z))->∀{g:Option Operand},g=lo\/g=hi->∀a,g=c4 a->∀c e,pe E a= .int c e->PE (aU B m) a= .int c e:=λS g n a j c e o=>by
  rw[S a ?_,o];rfl;rcases n with rfl |rfl
  .subst j;simp[dd]
  .subst j;simp[dd]
 unfold slice at h
 split at h
 .rename_i e G k;obtain⟨i,h⟩:=a8 h;obtain⟨w,y,h⟩:=fq h;obtain⟨b,p,h⟩:=fq h;obtain⟨N,j,u⟩:=ec.1 h;obtain⟨h0,L,J,rfl⟩:=Kt j;refine⟨_,_,u,λd ty pos aft m s f _=>?_⟩
  refine aaK (l:=w.toNat) (h:=b.toNat) (by rw[f x (by simp[dd]),k];rfl) (mh i).1 (mh i).2 (wk (dflt:=0) y h0 (ops f (.inl rfl))) (wk (by rw[dk];exact p) (by omega) (ops f (.inr rfl))) (by omega) (by rw[dk];omega) ?_
  simp[j8,j7]
 .rename_i q v k
  split at h
  .rename_i e G I;obtain⟨T,n⟩:=fx I;obtain⟨i,h⟩:=a8 h;obtain⟨w,y,h⟩:=fq h;obtain⟨b,p,h⟩:=fq h;obtain⟨N,j,u⟩:=ec.1 h;obtain⟨h0,L,J,_⟩:=Kt j;refine⟨_,_,u,λd ty pos aft m s f M=>?_⟩
   have A:=df (M q _ (by simp) n);refine KT (by rw[f x (by simp[dd]),k];rfl) A λD K O=>?_
   have C:∀{g:Option Operand},g=lo\/g=hi->∀a,g=c4 a->∀c e,pe E a= .int c e->PE D a= .int c e:=λn a j c e o=>O a _ (ops f n a j c e o) (by simp)
   have:=SC (P:=P) (E:=D) (H:=av B s) (d:=d) (ty:=ty) (pos:=pos) (aft:=aft) (gd:=c6) (t:=t) (x:=x) (lo:=lo) (hi:=hi) (l:=w.toNat) (h:=b.toNat) K A rfl (mh i).1 (mh i).2 (wk (dflt:=0) y h0 (C (.inl rfl))) (wk (by simpa[aY] using p) (by omega) (C (.inr rfl))) (by omega) (by simp[aY];omega);rw[gx] at this;exact this
  .cases h
 .rename_i k;obtain⟨h0,h⟩:=a8 h;obtain⟨Q,h⟩:=a8 h
  split at h
  .rename_i e o;obtain⟨i,h⟩:=a8 h;exact⟨_,_,h,λd ty pos aft m s f _=>acJ (by rw[f x (by simp[dd]),k];rfl) (mh i).1 (mh i).2 (NN h0 (ops f (.inl rfl))) (NN Q (ops f (.inr rfl)))⟩
  .cases h
 .cases h
def VT(w:cU P B){m:TypeId}{x d c:Operand}{e:En B.D}{n:List (Ob B.D)}{j:cr B.D->Option R}
 (a:(bif pP (pe e d) then bif pP (pe e c) then rowOf B n (pe e x) λi _ b=>bif kX B P m i then j ⟨.z0,[],0,b⟩ else c6 else c6 else c6)=c4 r):
 ∃v b,j ⟨v,[],0,b⟩=c4 r/\fW P (.slice m x c6 (c4 d) (c4 c)) e n b v:=by
 obtain⟨h,a⟩:=a8 a;obtain⟨f,a⟩:=a8 a;obtain⟨u,h⟩:=NF h;obtain⟨p,f⟩:=NF f;obtain⟨i,E,b,a,q⟩:=Hd a;obtain⟨k,t⟩:=a8 a;refine⟨_,_,t,λA D z F C o g s=>?_⟩
 refine amo (x:=x) (by rw[g x (by simp[dd])];exact q o s) λG y l=>?_
 exact Zm y (w.pos i) (mh k).1 (mh k).2 (l d (.int u 0) (by rw[g d (by simp[dd]),h];rfl) (by simp)) (l c (.int p 0) (by rw[g c (by simp[dd]),f];rfl) (by simp))
def kV.len{H:List aO}{p:PV}{sz:Nat}{d:List PV}{g:Gh}{j:World}{v:Value}(c:kV H p sz d)(e:bF g H j)(h:VR g H j p v)(l:0<sz):∃a cap,v= .slice a d.length cap:=by
 rcases c with c |⟨q,m,rfl,k,rfl,rfl⟩
 .obtain⟨_,a,cap,h,_⟩:=c.real e h l;exact⟨a,cap,h⟩
 .obtain⟨_,a,cap,h,_⟩:=(DP k).real e (h.ub k rfl) l;exact⟨a,cap,h⟩
def apb{d:List (Ob B.D)}{q v j a:Nat}{c:List (B.D a)}{b:List (TV B.D)}(h:nth d q=c4 ⟨j,v,.hole a c b⟩){e:List (Ob B.D)}(g:∀i f,i∈[q]->nth d i=c4 f->nth e i=c4 f):kV (av B e) (.fl q v) (B.sz a) (c.map (B.ty a).enc++aP B b):=
 .inr ⟨q,_,rfl,df (g q _ (by simp) h),rfl,rfl⟩
def Vw(C:cU P B){x:Operand}{t n:TypeId}{E:En B.D}{H:List (Ob B.D)}{l:cr B.D->Option R}(w:dU P t=c4 n)
 (b:(match pe E x with
  | .bg=>l ⟨.int .i64 0,[],0,[]⟩
  | .z0=>l ⟨.int .i64 0,[],0,[]⟩
  |x=>GF B H x l)=c4 r):
 ∃v f,l ⟨v,[],0,f⟩=c4 r/\fW P (.call {callee:=.builtin .len,args:=#[x],argTypes:=#[t]}) E H f v:=by
 have z:x∈(o8 {callee:=.builtin .len,args:=#[x],argTypes:=#[t]}).operands:=by simp[dd,hP]
 split at b
 .rename_i h;exact⟨_,_,b,λd ty pos aft u a j _=>ap9 (by rw[j x z,h];rfl) rfl w⟩
 .rename_i h;exact⟨_,_,b,λd ty pos aft u a j _=>acm (by rw[j x z,h];rfl) rfl w⟩
 .unfold GF at b;have q:∀(m:Nat) (f:List Nat) (s:Nat) (k:List PV),0<s->k.length=m->(∀a:List (Ob B.D),(∀i F,i∈f->nth H i=c4 F->nth a i=c4 F)->kV (av B a) (pv B (pe E x)) s k)->fW P (.call {callee:=.builtin .len,args:=#[x],argTypes:=#[t]}) E H f (.int .i64 (m:Int)):=λm f s k M L y d ty pos aft u a j e=>by
   subst L;exact Gi (P:=P) (E:=aU B u) (H:=av B a) (d:=d) (ty:=ty) (pos:=pos) (aft:=aft) (gd:=c6) (x:=x) (t:=t) (ci:=#[t]) (n:=k.length) ⟨n,w⟩ rfl λg N Q O G=>by
    have D:=G.e.eval x;rw[j x z] at D;exact(y a e).len G.m D M
  split at b
  .rename_i h
   split at b
   .rename_i c o p;obtain⟨K,A⟩:=fx p;refine⟨_,_,b,q _ _ (B.sz c) (List.map (B.ty c).enc o) (C.pos c) (by rw[dk]) λa e=>?_⟩
    rw[h];exact .inr ⟨_,_,rfl,df (e _ _ (by simp) A),rfl,rfl⟩
   .rename_i c o I p;obtain⟨K,A⟩:=fx p;refine⟨_,_,b,q _ _ (B.sz c) (o.map (B.ty c).enc++aP B I) (C.pos c) (by rw[eH,dk,db,dk,eu]) λa e=>?_⟩
    rw[h];exact apb A e
   .cases b
  .obtain⟨c,k,f,J,y⟩:=Hd b;exact⟨_,_,J,q _ _ _ _ (C.pos c) (by rw[dk]) λa e=>y a e⟩
def adE{a:Call}{c e:Operand}{f:En B.D}{n:List (Ob B.D)}{d b:IntKind}{h i:Int}(k:a.callee= .builtin .min)(o:a.args=#[c,e])(j:pe f c= .int d h)(m:pe f e= .int b i)(l:fV d b=true):
 fW P (.call a) f n [] (.int d (min h i)):=by
 obtain rfl:=qh l;obtain⟨callee,args,p⟩:=a;subst k;subst o;exact λt v s w u q g _=>akg (by rw[g c (by simp[dd,hP]),j];rfl) (by rw[g e (by simp[dd,hP]),m];rfl)
def alY{a:Call}{c e:Operand}{f:En B.D}{n:List (Ob B.D)}{d b:IntKind}{h i:Int}(k:a.callee= .builtin .max)(o:a.args=#[c,e])(j:pe f c= .int d h)(m:pe f e= .int b i)(l:fV d b=true):
 fW P (.call a) f n [] (.int d (max h i)):=by
 obtain rfl:=qh l;obtain⟨callee,args,p⟩:=a;subst k;subst o;exact λt v s w u q g _=>ae4 (by rw[g c (by simp[dd,hP]),j];rfl) (by rw[g e (by simp[dd,hP]),m];rfl)
def DE{E c:En B.D}:∀{b:List Operand},(∀a,a∈b->PE (aU B c) a=pv B (pe E a))->aP B (fB E b)=b.map (PE (aU B c))
 |[],_=>rfl
 |a::b,d=>by rw[fB,aP,DE λe f=>d e (km _ f),ma,d a (by simp)]
def W8{f:FuncId}{bs cs:Array Operand}{E:En B.D}{H:List (Ob B.D)}:fW P (.makeFunc (.func f) bs cs) E H [] (.fn f (fB E bs.toList) (fB E cs.toList)):=by
 intro d ty pos aft e g c _;have:=apw (P:=P) (E:=aU B e) (H:=av B g) (d:=d) (ty:=ty) (pos:=pos) (aft:=aft) (gd:=c6) (f:=f) (bs:=bs.toList) (cs:=cs.toList);rw[<-DE (E:=E) λa b=>c a (by simp[dd,hM.1 b]), <-DE (E:=E) λa b=>c a (by simp[dd,hM.1 b])] at this;exact this
def aip{f d:TypeId}{a:Operand}{e:En B.D}{h:List (Ob B.D)}{c b:IntKind}{g:Int}(i:pe e a= .int b g)(j:yi P d=c4 c)(k:(P.underlying f).isSome=true):fW P (.convert f d a) e h [] (.int c (c.wrap g)):=
 λ_ _ _ _ _ _ l _=>aoQ (by rw[l a (by simp[dd]),i];rfl) k j rfl
end
section
variable {P:Program}{B:Tb}{R:Type}{r:R}
def iZ{d:Nat->Type}(a:List (Ob d))(b:cr d):Prop:=
 ∀i e,(i,e)∈b.wr->i<a.length+b.nw/\∀c,nth a i=c4 c->c.st<e.st
def S6{a:Nat->Type}{b:List (Ob a)}{v:TV a}{c:Nat}{d:List Nat}:iZ b ⟨v,[],c,d⟩:=λi f e=>by cases e
def pz{c:Nat->Type}{a:List (Ob c)}{v:TV c}{q f:Nat}{b:Bd c}{h:List Nat}{j:Ob c}(e:nth a q=c4 j):iZ a ⟨v,[(q,⟨dJ a q,f,b⟩)],0,h⟩:=λi k d=>by
 have d:(i,k)=(q,(⟨dJ a q,f,b⟩:Ob c)):=k0.1 d;injection d with h1 h2
 subst h1;subst h2;refine⟨?_,λg l=>?_⟩
 .rw[cJ] at e;exact(c7.1 e).1
 .show g.st<dJ a i
  unfold dJ;rw[l];exact p7 _
def xO{b:Nat->Type}{a:List (Ob b)}{v:TV b}{d:Ob b}{f:List Nat}:iZ a ⟨v,[(len a,d)],1,f⟩:=λi g c=>by
 have c:(i,g)=(len a,d):=k0.1 c;injection c with h1 h2
 subst h1;subst h2;rw[eu];refine⟨p7 _,λh e=>?_⟩
 rw[cJ,hI (ef _)] at e;cases e
def alQ{a:TV B.D}(c:yH a=true):(pv B a).one=true:=by
 cases a <;> first
  |rfl
  |(rename_i b;cases b <;> rfl;done)
  |(simp[yH] at c;done)
def oK:∀{cs:List (TV B.D)},jj cs=true->(aP B cs).all PV.one=true
 |[],_=>rfl
 |c::cs,a=>by
  simp only[jj] at a;cases b:yH c with
  |false=>rw[b] at a;cases a
  |true=>
   rw[b] at a;simp[aP,alQ b,oK (cs:=cs) a]
def zk{a:TV B.D}(d:tF a=true)(vs:List PV):pv B a≠ .bu vs:=by
 cases a <;> first
  |(intro b;cases b;done)
  |(rename_i c;cases c <;> (intro b;cases b);done)
  |(simp[tF] at d;done)
def PC{a:TV B.D}(b:jj (dN a)=true):tF a=true:=by
 cases a <;> first
  |rfl
  |(simp[dN,jj,yH] at b;done)
def l5(a:TV B.D):(pv B a).cells=aP B (dN a):=by rw[nB,db]
def aoA{a i:Nat}(c:i<a):(dx a:List (Ob B.D))[i]?=c4 xt:=by
 induction a generalizing i with
 |zero=>omega
 |succ a b=>
  cases i with
  |zero=>rfl
  |succ i=>simpa[dx] using b (by omega)
def PK{a:List (Ob B.D)}{b i:Nat}(c:i<b):nth (aX a (dx b)) (len a+i)=c4 xt:=by
 rw[cJ,bK,eu,dt (by omega)];simpa using aoA c
def mc(a:List (Ob B.D))(q:Nat)(b:Ob B.D):av B (b8 a [(q,b)])=(av B a).set q (aY B b):=Zc
def Ag.ov{j:Op}{rd:List Nat}{E c:En B.D}{H a:List (Ob B.D)}{e:Ob B.D}(d:Ag j (aX rd (eV [(len H,e)])) E c (aX H (dx 1)) a):(av B a)[len H]?=c4 ⟨0,1,[],0⟩:=by
 have h:=d.h (len H) (by simp[bK,eV]);rw[show len H=len H+0 from rfl,PK (by omega)] at h;exact df h
def Ag.pe{c:Op}{d:List Nat}{E a:En B.D}{e k:List (Ob B.D)}(j:Ag c d E a e k){x:Operand}(h:x∈c.operands):PE (aU B a) x=pv B (pe E x):=by rw[Bw,j.e x h]
def Ag.lN{j:Op}{rd wr:List Nat}{E d:En B.D}{H a:List (Ob B.D)}{n i:Nat}{c:Ob B.D}(e:Ag j (aX rd wr) E d (aX H (dx n)) a)(hi:i∈rd\/i∈wr)(h:nth H i=c4 c):nth a i=c4 c:=by
 rw[e.h i (by rw[bK,List.mem_append];exact hi)];exact Dy h
def c9{a:Type}{b:List a}{i:Nat}{c:a}(d:b[i]?=c4 c):i<b.length:=(c7.1 d).1
def W5{a:TypeId}{x:Operand}{E:En B.D}{H:List (Ob B.D)}(c:jj (dN (pe E x))=true)(f:m1 0 (len (dN (pe E x)))=true):
 gY P (.box a x) E H ⟨.ptr (len H) 1 0 0,[(len H,⟨1,1,.box a (dN (pe E x))⟩)],1,[]⟩:=by
 intro d ty pos aft h j b;have k:0<(pv B (pe E x)).cells.length:=by rw[nB,dk, <-eu];exact ei f
 have i:=b.pe (x:=x) (by simp[dd]);have g:=alO (P:=P) (E:=aU B h) (H:=av B j) (d:=d) (ty:=ty) (pos:=pos) (aft:=aft) (elem:=a) i rfl k (by rw[l5];exact oK c) (zk (PC c));have e:=tu (sX b.ov g) (c9 b.ov) (P6 _) (.refl _);rw[l5] at e;refine lI e ?_
 rintro v l ⟨rfl,rfl⟩;refine⟨rfl,?_⟩
 rw[mc];simp[aY,db]
def ac4{a:TypeId}{z:Value}{E:En B.D}{H:List (Ob B.D)}(i:dV P a=c4 z)(h:jj (dN (cv (D:=B.D) z))=true)(e:m1 0 (len (dN (cv (D:=B.D) z)))=true):
 gY P (.alloc a) E H ⟨.ptr (len H) 1 0 0,[(len H,⟨1,1,.box a (dN (cv z))⟩)],1,[]⟩:=by
 intro d ty pos aft g j b;have k:0<(pv B (cv z)).cells.length:=by rw[nB,dk, <-eu];exact ei e
 have f:=Ug (P:=P) (E:=aU B g) (H:=av B j) (d:=d) (ty:=ty) (pos:=pos) (aft:=aft) (elem:=a) i (DK B z).symm rfl k (by rw[l5];exact oK h);have c:=tu (sX b.ov f) (c9 b.ov) (P6 _) (.refl _);rw[l5] at c;refine lI c ?_
 rintro v l ⟨rfl,rfl⟩;refine⟨rfl,?_⟩
 rw[mc];simp[aY,db]
def Jh(a c:List (TV B.D))(b:Nat):aP B (oJ a b c)=(aP B a).take b++aP B c++(aP B a).drop (b+c.length):=by
 unfold oJ;rw[bK,bK,kK,drop_eq,eu];simp[db,j8,j7]
def ap2{a c:List (TV B.D)}{b:Nat}(d:b+c.length<=a.length):(oJ a b c).length=a.length:=by
 unfold oJ;rw[bK,bK,kK,drop_eq,eu];simp;omega
def acV{a n i:Nat}{g:List (B.D a)}{k:B.D a}{f:PV}(q:cU P B)(t:i<g.length)(s:∀(e:Nat) (o b:PV),f.cells[e]?=c4 o->((B.ty a).enc k).cells[e]?=c4 b->Cc o b)(v:f.cells.length=B.sz a):
 jB ⟨a,B.sz a,(g.map (B.ty a).enc).set i f,n⟩ ⟨a,B.sz a,(g.set i k).map (B.ty a).enc,n⟩:=by
 refine⟨rfl,rfl,rfl,by simp,λh j d=>?_,λh e p c=>?_⟩
 .rw[e6] at d;cases m:(g.set i k)[h]? with
  |none=>rw[m] at d;cases d
  |some u=>
   rw[m] at d;injection d with d
   subst d;exact q.wid a u
 .unfold abk at c⊢;rw[r0] at c
  by_cases j:i=h
  .subst j;rw[ee (by simpa using t)] at c⊢;simp only[hU] at c⊢;have l:e<f.cells.length:=by
    have:=c9 c;rw[q.wid] at this;omega
   exact⟨f.cells[e],c5 l,s e _ p (c5 l) c⟩
  .rw[ey j] at c⊢;exact⟨p,c,.refl _⟩
def amr(j:cU P B){w:TypeId}{x c:Operand}{E:En B.D}{H:List (Ob B.D)}{I:cr B.D->Option R}(a:store B P H w (pe E x) (pe E c) I=c4 r):
 ∃z,I z=c4 r/\iZ H z/\gY P (.store w x c) E H z:=by
 unfold store at a
 split at a
 .rename_i ac Y;obtain⟨aa,a⟩:=a8 a;obtain⟨J,a⟩:=a8 a;have V:(pv B (pe E c)).cells.length=ac:=by rw[nB,dk, <-eu];exact beq_eq aa
  have O:(pv B (pe E c)).cells.all PV.one=true:=by rw[l5];exact oK J
  have N:=zk (B:=B) (PC J);have T:cH P w=c4 (pv B (pe E c)).cells.length:=by rw[V];exact Y
  split at a
  .rename_i q v i f K
   split at a
   .rename_i g U A;obtain⟨ab,n⟩:=fx A;obtain⟨e,Q,a⟩:=ec.1 a;have W:=c9 Q;have fin:∀(h:B.D g) (e':PV),e'.cells=((B.ty g).enc e).cells.take f++(pv B (pe E c)).cells++((B.ty g).enc e).cells.drop (f+(pv B (pe E c)).cells.length)->f+(pv B (pe E c)).cells.length<=B.sz g->
     (∀(f:Nat) (o b:PV),e'.cells[f]?=c4 o->((B.ty g).enc h).cells[f]?=c4 b->Cc o b)->gY P (.store w x c) E H ⟨.any,[(q,⟨dJ H q,v,.aap g (U.set i h)⟩)],0,[q]⟩:=λh e' S k u d ty pos aft M L l=>by
     have t:=df (l.lN (.inl (by simp)) n);have ae:=QH (P:=P) (E:=aU B M) (H:=av B L) (d:=d) (ty:=ty) (pos:=pos) (aft:=aft) (e:=(B.ty g).enc e) (e':=e') (by rw[l.pe (x:=x) (by simp[dd]),K];rfl) t rfl (l.pe (x:=c) (by simp[dd])) T O N (by simp[aY,Q]) (by rw[j.wid];exact k) S;have ad:e'.cells.length=B.sz g:=by
      rw[S,eH,eH,ft,j5,j.wid];omega
     refine lI (tu ae (c9 t) (acV j W u ad) (.refl _)) ?_
     rintro v af ⟨rfl,rfl⟩;exact⟨rfl,by rw[mc];rfl⟩
    have C:((B.ty g).enc e).cells=aP B (dN (B.tv g e)):=by rw[<-j.tv,l5]
    split at a
    .rename_i m Z;obtain⟨k,a⟩:=a8 a;obtain⟨h,F,s⟩:=fq a;have p:=ei k;rw[eu,eu] at p;rw[Z] at C;refine⟨_,s,pz n,fin h (.agg (aP B (oJ m f (dN (pe E c))))) ?_ ?_ λf o b G y=>((j.up g _ h F).2.cells).2 f o b G y⟩
     .rw[C,l5];show aP B _=_
      rw[Jh];simp[dN,db]
     .have:=j.wid g e;rw[C,db,dk] at this;rw[nB,dk];simp only[dN] at this;omega
    .obtain⟨k,D⟩:=a8 a;clear a;obtain rfl:=beq_eq k;obtain⟨h,F,s⟩:=fq D;have u:=(j.up g _ h F).2.cells;have ag:(pv B (pe E c)).cells.length=B.sz g:=by rw[u.1,j.wid]
     refine⟨_,s,pz n,fin h (.agg (pv B (pe E c)).cells) ?_ (by omega) λf o b G y=>u.2 f o b G y⟩
     rw[List.drop_eq_nil_of_le (by rw[j.wid];omega)];simp[PV.cells]
   .rename_i ah m A;obtain⟨ab,n⟩:=fx A;obtain⟨X,D⟩:=a8 a;clear a;obtain rfl:=beq_eq X;obtain⟨k,s⟩:=a8 D;have p:=ei k;rw[eu,eu] at p;refine⟨_,s,pz n,λd ty pos aft M L l=>?_⟩
    have t:=df (l.lN (.inl (by simp)) n);refine lI (QH (P:=P) (e:=.agg (aP B m)) (e':=.agg (aP B (oJ m f (dN (pe E c))))) (by rw[l.pe (x:=x) (by simp[dd]),K];rfl) t rfl (l.pe (x:=c) (by simp[dd])) T O N (by simp[aY]) ?_ ?_) ?_
    .rw[show(pv B (pe E c)).cells.length=(dN (pe E c)).length by rw[nB,dk]];simp only[PV.cells,db,dk];exact p
    .rw[l5];show aP B _=(aP B m).take f++aP B (dN (pe E c))++(aP B m).drop (f+(aP B (dN (pe E c))).length)
     rw[Jh];simp[db]
    .rintro v af ⟨rfl,rfl⟩;refine⟨rfl,?_⟩
     rw[mc];simp[aY,ap2 p]
   .cases a
  .cases a
 .cases a
structure vF (P:Program) (B:Tb) (op:Op) (E:En B.D) (H:List (Ob B.D)) (n:Nat) (xs:List (B.D n)) (rd:List Nat):Prop where
 fz:∀d ty pos aft E' H',Ag op (aX rd []) E E' H H'->fJ P ⟨d,op,ty,pos,aft,c6⟩ (aU B E') (av B H') λv K=>v= .vs (B.sz n) (xs.map (B.ty n).enc)/\K=av B H'
 own:∀d ty pos aft E' H' q,(∀x,x∈op.operands->PE (aU B E') x=pv B (pe E x))->(∀i o,i∈rd->nth H i=c4 o->nth H' i=c4 o)->(av B H')[q]?=c4 ⟨0,1,[],0⟩->
  fJ P ⟨d,op,ty,pos,aft,c6⟩ (aU B E') (av B H') λv K=>v= .fl q 1/\K=(av B H').set q ⟨n,B.sz n,xs.map (B.ty n).enc,1⟩
def vF.sound{o:Op}{E:En B.D}{H:List (Ob B.D)}{n:Nat}{j:List (B.D n)}{rd:List Nat}{fz:Bool}{k:cr B.D->Option R}(m:vF P B o E H n j rd)
 (h:(bif fz then k ⟨.row n j,[],0,rd⟩ else k ⟨.fl (len H) 1,[(len H,⟨1,1,.aap n j⟩)],1,rd⟩)=c4 r):∃az,k az=c4 r/\iZ H az/\gY P o E H az:=by
 cases fz with
 |true=>
  refine⟨_,h,S6,λd ty pos c e l a=>?_⟩
  refine m.fz d ty pos c e l ⟨a.e,λi hi=>?_,?_⟩
  .rw[a.h i hi];show nth (aX H []) i=_;rw[bK,q4]
  .have:=a.le;simpa[bK,dx] using this
 |false=>
  refine⟨_,h,xO,λd ty pos c e l a=>?_⟩
  refine lI (m.own d ty pos c e l (len H) (λx s=>a.pe s) (λi u hi t=>a.lN (.inl hi) t) a.ov) ?_
  rintro v w ⟨rfl,rfl⟩;exact⟨rfl,by rw[mc];rfl⟩
def qY{b:Nat}{d:Option Nat}{z:Option Value}(a:lB b d z=true):d=c4 b/\∃v,z=c4 v/\v.cells.size=b:=by
 unfold lB at a
 split at a
 .rename_i e v;cases c:e4 b e with
  |true=>rw[c] at a;exact⟨by rw[beq_eq c],v,rfl,beq_eq a⟩
  |false=>rw[c] at a;cases a
 .cases a
def J2(c:cU P B){a:Nat}{d:List (B.D a)}:∀b,b∈d.map (B.ty a).enc->cE 0 b:=λb f=>by
 obtain⟨e,_,rfl⟩:=ng.1 f;exact c.lt a e
def MY(o:cU P B){c b h:Nat}{a x:Operand}{f:En B.D}{H:List (Ob B.D)}{g L:List (B.D b)}{J:List Nat}(E:pe f a= .bg\/pe f a= .z0)(w:yd B H (pe f x) b g J)
 (D:dU P c=c4 b) (z:kB P b=c4 (h+1)) (O:lB (B.sz b) (cH P b) (dV P b)=true) (N:bj (h+1) [] g=c4 L):
 vF P B (.call {callee:=.builtin .append,args:=#[a,x],argTypes:=#[c,c]}) f H b L J:=by
 obtain⟨t,rfl⟩:=AN N;obtain⟨K,Y,F,u⟩:=qY O;simp only[l0,gx,o2] at t⊢;have C:(g.map (B.ty b).enc).length<=9223372036854775807:=by
  rw[dk];have:=ga g.length (l3 h);simp only[hS] at this;omega
 have M:(g.map (B.ty b).enc).length*(h+1)<=140737488355328:=by rw[dk];exact t
 have k:a∈(o8 {callee:=.builtin .append,args:=#[a,x],argTypes:=#[c,c]}).operands/\x∈(o8 {callee:=.builtin .append,args:=#[a,x],argTypes:=#[c,c]}).operands:=by simp[dd,hP]
 have y:∀{p:Env},PE p a=pv B (pe f a)->PE p a= .bg\/PE p a= .z0:=λj=>E.imp (λe=>by rw[j,e];rfl) (λe=>by rw[j,e];rfl)
 have I:∀r v,pv B (pe f a)≠ .fl r v:=λr v=>by rcases E with e |e <;> rw[e] <;> simp[pv]
 refine⟨λd ty pos aft Q l m=>?_,λd ty pos aft Q l q G S A=>?_⟩
 .have W:=m.pe k.1;refine uL (x:=x) (by rw[m.pe k.2];exact w l λi X T V=>by rw[m.h i (by rw[bK];simp[T])];exact V) λU s n=>?_
  exact ab0 (y (n a _ W I)) rfl s (o.pos b) D K z F u M C (J2 o)
 .refine uL (x:=x) (by rw[G x k.2];exact w l S) λU s n=>?_
  have j:=Oh (P:=P) (d:=d) (ty:=ty) (pos:=pos) (aft:=aft) A (y (n a _ (G a k.1) I)) rfl s (o.pos b) D K z F u M C;exact qX j (by unfold ek;rw[ee (c9 A)]) rfl
def YX(V:cU P B){t a g q v l:Nat}{s x:Operand}{E:En B.D}{H:List (Ob B.D)}{b f w:List (B.D a)}{u:List Nat}(L:pe E s= .fl q v)(j:nth H q=c4 ⟨l,v,.aap a b⟩)(C:yd B H (pe E x) a f u)
 (K:dU P t=c4 a) (F:kB P a=c4 (g+1)) (I:lB (B.sz a) (cH P a) (dV P a)=true) (D:bj (g+1) b f=c4 w):
 gY P (.call {callee:=.builtin .append,args:=#[s,x],argTypes:=#[t,t]}) E H ⟨.fl q (v+1),[(q,⟨dJ H q,v+1,.aap a w⟩)],0,q::u⟩:=by
 obtain⟨y,rfl⟩:=AN D;obtain⟨T,U,M,z⟩:=qY I;have G:b.length+f.length<=9223372036854775807:=by
  have:=ga (b.length+f.length) (l3 g);simp only[hS] at this;omega
 have p:s∈(o8 {callee:=.builtin .append,args:=#[s,x],argTypes:=#[t,t]}).operands/\x∈(o8 {callee:=.builtin .append,args:=#[s,x],argTypes:=#[t,t]}).operands:=by simp[dd,hP]
 intro d ty pos aft J m e;have c:=df (e.lN (.inl (by simp)) j);have A:PE (aU B J) s= .fl q v:=by rw[e.pe p.1,L];rfl
 obtain⟨h,rfl,n⟩:=ri A;refine yP n c rfl ?_
 have k:=JM (x:=x) (by rw[e.pe p.2];exact C m λi o N j=>e.lN (.inl (by simp[N])) j) n c;refine uL (x:=x) k λQ k O=>?_
 have S:=Pb (P:=P) (E:=Q) (H:=av B m) (d:=d) (ty:=ty) (pos:=pos) (aft:=aft) (s:=.tmp h) (r:=q) (v:=v) (len:=b.length) (by_:=g+1) (t:=t) (x:=x) (o:=aY B ⟨l,v,.aap a b⟩) (O (.tmp h) (.sl q v 0 b.length) (by show Bml.look _ h=_;rw[ni];simp[aY]) (by simp)) c rfl rfl k K T F M z (by rw[dk];exact y) (by rw[dk];exact G);refine lI (qX S (by unfold ek;rw[ee (c9 c)]) (by simp[aY])) ?_
 rintro v W ⟨rfl,rfl⟩;refine⟨rfl,?_⟩
 rw[mc];simp[aY,hY]
def OL{g:List (Ob B.D)}{q b e c:Nat}{a:List (TV B.D)}(h:nth g q=c4 ⟨e,b,.hole c [] a⟩){d:List (Ob B.D)}(f:nth d q=c4 ⟨e,b,.hole c [] a⟩):kV (av B d) (.fl q b) (B.sz c) (aP B a):=
 .inr ⟨q,_,rfl,df f,rfl,by simp[aY]⟩
def agG(am:cU P B){t p n:Nat}{s x:Operand}{E:En B.D}{H:List (Ob B.D)}{S:cr B.D->Option R}(a:GI B H p (n+1) (pe E s) (pe E x) S=c4 r)
 (Z:dU P t=c4 p) (W:kB P p=c4 (n+1)) (aj:lB (B.sz p) (cH P p) (dV P p)=true):
 ∃D,S D=c4 r/\iZ H D/\gY P (.call {callee:=.builtin .append,args:=#[s,x],argTypes:=#[t,t]}) E H D:=by
 obtain⟨ad,ao,aa,T⟩:=qY aj;have C:s∈(o8 {callee:=.builtin .append,args:=#[s,x],argTypes:=#[t,t]}).operands/\x∈(o8 {callee:=.builtin .append,args:=#[s,x],argTypes:=#[t,t]}).operands:=by simp[dd,hP]
 unfold GI at a
 split at a
 .rename_i q ap U
  split at a
  .rename_i j f af;obtain⟨aq,A⟩:=fx af;obtain⟨ah,a⟩:=a8 a;obtain rfl:=beq_eq ah;have ac:(aP B f).length=len f:=by rw[db,dk,eu]
   split at a
   .rename_i J;obtain⟨c,y⟩:=a8 a;have c:=ei c;refine⟨_,y,xO,λd ty pos aft Y V e=>?_⟩
    have al:=e.lN (.inl (by simp)) A;refine uL (x:=x) (sz:=B.sz j) (ys:=aP B f) (by rw[e.pe C.2,U];exact OL A al) λM z L=>?_
    have G:(aP B f).length<=9223372036854775807:=by
     have:=ga (len f) (l3 n);simp only[hS] at this;omega
    have a:=Oh (P:=P) (E:=M) (d:=d) (ty:=ty) (pos:=pos) (aft:=aft) (s:=s) e.ov (.inl (L s .bg (by rw[e.pe C.1,J];rfl) (by simp))) rfl z (am.pos j) Z ad W aa T (by rw[ac];exact c) G;refine lI (qX a (by unfold ek;rw[ee (c9 e.ov)]) rfl) ?_
    rintro v an ⟨rfl,rfl⟩;exact⟨rfl,by rw[mc];rfl⟩
   .rename_i h k J;have go:∀(m:Nat) (b Q:Bd B.D) (g:List PV),nth H h=c4 ⟨m,k,b⟩->(∀s v,aY B ⟨s,v,b⟩=⟨j,B.sz j,g,v⟩)->(∀s v,aY B ⟨s,v,Q⟩=⟨j,B.sz j,g++aP B f,v⟩)->(g.length+len f)*(n+1)<=140737488355328->
     gY P (.call {callee:=.builtin .append,args:=#[s,x],argTypes:=#[t,t]}) E H ⟨.fl h (k+1),[(h,⟨dJ H h,k+1,Q⟩)],0,[h,q]⟩:=λm b Q g l ai ak c=>by
     have G:g.length+(aP B f).length<=9223372036854775807:=by
      have:=ga (g.length+len f) (l3 n);simp only[hS] at this;omega
     intro d ty pos aft Y V e;have u:=df (e.lN (.inl (by simp)) l);have ag:=e.lN (i:=q) (.inl (by simp)) A;rw[ai] at u;have ae:PE (aU B Y) s= .fl h k:=by rw[e.pe C.1,J];rfl
     obtain⟨K,rfl,X⟩:=ri ae;refine yP X u rfl ?_
     have z:=JM (x:=x) (by rw[e.pe C.2,U];exact OL A ag) X u;refine uL (x:=x) z λM z L=>?_
     have a:=Pb (P:=P) (E:=M) (H:=av B V) (d:=d) (ty:=ty) (pos:=pos) (aft:=aft) (s:=.tmp K) (r:=h) (v:=k) (len:=g.length) (by_:=n+1) (t:=t) (x:=x) (o:=⟨j,B.sz j,g,k⟩) (L (.tmp K) (.sl h k 0 g.length) (by show Bml.look _ K=_;rw[ni]) (by simp)) u rfl rfl z Z ad W aa T (by rw[ac];exact c) G;refine lI (qX a (by unfold ek;rw[ee (c9 u)]) (by simp)) ?_
     rintro v an ⟨rfl,rfl⟩;refine⟨rfl,?_⟩
     rw[mc,ak];simp[hY]
    split at a
    .rename_i N w ab F;obtain⟨m,l⟩:=fx F;obtain⟨ys,I,a⟩:=fq a;obtain⟨rfl,O⟩:=AG I;obtain rfl:w=ys:=O;obtain⟨c,y⟩:=a8 a;have c:=ei c;refine⟨_,y,pz l,go m _ _ (w.map (B.ty N).enc++aP B ab) l (λs v=>rfl) (λs v=>by simp[aY,bK,db]) ?_⟩
     rw[eH,dk,db,dk, <-eu ab];exact c
    .rename_i N w F;obtain⟨m,l⟩:=fx F;obtain⟨ys,I,a⟩:=fq a;obtain⟨rfl,O⟩:=AG I;obtain rfl:w=ys:=O;obtain⟨c,y⟩:=a8 a;have c:=ei c;refine⟨_,y,pz l,go m _ _ (w.map (B.ty N).enc) l (λs v=>rfl) (λs v=>rfl) ?_⟩
     rw[dk];exact c
    .cases a
   .cases a
  .cases a
 .cases a
end
def am7{b c:PV}(d:Cc b c)(a:c.one=true):b.one=true:=by
 cases d with
 |refl=>exact a
 |nil=>rfl
 |z0=>rfl
 |agg=>cases a
def ahf{vs:List PV}{a:PV}(b:Cc (.bu vs) a):a= .bu vs:=by
 cases b;rfl
def ajW{d a:PV}(i:Cc d a)(g:a.cells.all PV.one=true):d.cells.all PV.one=true:=by
 obtain⟨j,f⟩:=i.cells;refine h7.2 λk h=>?_
 obtain⟨c,e,rfl⟩:=ej h;have b:c<a.cells.length:=by omega
 exact am7 (f c _ _ (c5 e) (c5 b)) (h7.1 g _ (List.getElem_mem b))
section
variable {P:Program}{B:Tb}{R:Type}{r:R}
def acz{e:En B.D}{d f:Operand}(a:Cf d f=true):pe e f=pe e d:=by
 unfold Cf at a
 split at a
 .rw[beq_eq a]
 .rename_i h i b g;cases c:fV h b with
  |false=>rw[c] at a;cases a
  |true=>
   rw[c] at a;obtain rfl:=qh c;have:i=g:=of_decide_eq_true a;rw[this]
 .cases a
def aoF(t:cU P B){s a w:Nat}{g n:Operand}{x:En B.D}{aa:List (Ob B.D)}{K:IntKind}{e:Int}{z:Value}{o:B.D a}{C:List (B.D a)}(L:Cf g n=true)(G:pe x g= .int K e)
 (T:dU P s=c4 a) (M:dV P a=c4 z) (N:kB P a=c4 (w+1)) (Q:lB (B.sz a) (cH P a) (dV P a)=true) (X:jj (dN (cv (D:=B.D) z))=true) (Z:B.up a (cv z)=c4 o) (u:gP (w+1) o e=c4 C):
 vF P B (.makeSlice s g n) x aa a C []:=by
 obtain⟨J,y,rfl⟩:=SF u;obtain⟨ad,af,ag,ae⟩:=qY Q;obtain⟨S,E⟩:=t.up a _ o Z;have O:e.toNat<=9223372036854775807:=by
  have:=ga e.toNat (l3 w);simp only[hS] at this;omega
 have W:(pv B (cv z)).cells.length=B.sz a:=by rw[E.cells.1,t.wid]
 have I:∀k c j l f h,(∀p,p∈(Op.makeSlice s g n).operands->PE (aU B f) p=pv B (pe x p))->nY P (aU B f) (av B h) ⟨k,.makeSlice s g n,c,j,l,c6⟩ a (B.sz a) (hB e.toNat (pv B (cv z))) (λq m=>.sl q m 0 e.toNat):=λk c j l f h d=>
  aax (by rw[d g (by simp[dd]),G];rfl) (by rw[d n (by simp[dd]),acz L,G];rfl) J J T ad N (by omega) O M (DK B z).symm W (t.pos a) (by rw[l5];exact oK X)
 have A:∀c m,jB ⟨c,B.sz a,hB e.toNat (pv B (cv z)),m⟩ ⟨c,B.sz a,(hB e.toNat o).map (B.ty a).enc,m⟩:=λc m=>by
  refine jB.of (by simp) (λi ah b ac y=>?_) λi V d=>?_
  .have ab:=dT ac;have F:=dT y;rw[oo] at F;rw[hQ ab,hQ F];exact E
  .have H:=dT d;rw[oo] at H;rw[hQ H];exact t.wid a o
 refine⟨λk c j l f h U=>?_,λk c j l f h q d _ v=>?_⟩
 .exact Pf (J5 (I k c j l f h λp u=>U.pe u) (by simp) λV d=>by rw[hQ d];exact S) (A 0 0)
 .have Y:=tu (sX v (I k c j l f h d)) (c9 v) (A a 1) (.refl _);exact qX Y (by unfold ek;rw[ee (c9 v)]) (by simp)
def NO(o:cU P B){f:En B.D}{l:Nat}:∀{b:List (Nat×Operand)} {i:Nat} {e:List (B.D l)},rn B f l i b=c4 e->
 e.length=b.length/\(∀h:En B.D,(∀p,p∈b->PE (aU B h) p.2=pv B (pe f p.2))->qn (aU B h) b (mY i (b.map λp=>pv B (pe f p.2))))/\
 (∀(c:Nat) (k g:PV),(b.map λp=>pv B (pe f p.2))[c]?=c4 k->(e.map (B.ty l).enc)[c]?=c4 g->Cc k g)/\∀j,j∈(b.map λp=>pv B (pe f p.2))->cE 0 j
 |[],i,e,a=>by
  simp only[rn,m4] at a;subst a;exact⟨rfl,λ_ _=>trivial,by simp,by simp⟩
 |p::b,i,e,a=>by
  simp only[rn] at a;obtain⟨y,a⟩:=a8 a
  split at a
  .rename_i z C t w;injection a with a
   subst a;obtain⟨A,v,s,x⟩:=NO o w;obtain⟨u1,u2⟩:=o.up l _ z t;refine⟨by simp[A],λh d=>⟨beq_eq y,d p (by simp),v h λq u=>d q (km _ u)⟩,λc k g m n=>?_,λj d=>?_⟩
   .cases c with
    |zero=>simp at m n;subst m;subst n;exact u2
    |succ c=>exact s c k g (by simpa using m) (by simpa using n)
   .rcases mb.1 d with rfl |d
    .exact u1
    .exact x j d
  .cases a
def Js:∀{l:List Value},Ax l=true->l.all (·.oneCell')=true
 |[],_=>rfl
 |v::l,a=>by
  simp only[Ax] at a;cases b:v.oneCell' with
  |false=>rw[b] at a;cases a
  |true=>rw[b] at a;simp[b,Js (l:=l) a]
def aaJ(j:cU P B){t n e:Nat}{ps:Array (Nat×Operand)}{E:En B.D}{H:List (Ob B.D)}{g:List (B.D n)}(K:dU P t=c4 n)(s:rn B E n 0 ps.toList=c4 g)(I:e4 (len g) e=true)
 (J:lB (B.sz n) (cH P n) (dV P n)=true) (C:Ix (dV P n)=true) (S:hK (e*B.sz n) 16777216=true):vF P B (.buildSlice t e ps) E H n g []:=by
 obtain⟨T,zv,y,D⟩:=qY J;obtain⟨W,G,v,O⟩:=NO j s;have V:g.length=e:=by rw[<-eu];exact beq_eq I
 rw[y] at C;have Q:=Js C;have x:∀f,f∈(ps.toList.map λp=>pv B (pe E p.2))->∃a:B.D n,Cc f ((B.ty n).enc a):=λf b=>by
  obtain⟨o,z,rfl⟩:=ej b;have N:o<g.length:=by rw[dk] at z;omega
  exact⟨g[o],v o _ _ (c5 z) (by rw[e6,c5 N];rfl)⟩
 have A:∀d ty pos aft c h,(∀a,a∈(Op.buildSlice t e ps).operands->PE (aU B c) a=pv B (pe E a))->nY P (aU B c) (av B h) ⟨d,.buildSlice t e ps,ty,pos,aft,c6⟩ n (B.sz n) (ps.toList.map λp=>pv B (pe E p.2)) (λq k=>.sl q k 0 e):=λd ty pos aft c h b=>by
  have m:=Pn (P:=P) (E:=aU B c) (H:=av B h) (d:=d) (ty:=ty) (pos:=pos) (aft:=aft) (t:=t) (te:=n) (sz:=B.sz n) (n:=e) (zv:=zv) (ps:=ps.toList) (es:=ps.toList.map λp=>pv B (pe E p.2))
   (G c λp U=>b p.2 (by simp[dd];exact⟨p.1,hM.1 U⟩)) (by rw[dk];omega)
   (h7.2 λf b=>by
    obtain⟨a,l⟩:=x f b;rw[l.cells.1,j.wid,ajW l (j.one n a),k7];rfl)
   (λf b L F=>by
    obtain⟨a,l⟩:=x f b;subst F;exact j.xw n a L (ahf l)) K T y D Q (j.pos n) (ei S)
  rw[j4] at m;exact m
 have w:∀ty k,jB ⟨ty,B.sz n,ps.toList.map λp=>pv B (pe E p.2),k⟩ ⟨ty,B.sz n,g.map (B.ty n).enc,k⟩:=λty k=>
  jB.of (by rw[dk,dk];omega) v λi f b=>by
   obtain⟨a,_,rfl⟩:=ng.1 (dT b);exact j.wid n a
 refine⟨λd ty pos aft c h M=>?_,λd ty pos aft c h q b _ u=>?_⟩
 .exact Pf (J5 (A d ty pos aft c h λa s=>M.pe s) (by rw[dk];omega) O) (w 0 0)
 .have m:=tu (sX u (A d ty pos aft c h b)) (c9 u) (w n 1) (.refl _);exact qX m (by unfold ek;rw[ee (c9 u)]) (by rw[dk];omega)
def aco(L:cU P B){t n b:Nat}{ps:Array (Nat×Operand)}{E:En B.D}{H:List (Ob B.D)}{h:cr B.D->Option R}(a:FK B E H n ps.toList b h=c4 r)(w:dU P t=c4 n)
 (u:lB (B.sz n) (cH P n) (dV P n)=true) (l:Ix (dV P n)=true) (J:hK (b*B.sz n) 16777216=true):∃c,h c=c4 r/\iZ H c/\gY P (.buildSlice t b ps) E H c:=by
 obtain⟨N,zv,k,o⟩:=qY u;rw[k] at l;have F:=Js l;unfold FK at a
 split at a
 .rename_i p m;obtain⟨h0,a⟩:=a8 a;obtain⟨G,a⟩:=a8 a;obtain⟨s,a⟩:=a8 a;obtain⟨A,a⟩:=a8 a;obtain⟨M,D⟩:=a8 a;obtain rfl:=beq_eq G;refine⟨_,D,xO,λd ty pos aft e i f=>?_⟩
  have I:PE (aU B e) p.2=pv B (pe E p.2):=f.pe (by simp[dd];exact⟨p.1,hM.1 (by rw[m];simp)⟩);have C:(pv B (pe E p.2)).cells.length=B.sz n:=by rw[nB,dk, <-eu];exact beq_eq s
  have K:nY P (aU B e) (av B i) ⟨d,.buildSlice t 1 ps,ty,pos,aft,c6⟩ n (B.sz n) [pv B (pe E p.2)] (λq z=>.sl q z 0 1):=by
   have a:=Pn (P:=P) (E:=aU B e) (H:=av B i) (d:=d) (ty:=ty) (pos:=pos) (aft:=aft) (t:=t) (te:=n) (sz:=B.sz n) (n:=1) (zv:=zv) (ps:=ps.toList) (es:=[pv B (pe E p.2)])
    (by rw[m];exact⟨beq_eq h0,I,trivial⟩) rfl
    (h7.2 λy g=>by
     rw[k0.1 g,C,l5,oK A,k7];rfl)
    (λy g x j=>by
     rw[k0.1 g] at j;exact zk M x j) w N k o F (L.pos n) (ei J)
   rw[j4] at a;exact a
  have a:=sX f.ov K;refine lI (qX a (by unfold ek;rw[ee (c9 f.ov)]) rfl) ?_
  rintro v O ⟨rfl,rfl⟩;exact⟨rfl,by rw[mc];rfl⟩
 .cases a
def M4{e:En B.D}:∀{c:List (Nat×Operand)} {b:List (Nat×List (TV B.D))},ul B e c=c4 b->b=c.map (λp=>(p.1,dN (pe e p.2)))/\∀p,p∈c->tF (pe e p.2)=true
 |[],b,a=>by simp[ul] at a;subst a;exact⟨rfl,by simp⟩
 |p::c,b,a=>by
  simp only[ul] at a;obtain⟨h,a⟩:=a8 a
  split at a
  .rename_i j g;injection a with a
   subst a;obtain⟨i,f⟩:=M4 g;refine⟨by rw[i];rfl,λq d=>?_⟩
   rcases mb.1 d with rfl |d
   .exact h
   .exact f q d
  .cases a
def Ko{c:En B.D}{place:Nat->Option (Nat×Nat)}{g:List (Nat×Nat)}(k:∀i p,nth g i=c4 p->place i=c4 p):∀{f:List (Nat×Operand)} {b d:List (TV B.D)},fill g b (f.map λp=>(p.1,dN (pe c p.2)))=c4 d->
 mE place (aP B b) (f.map λp=>(p.1,pv B (pe c p.2)))=c4 (aP B d)
 |[],b,d,a=>by simp[fill] at a;subst a;rfl
 |p::f,b,d,a=>by
  simp only[ma,fill] at a
  split at a
  .rename_i q size o;obtain⟨n,a⟩:=a8 a;obtain⟨h,a⟩:=a8 a;obtain⟨l,a⟩:=a8 a;have e:=beq_eq n;rw[eu] at e h;have j:=Ko k a;rw[Jh,e] at j;simp only[ma,mE,k _ _ o];have m:(pv B (pe c p.2)).cells=aP B (dN (pe c p.2)):=l5 _;rw[m,oK l];rw[show(aP B (dN (pe c p.2))).length=size by rw[db,dk];exact e,show(aP B b).length=b.length by rw[db,dk],h,k7];exact j
  .cases a
def RI{b:Nat}:∀{n i k:Nat} {p:Nat×Nat},nth (AA b n i) k=c4 p->p=((i+k)*b,b)
 |0,_,_,_,a=>by cases a
 |n+1,i,0,p,a=>by simp[AA,nth] at a;exact a.symm
 |n+1,i,k+1,p,a=>by
  have:=RI (n:=n) (i:=i+1) (k:=k) (p:=p) a;rw[this]
  congr 2
  omega
def agn{t:TypeId}{f:Array (Nat×Operand)}{E:En B.D}{H:List (Ob B.D)}{z:Array Value}{u:List (Nat×Nat)}{l:List (Nat×List (TV B.D))}{k:List (TV B.D)}(n:dV P t=c4 (.agg z))(a:placesOf P t=c4 u)
 (L:jj (rq (D:=B.D) z.toList)=true) (F:ul B E f.toList=c4 l) (s:fill u (rq z.toList) l=c4 k):fW P (.build t f) E H [] (.agg k):=by
 intro d ty pos aft g o I _;obtain⟨rfl,K⟩:=M4 F;have m:∀{e:List (Nat×Operand)},(∀p,p∈e->p∈f.toList)->qn (aU B g) e (e.map λp=>(p.1,pv B (pe E p.2))):=λ{e}=>by
  induction e with
  |nil=>intro _;trivial
  |cons p e G=>
   intro c;exact⟨rfl,I p.2 (by simp[dd];exact⟨p.1,hM.1 (c p (by simp))⟩),G λq C=>c q (km _ C)⟩
 have x:∀i v,(i,v)∈(f.toList.map λp=>(p.1,pv B (pe E p.2)))->∀h,v≠ .bu h:=λi v A h=>by
  obtain⟨p,b,j⟩:=ng.1 A;injection j with _ j
  rw[<-j];exact zk (K p b) h
 have w:(z.toList.map jq).all PV.one=true:=by rw[<-r8 B];exact oK L
 unfold placesOf at a
 split at a
 .rename_i N y;injection a with a
  subst a;have c:=ahR (P:=P) (E:=aU B g) (H:=av B o) (d:=d) (ty:=ty) (pos:=pos) (aft:=aft) (gd:=c6) (t:=t) (zs:=z.toList) (by simpa using n) (r8 B _).symm (by rw[r8];exact w) y (m λp b=>b) x
   (Ko (λi p b=>by rw[cJ] at b;simpa using b) s)
  rw[j4] at c;exact c
 .split at a
  .rename_i S Q M
   split at a
   .rename_i O J;injection a with a
    subst a;have c:=VH (P:=P) (E:=aU B g) (H:=av B o) (d:=d) (ty:=ty) (pos:=pos) (aft:=aft) (gd:=c6) (t:=t) (zs:=z.toList) (by simpa using n) (r8 B _).symm (by rw[r8];exact w) M J (m λp b=>b) x
     (Ko (λi p b=>by rw[RI b,gx]) s)
    rw[j4] at c;exact c
   .cases a
  .cases a
end
end Go.X
namespace Go.Bml
open Go
inductive Wf (f:Nat->Nat->Prop):PV->Prop
 |any:Wf f .any
 |bool (b:Bool):Wf f (.bool b)
 |int (k:IntKind) (m:Int):Wf f (.int k m)
 |str (s:ByteArray):Wf f (.str s)
 |fS:Wf f .fS
 |bg:Wf f .bg
 |z0:Wf f .z0
 |dB:Wf f .dB
 |dw (cs:List PV) (j:Nat):Wf f (.dw cs j)
 |vs (sz:Nat) (es:List PV):Wf f (.vs sz es)
 |ptr (r v i j:Nat) (h:f r v):Wf f (.ptr r v i j)
 |sl (r v off len:Nat) (h:f r v):Wf f (.sl r v off len)
 |fl (r v:Nat) (h:f r v):Wf f (.fl r v)
 |agg (cs:List PV) (h:∀c,c∈cs->Wf f c):Wf f (.agg cs)
 |bu (cs:List PV) (h:∀c,c∈cs->Wf f c):Wf f (.bu cs)
 |fn (g:Nat) (cs ds:List PV) (h:∀c,c∈cs->Wf f c) (h2:∀c,c∈ds->Wf f c):Wf f (.fn g cs ds)
section
variable {g g':Gh}{H H':List aO}{w w':World}
def qB{p:PV->Prop}{b:List PV}{c:List Value}(j:b.length=c.length)(h:∀(i:Nat) (a:PV) (e:Value),b[i]?=c4 a->c[i]?=c4 e->p a):∀a,a∈b->p a:=λa f=>by
 obtain⟨i,d,rfl⟩:=ej f;exact h i _ _ (c5 d) (c5 (by omega))
def VI.wf{F:Nat->Prop}{f:Nat->Nat->Prop}{c:PV}{x:Value}(h:VI F w c x):Wf f c:=by
 induction h with
 |any x=>exact .any
 |bool b=>exact .bool b
 |int k n=>exact .int k n
 |str s=>exact .str s
 |fS=>exact .fS
 |bg=>exact .bg
 |z0 a=>exact .z0
 |dB=>exact .dB
 |dw d C b off u o A D l e=>exact .dw d C
 |eX sz a cap=>exact .vs sz []
 |vs sz es b off cap u j o I A D l e=>exact .vs sz es
 |agg d m j l e=>exact .agg d (qB j e)
 |bu d m j l e=>exact .bu d (qB j e)
 |fn f d y m E j l t G e B=>exact .fn f d y (qB j e) (qB t B)
def VR.wf{c:PV}{x:Value}(h:VR g H w c x):Wf (λr v=>∃e,H[r]?=c4 e/\v<=e.aF) c:=by
 induction h with
 |aW h=>exact h.wf
 |ptr r v i y e a m d D=>exact .ptr r v i y ⟨e,m,d⟩
 |sl r v off len e x m d A s=>exact .sl r v off len ⟨e,m,d⟩
 |fl r v e x m d A s=>exact .fl r v ⟨e,m,d⟩
 |agg j n k d l=>exact .agg j (qB k l)
 |bu j n k d l=>exact .bu j (qB k l)
 |fn f j t n B k d o C l u=>exact .fn f j t (qB k l) (qB o u)
def VR.uz{f:Nat->Nat->Prop}(M:∀b,g.F b->g'.F b)(S:∀b,g.F b->w'.heap[b]?=w.heap[b]?)
 (K:∀r v k,f r v->H[r]?=c4 k->v<=k.aF->∃l,H'[r]?=c4 l/\v<=l.aF/\(v=l.aF->v=k.aF/\l.sz=k.sz/\l.es.length=k.es.length/\g'.β r=g.β r))
 {c:PV} {x:Value} (h:VR g H w c x) (n:Wf f c):VR g' H' w' c x:=by
 induction h with
 |aW h=>exact .aW (h.mono M S)
 |ptr r v i Q k a F m U=>
  cases n with
  |ptr _ _ _ _ J=>
   obtain⟨l,G,y,t⟩:=K r v k J F m;refine .ptr r v i Q l a G y λe=>?_
   obtain⟨I,B,o,E⟩:=t e;rw[B,o,E];exact U I
 |sl r v off len k x F m L d=>
  cases n with
  |sl _ _ _ _ J=>
   obtain⟨l,G,y,t⟩:=K r v k J F m;refine .sl r v off len l x G y L λe=>?_
   obtain⟨I,B,o,E⟩:=t e;exact(d I).step B o E
 |fl r v k x F m L d=>
  cases n with
  |fl _ _ J=>
   obtain⟨l,G,y,t⟩:=K r v k J F m;refine .fl r v l x G y L λe=>?_
   obtain⟨I,B,o,E⟩:=t e;rw[o];exact(d I).step B o E
 |agg s u A m D=>cases n with |agg _ C=>exact .agg s u A λi c x j d=>D i c x j d (C c (dT j))
 |bu s u A m D=>cases n with |bu _ C=>exact .bu s u A λi c x j d=>D i c x j d (C c (dT j))
 |fn f s O u R A m N V D P=>
  cases n with
  |fn _ _ _ C T=>exact .fn f s O u R A (λi c x j d=>D i c x j d (C c (dT j))) N (λi c x j d=>P i c x j d (T c (dT j)))
def VR.re{f:Nat->Nat->Prop}(j:∀b,g.F b->g'.F b)
 (k:∀r v a,f r v->H[r]?=c4 a->v<=a.aF->∃d,H'[r]?=c4 d/\v<=d.aF/\(v=d.aF->v=a.aF/\d.sz=a.sz/\d.es.length=a.es.length/\g'.β r=g.β r))
 {c:PV} {x:Value} (h:VR g H w c x) (e:Wf f c):VR g' H' w c x:=VR.uz j (λ_ _=>rfl) k h e
def dj(g:Gh)(c:Nat->Option Nat)(a:Nat->Prop):Gh:={F:=λb=>g.F b\/∃r d,a r/\g.β r=c4 (b,d),β:=λq=>(c q).bind g.β}
def bF.re(s:bF g H w){a:Nat->Option Nat}{fz:Nat->Prop}(S:∀r,fz r->∀q,a q≠c4 r)(inj:∀q u r,a q=c4 r->a u=c4 r->q=u)(m8:∀q r,a q=c4 r->q<H'.length)
 (obj:∀q d,H'[q]?=c4 d->0<d.sz/\(∀(i:Nat) (e:PV),d.es[i]?=c4 e->e.cells.length=d.sz)/\(a q=c6->d.es=[])/\
  ∀r,a q=c4 r->∃l,H[r]?=c4 l/\d.ty=l.ty/\d.sz=l.sz/\d.es.length=l.es.length/\∀i o x,abk d.es i o=c4 x->∃c,abk l.es i o=c4 c/\∀n,VR g H w c n->VR (dj g a fz) H' w x n):
 bF (dj g a fz) H' w:=by
 have A:∀{q b C},(dj g a fz).β q=c4 (b,C)->∃r,a q=c4 r/\g.β r=c4 (b,C):=λ{q b C} h=>by
  show ∃r,a q=c4 r/\_
  have m:(a q).bind g.β=c4 (b,C):=h;cases k:a q with
  |none=>rw[k] at m;cases m
  |some r=>rw[k] at m;exact⟨r,rfl,m⟩
 refine⟨λb j=>?_,λq u b C J h m=>?_,λq b C h=>?_,λq d af=>?_⟩
 .rcases j with j |⟨r,C,_,j⟩
  .exact s.fb b j
  .exact s.qD j
 .obtain⟨r,y,I⟩:=A h;obtain⟨L,M,ad⟩:=A m;obtain rfl:=s.inj r L b C J I ad;exact inj q u r y M
 .obtain⟨r,y,_⟩:=A h;exact m8 q r y
 .obtain⟨Z,P,E,T⟩:=obj q d af;refine⟨Z,P,?_⟩
  cases k:a q with
  |none=>
   have:(dj g a fz).β q=c6:=by show(a q).bind g.β=c6;rw[k];rfl
   rw[this];exact E k
  |some r=>
   have ae:(dj g a fz).β q=g.β r:=by show(a q).bind g.β=_;rw[k];rfl
   rw[ae];obtain⟨l,Y,aa,B,D,U⟩:=T r k;have t:=(s.obj r l Y).mem;cases j:g.β r with
   |none=>
    rw[j] at t;exact e5 (by rw[D,t];rfl)
   |some N=>
    obtain⟨b,C⟩:=N;rw[j] at t;obtain⟨ac,cells,ab,W,O,ag,R⟩:=t;refine⟨?_,cells,by rw[aa];exact ab,by rw[B];exact W,O,by rw[D];exact ag,λi o x K=>?_⟩
    .rintro(G |⟨r2,C2,X,V⟩)
     .exact ac G
     .obtain rfl:=s.inj r r2 b C C2 j V;exact S _ X q k
    .obtain⟨c,Q,F⟩:=U i o x K;obtain⟨n,u1,u2,u3⟩:=R i o c Q;exact⟨n,by rw[B];exact u1,u2,F n u3⟩
def GStep.re{n:Nat}{j:Nat->Option Nat}{fz:Nat->Prop}(u:∀r d,r<n->H[r]?=c4 d->∃a,H'[r]?=c4 a/\d.aF<=a.aF/\(a.aF=d.aF->j r=c4 r/\a.sz=d.sz/\a.es.length=d.es.length)):GStep n g H w (dj g j fz) H' w:=by
 refine⟨rfl,rfl,rfl,ef _,λ_ h=>.inl h,λ_ _=>rfl,λ_ _ _=>rfl,λb c=>?_,λq b C c=>?_,λr d t x=>?_⟩
 .rcases c with c |⟨r,C,_,c⟩
  .exact .inl c
  .exact .inr (.inr ⟨r,C,c⟩)
 .have k:(j q).bind g.β=c4 (b,C):=c;cases l:j q with
  |none=>rw[l] at k;cases k
  |some r=>rw[l] at k;exact .inr ⟨r,C,k⟩
 .obtain⟨a,y,o,m⟩:=u r d t x;refine⟨a,y,o,λe=>?_⟩
  obtain⟨B,s,A⟩:=m e;exact⟨s,A,by show(j r).bind g.β=_;rw[B];rfl⟩
end
end Go.Bml
