/- For TopTracked, part 1. -/
import Derived.WalkKit
import Derived.Maps.AppendAt
import Derived.Orders
import Derived.Deep.LoopGhost
import Derived.Laws.MakeOwn
import Derived.Laws.BytesArg
import Derived.Laws.StructEq
import Derived.Laws.Slices
set_option linter.defProp false
set_option linter.unusedVariables false
set_option linter.unusedSimpArgs false
open Decidable renaming decide → c3
open Option renaming some → c4, none → c6, bind_eq_some_iff → ec, bind_some → hU, map_none → ie, isSome_iff_exists → m6, map_some → o1
open List renaming getElem?_eq_getElem → c5, getElem?_eq_some_iff → c7, length_map → dk, getElem?_append_right → dt, getElem?_append_left → dv, mem_of_getElem? → dT, getElem?_take_of_lt → e0, eq_nil_of_length_eq_zero → e5, getElem?_map → e6, getElem?_drop → ea, getElem?_set_self → ee, getElem_of_mem → ej, getElem?_set_ne → ey, append_assoc → eE, length_append → eH, length_take → ft, getElem?_take → h6, all_eq_true → h7, getElem?_range → h9, replicate → hB, getElem?_eq_none → hI, eq_of_mem_replicate → hQ, take_of_length_le → hY, length_drop → j5, map_drop → j7, map_take → j8, mem_singleton → k0, size_toArray → kc, getElem?_toArray → kd, mem_cons_of_mem → km, length_nil → l0, extract_eq_take_drop → m0, flatMap_cons → m5, map_cons → ma, mem_cons → mb, length_cons → my, range → n2, mem_map → ng, nil_append → o2, length_set → o3, take_zero → o7, length_pos_iff → o9, map_replicate → oo, append_nil → q4, map_set → r0
open Go.Op renaming operands → dd, equalIn → j9, binOp → la, equal → mx, intArith → o4, call → o8, eqFields → q2
open Nat renaming beq → e4, le_refl → ef, le_of_ble_eq_true → ei, add_mul → eo, mul_le_mul_right → ev, le_mul_of_pos_right → ga, zero_add → gx, eq_of_beq_eq_true → h5, le_trans → hq, ble → hK, succ_eq_add_one → hS, one_mul → hX, add_assoc → j1, add_sub_cancel_left → k6, beq_refl → k7, add_zero → l1, mul_comm → l2, succ_pos → l3, lt_of_lt_of_le → l4, blt → m1, lt_or_ge → oq, mod_eq_of_lt → p0, lt_succ_self → p7, zero_le → pc, mul_add_mod → q3, mod_lt → q5, zero_mul → qq
open Go.Result renaming andThen_ok → ez
open Array renaming getElem?_toList → fe, length_toList → gy, mem_toList_iff → hM, getD_eq_getD_getElem? → j2, toArray_toList → j4, getElem?_eq_none → k8, size_append → oS
open Go.Sem renaming run_bind → gb, run_pure → hz
open Go.RowKit.Below renaming heap_alloc → gv
open Go.Addr renaming add_lit → h8
open Go.Instr renaming sureAddr → hD, sliceBounds → j3, sliceAt → j6, sliceBound → kh, fill → kl, slice → m3, loadAt → n1, indexAt → oi, buildSlice → p6, fieldAt → q7, field → r3
open Go.Builtin renaming append_ → hL, zeroCells → m2
open Go.Call renaming operands → hP
open Go.Region renaming wanted → ih
open Option.some renaming injEq → m4
open Go.Oper renaming wp → n0
open Go.Value renaming cells → o6, ownBlock → q6
open Bool renaming false_eq_true → oj, and_eq_true → p4
open Go.Program renaming built → q8
open Go.Exit renaming inBlock → qa
open Ne renaming symm → qb
open Go.Act renaming put → r4
namespace Go.Aml
open Go
def qQ{a e:Type}{d:Option a}{b:a->Option e}{r:e}(f:d.bind b=c4 r):∃c,d=c4 c/\b c=c4 r:=ec.1 f
def aj{a:Type}(b:List a)(i:Int):Option a:=if 0<=i then b[i.toNat]? else c6
def xd{b:Type}{c:List b}{i:Int}{d:b}(a:aj c i=c4 d):i=(i.toNat:Int)/\c[i.toNat]?=c4 d:=by
 unfold aj at a
 split at a
 .exact⟨by omega,a⟩
 .cases a
def eG{c:Type}(d:List c)(a b:Int):Option (List c):=if 0<=a/\a<=b/\b<=(d.length:Int) then c4 ((d.take b.toNat).drop a.toNat) else c6
def Kt{d:Type}{l:List d}{a b:Int}{e:List d}(h:eG l a b=c4 e):0<=a/\a<=b/\b<=(l.length:Int)/\(l.take b.toNat).drop a.toNat=e:=by
 unfold eG at h
 split at h
 .rename_i c;exact⟨c.1,c.2.1,c.2.2,by injection h⟩
 .cases h
def ph(a:IntKind)(c b:Int):Option Int:=if b=0 then c6 else c4 (a.wrap (c.tdiv b))
def agK{c:IntKind}{d b r:Int}(a:ph c d b=c4 r):b≠0/\c.wrap (d.tdiv b)=r:=by
 unfold ph at a
 split at a
 .cases a
 .rename_i e;exact⟨e,by injection a⟩
def nG(a b:Int):Option Int:=if b=0 then c6 else c4 (a.tmod b)
def Yg{c b r:Int}(a:nG c b=c4 r):b≠0/\c.tmod b=r:=by
 unfold nG at a
 split at a
 .cases a
 .rename_i d;exact⟨d,by injection a⟩
def uU(a:IntKind)(c b:Int):Option Int:=if 0<=b then c4 (a.wrap (c*2^ (min b.toNat a.bits))) else c6
def alN{c:IntKind}{d b r:Int}(a:uU c d b=c4 r):0<=b/\c.wrap (d*2^ (min b.toNat c.bits))=r:=by
 unfold uU at a
 split at a
 .rename_i e;exact⟨e,by injection a⟩
 .cases a
def iN(a:IntKind)(c b:Int):Option Int:=if 0<=b then c4 (c.fdiv (2^ (min b.toNat a.bits))) else c6
def adR{c:IntKind}{d b r:Int}(a:iN c d b=c4 r):0<=b/\d.fdiv (2^ (min b.toNat c.bits))=r:=by
 unfold iN at a
 split at a
 .rename_i e;exact⟨e,by injection a⟩
 .cases a
def bj{a:Type}(d:Nat)(b c:List a):Option (List a):=if(b.length+c.length)*d<=140737488355328 then c4 (b++c) else c6
def AN{f:Type}{d:Nat}{c b e:List f}(a:bj d c b=c4 e):(c.length+b.length)*d<=140737488355328/\c++b=e:=by
 unfold bj at a
 split at a
 .rename_i g;exact⟨g,by injection a⟩
 .cases a
def gP{b:Type}(c:Nat)(z:b)(a:Int):Option (List b):=if 0<=a/\a.toNat*c<=140737488355328 then c4 (hB a.toNat z) else c6
def SF{c:Type}{d:Nat}{z:c}{a:Int}{e:List c}(b:gP d z a=c4 e):a=(a.toNat:Int)/\a.toNat*d<=140737488355328/\hB a.toNat z=e:=by
 unfold gP at b
 split at b
 .rename_i f;exact⟨by omega,f.2,by injection b⟩
 .cases b
def fY{a b:Type}(f:a->Option (a⊕b)):Nat->a->Option b
 |0,_=>c6
 |e+1,d=>(f d).bind λc=>c.elim (fY f e) c4
def RC{c g:Type}{f:c->Option (c⊕g)}:∀{n:Nat} {d:c} {b:g},fY f n d=c4 b->fY f (n+1) d=c4 b
 |0,_,_,a=>by simp[fY] at a
 |n+1,d,b,a=>by
  unfold fY at a⊢;obtain⟨i,h,e⟩:=qQ a;rw[h];cases i with
  |inl j=>exact RC (n:=n) e
  |inr k=>exact e
def Sn{a g:Type}{f:a->Option (a⊕g)}{e d:Nat}{c:a}{b:g}(i:fY f e c=c4 b)(j:e<=d):fY f d c=c4 b:=by
 induction j with
 |refl=>exact i
 |step _ h=>exact RC h
noncomputable def bO{a c:Type}(f:a->Option (a⊕c))(b:a):Option c:=
 open Classical in if d:∃e,(fY f e b).isSome then fY f d.choose b else c6
def Cd{c i:Type}{f:c->Option (c⊕i)}{n:Nat}{d:c}{b:i}(h:fY f n d=c4 b):bO f d=c4 b:=by
 have a:∃n,(fY f n d).isSome:=⟨n,by rw[h];rfl⟩;unfold bO;rw[dif_pos a];obtain⟨k,g⟩:=m6.1 a.choose_spec;rw[g];have j:=Sn h (Nat.le_max_left n a.choose);have e:=Sn g (Nat.le_max_right n a.choose);rw[j] at e;exact e.symm
def zR{c e:Type}{f:c->Option (c⊕e)}{d:c}{b:e}(a:bO f d=c4 b):∃g,fY f g d=c4 b:=by
 unfold bO at a
 split at a
 .exact⟨_,a⟩
 .cases a
def Qk{i m:Type}(f:i->Option (i⊕m))(e:i):bO f e=(f e).bind λa=>a.elim (bO f) c4:=by
 have k:∀b,bO f e=c4 b↔((f e).bind λa=>a.elim (bO f) c4)=c4 b:=by
  intro b
  constructor
  .intro d;obtain⟨n,g⟩:=zR d;cases n with
   |zero=>simp[fY] at g
   |succ n=>
    unfold fY at g;obtain⟨a,h,c⟩:=qQ g;rw[h];cases a with
    |inl j=>exact Cd (n:=n) c
    |inr l=>exact c
  .intro d;obtain⟨a,h,c⟩:=qQ d;cases a with
   |inl j=>
    obtain⟨n,g⟩:=zR (show bO f j=c4 b from c);refine Cd (n:=n+1) ?_
    unfold fY;rw[h];exact g
   |inr l=>
    refine Cd (n:=1) ?_
    unfold fY;rw[h];exact c
 cases d:bO f e with
 |none=>
  cases c:(f e).bind λa=>a.elim (bO f) c4 with
  |none=>rfl
  |some b=>rw[(k b).2 c] at d;cases d
 |some b=>exact((k b).1 d).symm
structure Lp where
 loop:{α β:Type}->(α->Option (α⊕β))->α->Option β
 ok:∀{α β:Type} (f:α->Option (α⊕β)) (a:α) (b:β),loop f a=c4 b->∃n,fY f n a=c4 b
@[reducible] noncomputable def LC:Lp:=⟨bO,λ_ _ _ a=>zR a⟩
@[reducible] def LN(a:Nat):Lp:=⟨λf c=>fY f a c,λ_ _ _ b=>⟨a,b⟩⟩
end Go.Aml
namespace Go.Bml
open Go
inductive PV:Type where
 |any
 |bool (b:Bool)
 |int (k:IntKind) (n:Int)
 |str (s:ByteArray)
 |fS
 |ptr (r v i j:Nat)
 |dw (cs:List PV) (j:Nat)
 |bg
 |z0
 |vs (sz:Nat) (es:List PV)
 |sl (r v off len:Nat)
 |fl (r v:Nat)
 |agg (cs:List PV)
 |bu (vs:List PV)
 |fn (f:Nat) (first cap:List PV)
 |dB
 deriving Inhabited
def PV.cells:PV->List PV
 | .agg a=>a
 |v=>[v]
def abk(c:List PV)(i b:Nat):Option PV:=(c[i]?).bind λa=>a.cells[b]?
structure aO where
 ty:Nat
 sz:Nat
 es:List PV
 aF:Nat
structure Gh where
 F:Nat->Prop
 β:Nat->Option (Nat×Nat)
inductive VI (F:Nat->Prop) (w:World):PV->Value->Prop
 |any (x:Value):VI F w .any x
 |bool (b:Bool):VI F w (.bool b) (.bool b)
 |int (k:IntKind) (n:Int):VI F w (.int k n) (.int k n)
 |str (s:ByteArray):VI F w (.str s) (.string s)
 |fS:VI F w .fS (.pointer c6)
 |bg:VI F w .bg (.slice c6 0 0)
 |z0 (a:Option Addr):VI F w .z0 (.slice a 0 0)
 |dB:VI F w .dB .nilFunc
 |dw (cs:List PV) (j b off:Nat) (u:Nat->Value) (hF:F b)
  (hc:∀(i:Nat) (c:PV),cs[i]?=c4 c->w.cell? ⟨b,off+i,c6⟩=c4 (u i))
  (h1:∀(i:Nat) (c:PV),cs[i]?=c4 c->(u i).oneCell'=true)
  (hv:∀(i:Nat) (c:PV),cs[i]?=c4 c->VI F w c (u i)):VI F w (.dw cs j) (.pointer (c4 ⟨b,off+j,c6⟩))
 |eX (sz:Nat) (a:Option Addr) (cap:Nat):VI F w (.vs sz []) (.slice a 0 cap)
 |vs (sz:Nat) (es:List PV) (b off cap:Nat) (u:Nat->Nat->Value) (hl:es.length<=cap) (hF:F b)
  (hsz:∀(i:Nat) (e:PV),es[i]?=c4 e->e.cells.length=sz)
  (hc:∀(i j:Nat) (c:PV),abk es i j=c4 c->w.cell? ⟨b,off+(i*sz+j),c6⟩=c4 (u i j))
  (h1:∀(i j:Nat) (c:PV),abk es i j=c4 c->(u i j).oneCell'=true)
  (hv:∀(i j:Nat) (c:PV),abk es i j=c4 c->VI F w c (u i j)):VI F w (.vs sz es) (.slice (c4 ⟨b,off,c6⟩) es.length cap)
 |agg (cs:List PV) (xs:List Value) (hl:cs.length=xs.length) (hv:∀(i:Nat) (c:PV) (x:Value),cs[i]?=c4 c->xs[i]?=c4 x->VI F w c x):VI F w (.agg cs) (.agg xs.toArray)
 |bu (cs:List PV) (xs:List Value) (hl:cs.length=xs.length) (hv:∀(i:Nat) (c:PV) (x:Value),cs[i]?=c4 c->xs[i]?=c4 x->VI F w c x):VI F w (.bu cs) (.tuple xs.toArray)
 |fn (f:Nat) (cs ds:List PV) (xs ys:List Value) (hl:cs.length=xs.length) (hv:∀(i:Nat) (c:PV) (x:Value),cs[i]?=c4 c->xs[i]?=c4 x->VI F w c x)
  (hl2:ds.length=ys.length) (hv2:∀(i:Nat) (c:PV) (x:Value),ds[i]?=c4 c->ys[i]?=c4 x->VI F w c x):VI F w (.fn f cs ds) (.func (.func f) xs.toArray ys.toArray)
def SL(g:Gh)(e:aO)(r c len:Nat)(d:Value):Prop:=
 c+len<=e.es.length/\
 match g.β r with
 |none=>c=0/\len=0/\∃a,d= .slice a 0 0
 |some (b,f)=>∃cap a,d= .slice a len cap/\len<=cap/\(len≠0->a=c4 ⟨b,c*e.sz,c6⟩)/\(c=0->a=c4 ⟨b,0,c6⟩/\cap=f)
inductive VR (g:Gh) (H:List aO) (w:World):PV->Value->Prop
 |aW {c:PV} {x:Value} (h:VI g.F w c x):VR g H w c x
 |ptr (r v i j:Nat) (o:aO) (a:Addr) (ho:H[r]?=c4 o) (hv:v<=o.aF)
  (ha:v=o.aF->i<o.es.length/\∃b C,g.β r=c4 (b,C)/\a=⟨b,i*o.sz+j,c6⟩):VR g H w (.ptr r v i j) (.pointer (c4 a))
 |sl (r v off len:Nat) (o:aO) (x:Value) (ho:H[r]?=c4 o) (hv:v<=o.aF) (h1:x.oneCell'=true) (hx:v=o.aF->SL g o r off len x):VR g H w (.sl r v off len) x
 |fl (r v:Nat) (o:aO) (x:Value) (ho:H[r]?=c4 o) (hv:v<=o.aF) (h1:x.oneCell'=true) (hx:v=o.aF->SL g o r 0 o.es.length x):VR g H w (.fl r v) x
 |agg (cs:List PV) (xs:List Value) (hl:cs.length=xs.length) (hv:∀(i:Nat) (c:PV) (x:Value),cs[i]?=c4 c->xs[i]?=c4 x->VR g H w c x):VR g H w (.agg cs) (.agg xs.toArray)
 |bu (cs:List PV) (xs:List Value) (hl:cs.length=xs.length) (hv:∀(i:Nat) (c:PV) (x:Value),cs[i]?=c4 c->xs[i]?=c4 x->VR g H w c x):VR g H w (.bu cs) (.tuple xs.toArray)
 |fn (f:Nat) (cs ds:List PV) (xs ys:List Value) (hl:cs.length=xs.length) (hv:∀(i:Nat) (c:PV) (x:Value),cs[i]?=c4 c->xs[i]?=c4 x->VR g H w c x)
  (hl2:ds.length=ys.length) (hv2:∀(i:Nat) (c:PV) (x:Value),ds[i]?=c4 c->ys[i]?=c4 x->VR g H w c x):VR g H w (.fn f cs ds) (.func (.func f) xs.toArray ys.toArray)
inductive cE (n:Nat):PV->Prop
 |any:cE n .any
 |bool (b:Bool):cE n (.bool b)
 |int (k:IntKind) (m:Int):cE n (.int k m)
 |str (s:ByteArray):cE n (.str s)
 |fS:cE n .fS
 |bg:cE n .bg
 |z0:cE n .z0
 |dB:cE n .dB
 |dw (cs:List PV) (j:Nat):cE n (.dw cs j)
 |vs (sz:Nat) (es:List PV):cE n (.vs sz es)
 |ptr (r v i j:Nat) (h:r<n):cE n (.ptr r v i j)
 |sl (r v off len:Nat) (h:r<n):cE n (.sl r v off len)
 |fl (r v:Nat) (h:r<n):cE n (.fl r v)
 |agg (cs:List PV) (h:∀c,c∈cs->cE n c):cE n (.agg cs)
 |bu (cs:List PV) (h:∀c,c∈cs->cE n c):cE n (.bu cs)
 |fn (f:Nat) (cs ds:List PV) (h:∀c,c∈cs->cE n c) (h2:∀c,c∈ds->cE n c):cE n (.fn f cs ds)
structure qT (g:Gh) (H:List aO) (w:World) (r:Nat) (o:aO):Prop where
 pos:0<o.sz
 width:∀(i:Nat) (e:PV),o.es[i]?=c4 e->e.cells.length=o.sz
 mem:match g.β r with
  |none=>o.es=[]
  |some (b,C)=>¬g.F b/\∃cells,w.heap[b]?=c4 (.cells cells o.ty (0,0))/\cells.size=C*o.sz/\C<=maxLen/\o.es.length<=C/\
   ∀(i j:Nat) (c:PV),abk o.es i j=c4 c->∃u,cells[i*o.sz+j]?=c4 u/\u.oneCell'=true/\VR g H w c u
structure bF (g:Gh) (H:List aO) (w:World):Prop where
 fb:∀b,g.F b->b<w.heap.size
 inj:∀r r' b C C',g.β r=c4 (b,C)->g.β r'=c4 (b,C')->r=r'
 m8:∀r b C,g.β r=c4 (b,C)->r<H.length
 obj:∀r o,H[r]?=c4 o->qT g H w r o
abbrev Env:=List (Nat×PV)
def look:Env->Nat->PV
 |[],_=>.any
 |(b,v)::r,a=>bif e4 b a then v else look r a
def jq:Value->PV
 | .bool b=>.bool b
 | .int a c=>.int a c
 | .string d=>.str d
 | .pointer c6=>.fS
 | .slice c6 0 0=>.bg
 | .nilFunc=>.dB
 |_=>.any
def kP:Value->PV
 | .agg a=>.agg (a.toList.map jq)
 |v=>jq v
def PE(b:Env):Operand->PV
 | .tmp a=>look b a
 | .const v=>kP v
 | .global _=>.any
 | .func f=>.fn f [] []
structure fI (g:Gh) (H:List aO) (w:World) (nt:Nat) (E:Env) (a:Act):Prop where
 defers:a.defers=[]
 size:a.tmps.size=nt
 at_:∀t,VR g H w (look E t) (a.tmps.getD t undef)
structure Rel (g:Gh) (nt:Nat) (E:Env) (H:List aO) (a:Act) (w:World):Prop where
 m:bF g H w
 e:fI g H w nt E a
structure GStep (n:Nat) (g:Gh) (H:List aO) (w:World) (g':Gh) (H':List aO) (w':World):Prop where
 os:w'.os=w.os
 tape:w'.tape=w.tape
 output:w'.output=w.output
 size:w.heap.size<=w'.heap.size
 F:∀b,g.F b->g'.F b
 jh:∀b,g.F b->w'.heap[b]?=w.heap[b]?
 rest:∀b,b<w.heap.size->(∀r C,g.β r≠c4 (b,C))->w'.heap[b]?=w.heap[b]?
 oY:∀b,g'.F b->g.F b\/w.heap.size<=b\/∃r C,g.β r=c4 (b,C)
 oZ:∀r b C,g'.β r=c4 (b,C)->w.heap.size<=b\/∃r' C',g.β r'=c4 (b,C')
 dF:∀r o,r<n->H[r]?=c4 o->∃o',H'[r]?=c4 o'/\o.aF<=o'.aF/\(o'.aF=o.aF->o'.sz=o.sz/\o'.es.length=o.es.length/\g'.β r=g.β r)
def GStep.refl(n:Nat)(g:Gh)(H:List aO)(a:World):GStep n g H a g H a:=
 ⟨rfl,rfl,rfl,ef _,λ_ h=>h,λ_ _=>rfl,λ_ _ _=>rfl,λ_ h=>.inl h,λr _ C h=>.inr ⟨r,C,h⟩,λ_ c _ h=>⟨c,h,ef _,λ_=>⟨rfl,rfl,rfl⟩⟩⟩
def GStep.trans{n:Nat}{g x l:Gh}{H o u:List aO}{s w' t:World}(h:GStep n g H s x o w')(k:GStep n x o w' l u t):GStep n g H s l u t:=by
 refine⟨k.os.trans h.os,k.tape.trans h.tape,k.output.trans h.output,hq h.size k.size,λb c=>k.F b (h.F b c),λb c=>(k.jh b (h.F b c)).trans (h.jh b c),λb c y=>?_,λb c=>?_,λr b C c=>?_,?_⟩
 .refine(k.rest b (l4 c h.size) λr C Q=>?_).trans (h.rest b c y)
  rcases h.oZ r b C Q with a |⟨m,j,a⟩
  .omega
  .exact y _ _ a
 .rcases k.oY b c with a |a |⟨r,C,a⟩
  .exact h.oY b a
  .exact .inr (.inl (hq h.size a))
  .exact .inr (h.oZ r b C a)
 .rcases k.oZ r b C c with a |⟨m,j,a⟩
  .exact .inl (hq h.size a)
  .exact h.oZ m b j a
 intro r A w E;obtain⟨d,F,O,K⟩:=h.dF r A w E;obtain⟨e,P,D,N⟩:=k.dF r d w F;refine⟨e,P,hq O D,λhe=>?_⟩
 have J:d.aF=A.aF:=by omega
 have M:e.aF=d.aF:=by omega
 obtain⟨a1,L,B⟩:=K J;obtain⟨I,R,G⟩:=N M;exact⟨I.trans a1,R.trans L,G.trans B⟩
def GStep.less{n m:Nat}{g d:Gh}{H a:List aO}{c w':World}(h:GStep n g H c d a w')(k:m<=n):GStep m g H c d a w':=
 ⟨h.os,h.tape,h.output,h.size,h.F,h.jh,h.rest,h.oY,h.oZ,λr e l j=>h.dF r e (by omega) j⟩
def GStep.every{n:Nat}{g d:Gh}{H a:List aO}{c w':World}(h:GStep H.length g H c d a w'):GStep n g H c d a w':=
 ⟨h.os,h.tape,h.output,h.size,h.F,h.jh,h.rest,h.oY,h.oZ,λr j _ e=>h.dF r j (c7.1 e).1 e⟩
def oW{e:Nat->Prop}{d f:World}(h:∀b,e b->f.heap[b]?=d.heap[b]?){b c:Nat}(g:e b):f.cell? ⟨b,c,c6⟩=d.cell? ⟨b,c,c6⟩:=
 World.cell?_of_block (a:=⟨b,c,c6⟩) (h b g)
def VI.mono{F D:Nat->Prop}{w E:World}(C:∀b,F b->D b)(B:∀b,F b->E.heap[b]?=w.heap[b]?){c:PV}{x:Value}(h:VI F w c x):VI D E c x:=by
 induction h with
 |any x=>exact .any x
 |bool b=>exact .bool b
 |int k n=>exact .int k n
 |str s=>exact .str s
 |fS=>exact .fS
 |bg=>exact .bg
 |z0 a=>exact .z0 a
 |dB=>exact .dB
 |dw e t b off y l A u o d=>exact .dw e t b off y (C b l) (λi c hi=>(oW B l).trans (A i c hi)) u d
 |eX sz a cap=>exact .eX sz a cap
 |vs sz es b off cap y j l H A u o d=>exact .vs sz es b off cap y j (C b l) H (λi t c hi=>(oW B l).trans (A i t c hi)) u d
 |agg e m j o d=>exact .agg e m j d
 |bu e m j o d=>exact .bu e m j d
 |fn f e J m K j o G L d I=>exact .fn f e J m K j d G I
def SL.step{g d:Gh}{c a:aO}{r off len:Nat}{x:Value}(h:SL g c r off len x)(j:a.sz=c.sz)(k:a.es.length=c.es.length)(e:d.β r=g.β r):SL d a r off len x:=by
 unfold SL at*;rw[j,k,e];exact h
def VR.step{n:Nat}{g g':Gh}{H N:List aO}{w O:World}(B:GStep n g H w g' N O){c:PV}{x:Value}(h:VR g H w c x)(m:cE n c):VR g' N O c x:=by
 induction h with
 |aW h=>exact .aW (h.mono B.F B.jh)
 |ptr r v i Q o a u k V=>
  cases m with
  |ptr _ _ _ _ I=>
   obtain⟨l,A,t,s⟩:=B.dF r o I u;refine .ptr r v i Q l a A (hq k t) λe=>?_
   have S:l.aF=o.aF:=by omega
   obtain⟨E,F,G⟩:=s S;obtain⟨hi,b,C,W,rfl⟩:=V (by omega);exact⟨by omega,b,C,G.trans W,by rw[E]⟩
 |sl r v off len o x u k M d=>
  cases m with
  |sl _ _ _ _ I=>
   obtain⟨l,A,t,s⟩:=B.dF r o I u;refine .sl r v off len l x A (hq k t) M λe=>?_
   obtain⟨E,F,G⟩:=s (by omega);exact(d (by omega)).step E F G
 |fl r v o x u k M d=>
  cases m with
  |fl _ _ I=>
   obtain⟨l,A,t,s⟩:=B.dF r o I u;refine .fl r v l x A (hq k t) M λe=>?_
   obtain⟨E,F,G⟩:=s (by omega);rw[F];exact(d (by omega)).step E F G
 |agg D K J k L=>
  cases m with
  |agg _ y=>exact .agg D K J λi c x j d=>L i c x j d (y c (dT j))
 |bu D K J k L=>
  cases m with
  |bu _ y=>exact .bu D K J λi c x j d=>L i c x j d (y c (dT j))
 |fn f D U K X J k P Y L T=>
  cases m with
  |fn _ _ _ y R=>exact .fn f D U K X J (λi c x j d=>L i c x j d (y c (dT j))) P (λi c x j d=>T i c x j d (R c (dT j)))
def VR.ltN{g:Gh}{H:List aO}{w:World}{c:PV}{x:Value}(h:VR g H w c x):cE H.length c:=by
 induction h with
 |aW h=>
  induction h with
  |any x=>exact .any
  |bool b=>exact .bool b
  |int k n=>exact .int k n
  |str s=>exact .str s
  |fS=>exact .fS
  |bg=>exact .bg
  |z0 a=>exact .z0
  |dB=>exact .dB
  |dw e u b off E F d y l j=>exact .dw e u
  |eX sz a cap=>exact .vs sz []
  |vs sz es b off cap E m F K d y l j=>exact .vs sz es
  |agg e t m l j=>
   refine .agg e λc d=>?_
   obtain⟨i,hi,rfl⟩:=ej d;exact j i _ _ (c5 hi) (c5 (by omega))
  |bu e t m l j=>
   refine .bu e λc d=>?_
   obtain⟨i,hi,rfl⟩:=ej d;exact j i _ _ (c5 hi) (c5 (by omega))
  |fn f e B t J m l D I j A=>
   refine .fn f e B (λc d=>?_) (λc d=>?_)
   .obtain⟨i,hi,rfl⟩:=ej d;exact j i _ _ (c5 hi) (c5 (by omega))
   .obtain⟨i,hi,rfl⟩:=ej d;exact A i _ _ (c5 hi) (c5 (by omega))
 |ptr r v i u C a o l L=>exact .ptr r v i u (c7.1 o).1
 |sl r v off len C x o l y G=>exact .sl r v off len (c7.1 o).1
 |fl r v C x o l y G=>exact .fl r v (c7.1 o).1
 |agg e t m l j=>
  refine .agg e λc d=>?_
  obtain⟨i,hi,rfl⟩:=ej d;exact j i _ _ (c5 hi) (c5 (by omega))
 |bu e t m l j=>
  refine .bu e λc d=>?_
  obtain⟨i,hi,rfl⟩:=ej d;exact j i _ _ (c5 hi) (c5 (by omega))
 |fn f e B t J m l D I j A=>
  refine .fn f e B (λc d=>?_) (λc d=>?_)
  .obtain⟨i,hi,rfl⟩:=ej d;exact j i _ _ (c5 hi) (c5 (by omega))
  .obtain⟨i,hi,rfl⟩:=ej d;exact A i _ _ (c5 hi) (c5 (by omega))
def VR.nZ{g g':Gh}{H d:List aO}{w a:World}(e:GStep H.length g H w g' d a){c:PV}{x:Value}(h:VR g H w c x):VR g' d a c x:=h.step e h.ltN
def fI.step{g e:Gh}{H c:List aO}{d k:World}{j:Nat}{E:Env}{a:Act}(l:GStep H.length g H d e c k)(h:fI g H d j E a):fI e c k j E a:=
 ⟨h.defers,h.size,λt=>(h.at_ t).nZ l⟩
def VR.any{g:Gh}{H:List aO}{w:World}(x:Value):VR g H w .any x:=.aW (.any x)
def KQ(a:Nat->Prop)(b:World)(v:Value):VI a b (jq v) v:=by
 unfold jq
 split <;> first |exact .bool _ |exact .int _ _ |exact .str _ |exact .fS |exact .bg |exact .dB |exact .any _
def AE(F:Nat->Prop)(w:World)(v:Value):VI F w (kP v) v:=by
 unfold kP
 split
 .rename_i b;have:=VI.agg (F:=F) (w:=w) (b.toList.map jq) b.toList (by simp) (λi e c a d=>by
   rw[e6,d] at a;simp at a;subst a;exact KQ F w c)
  simpa using this
 .exact KQ F w v
def fI.eval{g:Gh}{H:List aO}{c:World}{d:Nat}{E:Env}{a:Act}(h:fI g H c d E a)(x:Operand):VR g H c (PE E x) (a.eval x):=by
 cases x with
 |tmp t=>exact h.at_ t
 |const v=>exact .aW (AE _ _ _)
 |global b=>exact .any _
 |func f=>exact .aW (.fn f [] [] [] [] rfl (λ_ _ _ h=>by simp at h) rfl (λ_ _ _ h=>by simp at h))
def ni(a:Nat)(v:PV)(b:Env):look ((a,v)::b) a=v:=by simp[look]
def Ar{b a:Nat}(v:PV)(c:Env)(e:b≠a):look ((b,v)::c) a=look c a:=by
 have:e4 b a=false:=by
  cases d:e4 b a with
  |false=>rfl
  |true=>exact absurd (h5 d) e
 simp[look,this]
def fI.put{g:Gh}{H:List aO}{c:World}{e:Nat}{E:Env}{a:Act}(h:fI g H c e E a){d:Nat}(l:d<e){v:PV}{x:Value}(k:VR g H c v x):fI g H c e ((d,v)::E) (a.put (c4 d) x):=by
 refine⟨h.defers,by simp[r4,h.size],λt=>?_⟩
 by_cases ht:d=t
 .subst ht;rw[ni];have j:d<a.tmps.size:=by rw[h.size];exact l
  simpa[r4,j] using k
 .rw[Ar v E ht];have:=h.at_ t;simpa[r4,Array.getElem?_setIfInBounds_ne ht] using this
def li(a:Env):Option Nat->PV->Env
 |some b,v=>(b,v)::a
 |none,_=>a
def fL(a:Nat):Option Nat->Bool
 |some b=>m1 b a
 |none=>true
def fI.tn{g:Gh}{H:List aO}{e:World}{c:Nat}{E:Env}{a:Act}(h:fI g H e c E a){d:Option Nat}(j:fL c d=true){v:PV}{x:Value}(k:VR g H e v x):fI g H e c (li E d v) (a.put d x):=by
 cases d with
 |none=>exact h
 |some d=>exact h.put (by simpa[fL] using j) k
def vo:Env->Env->Prop
 |[],_=>True
 |(b,v)::r,a=>look a b=v/\vo r a
def vo.look{a E:Env}(h:vo a E)(t:Nat):look a t= .any\/look a t=look E t:=by
 induction a with
 |nil=>exact .inl rfl
 |cons p r e=>
  obtain⟨d,v⟩:=p
  by_cases c:d=t
  .subst c;rw[ni];exact .inr h.1.symm
  .rw[Ar v r c];exact e h.2
def fI.sub{g:Gh}{H:List aO}{d:World}{c:Nat}{E j:Env}{a:Act}(h:fI g H d c E a)(k:vo j E):fI g H d c j a:=
 ⟨h.defers,h.size,λt=>by
  rcases k.look t with e |e
  .rw[e];exact .any _
  .rw[e];exact h.at_ t⟩
abbrev qk:=Env->List aO->Prop
abbrev fE:=Exit->qk
def iX(nt n:Nat)(e:Gh)(H0:List aO)(b:World)(c:qk)(d:Act)(a:World):Prop:=
 ∃E H g,c E H/\Rel g nt E H d a/\GStep n e H0 b g H a
def eI(nt n:Nat)(c:Gh)(H0:List aO)(d:World)(Q:fE):Exit->Act->World->Prop
 | .panic _,_,_=>False
 | .outgrown,_,_=>False
 | .normal,b,a=>iX nt n c H0 d (Q .normal) b a
 | .ret,b,a=>iX nt n c H0 d (Q .ret) b a
 | .exit e,b,a=>iX nt n c H0 d (Q (.exit e)) b a
 | .goto f,b,a=>iX nt n c H0 d (Q (.goto f)) b a
def iX.trans{nt n:Nat}{l d:Gh}{H0 H1:List aO}{j e:World}{k:qk}{a:Act}{c:World}(o:GStep n l H0 j d H1 e)(h:iX nt n d H1 e k a c):iX nt n l H0 j k a c:=by
 obtain⟨E,H,g,s,t,m⟩:=h;exact⟨E,H,g,s,t,o.trans m⟩
def eI.trans{nt n:Nat}{l d:Gh}{H0 H1:List aO}{k j:World}{Q:fE}{e:Exit}{a:Act}{c:World}(m:GStep n l H0 k d H1 j)(h:eI nt n d H1 j Q e a c):eI nt n l H0 k Q e a c:=by
 cases e <;> first |exact iX.trans m h |exact h
def iX.mono{nt n:Nat}{k:Gh}{H0:List aO}{e:World}{j d:qk}{a:Act}{c:World}(o:∀E H,j E H->d E H)(h:iX nt n k H0 e j a c):iX nt n k H0 e d a c:=by
 obtain⟨E,H,g,m,s,l⟩:=h;exact⟨E,H,g,o _ _ m,s,l⟩
def eT(P:Program)(nt n:Nat)(h:Code)(Q:fE)(E:Env)(H:List aO):Prop:=
 ∀g e a,Rel g nt E H e a->∀f:Exit->Act->World->Prop,(∀c b d,eI nt n g H a Q c b d->f c b d)->h.wp P f e a
def gp(P:Program)(nt n:Nat)(h:Array Oper)(i:List Oper)(Q:fE)(E:Env)(H:List aO):Prop:=
 ∀g e a,Rel g nt E H e a->∀f:Exit->Act->World->Prop,(∀c b d,eI nt n g H a Q c b d->f c b d)->wpList P h f i e a
@[reducible] def Ce(c:qk)(Q:fE):fE
 | .normal=>c
 | .exit b=>Q (.exit b)
 | .goto a=>Q (.goto a)
 | .ret=>Q .ret
 | .panic d=>Q (.panic d)
 | .outgrown=>Q .outgrown
@[reducible] def EY(d:Nat)(Q:fE):fE
 | .exit a=>bif e4 a d then Q .normal else Q (.exit a)
 | .normal=>Q .normal
 | .goto c=>Q (.goto c)
 | .ret=>Q .ret
 | .panic b=>Q (.panic b)
 | .outgrown=>Q .outgrown
section
variable {P:Program}{nt n:Nat}{Q:fE}{E:Env}{H:List aO}
def eT.mono{c:Code}{d:fE}(k:∀e E H,Q e E H->d e E H)(h:eT P nt n c Q E H):eT P nt n c d E H:=
 λg a o u t l=>h g a o u t λe m s j=>l e m s (by cases e <;> first |exact iX.mono (k _) j |exact j)
def rN{e d:Code}(o:eT P nt n e (Ce (eT P nt n d Q) Q) E H):eT P nt n (.seq e d) Q E H:=by
 intro g u m q j b;refine wp_seq (o g u m q _ ?_)
 intro c r t a;cases c with
 |normal=>
  obtain⟨v,y,s,i,h,f⟩:=a;exact i s r t h j λc l p k=>b c l p (eI.trans f k)
 |exit z=>exact b _ _ _ a
 |goto x=>exact b _ _ _ a
 |ret=>exact b _ _ _ a
 |panic w=>exact a.elim
 |outgrown=>exact a.elim
def amF(c:Q .normal E H):eT P nt n .skip Q E H:=
 λg _ _ b _ a=>wp_skip (a .normal _ _ ⟨E,H,g,c,b,GStep.refl _ _ _ _⟩)
def apz(c:Q .ret E H):eT P nt n .ret Q E H:=
 λg _ _ b _ a=>wp_ret (a .ret _ _ ⟨E,H,g,c,b,GStep.refl _ _ _ _⟩)
def V4{a:Nat}(d:Q (.exit a) E H):eT P nt n (.exit a) Q E H:=
 λg _ _ c _ b=>wp_exit (b (.exit a) _ _ ⟨E,H,g,d,c,GStep.refl _ _ _ _⟩)
def agH{a:Nat}(d:Q .normal E H):eT P nt n (.label a) Q E H:=
 λg _ _ c _ b=>wp_label (b .normal _ _ ⟨E,H,g,d,c,GStep.refl _ _ _ _⟩)
def aht{a:Code}(b:Env)(h:vo b E)(f:eT P nt n a Q b H):eT P nt n a Q E H:=
 λg i e c j d=>f g i e ⟨c.m,c.e.sub h⟩ j d
def Ta{b:Nat}{f:Code}(l:eT P nt n f (EY b Q) E H):eT P nt n (.block b f) Q E H:=by
 intro g m i o q c;refine wp_block (l g m i o _ ?_)
 intro k p r a;cases k with
 |exit d=>
  simp only[eI,EY] at a
  by_cases e:d=b
  .have h:e4 d b=true:=by rw[e];exact k7 b
   rw[h] at a;simp only[qa,e,if_true];exact c .normal _ _ a
  .have h:e4 d b=false:=by
    cases j:e4 d b with
    |false=>rfl
    |true=>exact absurd (h5 j) e
   rw[h] at a;simp only[qa,e,if_false];exact c (.exit d) _ _ a
 |normal=>exact c _ _ _ a
 |goto s=>exact c _ _ _ a
 |ret=>exact c _ _ _ a
 |panic f=>exact a.elim
 |outgrown=>exact a.elim
def adk{a:Operand}{j k:Code}{b:Bool}(o:PE E a= .bool b)(r:b=true->eT P nt n j Q E H)(p:b=false->eT P nt n k Q E H):eT P nt n (.cond a j k) Q E H:=by
 intro g c i f l h;have e:=f.e.eval a;rw[o] at e;have m:c.eval a= .bool b:=by
  generalize c.eval a=z at e;cases e with
  |aW q=>cases q;rfl
 exact wp_cond_split m (λd=>r d g c i f l h) (λd=>p d g c i f l h)
def Lc{id:Nat}{a:List Oper}(d:gp P nt n a.toArray a Q E H):eT P nt n (.region id a.toArray false) Q E H:=
 λg e c f h b=>wp_region_lit (d g e c f h b)
def Of{c:Array Oper}(d:Q .normal E H):gp P nt n c [] Q E H:=
 λg e b f _ a=>wpList_nil (a .normal e b ⟨E,H,g,d,f,GStep.refl _ _ _ _⟩)
def Hk(P:Program)(nt n:Nat)(f:Oper)(h:qk)(E:Env)(H:List aO):Prop:=
 ∀g e a,Rel g nt E H e a->∀(d:Act->World->Prop) (i:Exit->Act->World->Prop),(∀b c,iX nt n g H a h b c->d b c)->f.wp P e a d i
def KR{d:Array Oper}{f:List Oper}{c:Oper}{K:qk}(q:c.guard=c6)(t:Hk P nt n c K E H)(l:∀a b,K a b->gp P nt n d f Q a b):gp P nt n d (c::f) Q E H:=by
 intro g A r w e y;refine wpList_plain q λv m=>t g A r w v e ?_
 rintro h i ⟨a,b,z,o,k,j⟩;exact m h i (l a b o z h i k e λs p u x=>y s p u (eI.trans j x))
def cM(P:Program)(d:Oper)(E:Env)(H:List aO)(v:PV):Prop:=
 ∀g nt b a,Rel g nt E H b a->∃c,(execOp b.eval d).run P a= .ok (.value c) a/\VR g H a v c
def aiu{a:Oper}{v:PV}(j:fL nt a.dst=true)(e:cM P a E H v):Hk P nt n a (λh c=>h=li E a.dst v/\c=H) E H:=by
 intro g k d b o p l;obtain⟨m,i,f⟩:=e g nt k d b;unfold n0;rw[i];exact l _ _ ⟨_,H,g,⟨rfl,rfl⟩,⟨b.m,b.e.tn j f⟩,GStep.refl _ _ _ _⟩
def aae{b:Array Oper}{f:List Oper}{a:Option Nat}{d:Op}{c:TypeId}{e:String}{g:Array Edge}{v:PV}(h:cM P ⟨a,d,c,e,g,c6⟩ E H v)(i:fL nt a=true)
 (j:gp P nt n b f Q (li E a v) H):gp P nt n b (⟨a,d,c,e,g,c6⟩::f) Q E H:=
 KR rfl (aiu i h) (by rintro l k ⟨rfl,rfl⟩;exact j)
def Sk{c:Array Oper}{k:List Oper}{f:Option Nat}{r:Op}{q:TypeId}{l:String}{s:Array Edge}{e:Nat}{j b:Bool}{a:Nat}
 (F:(c[e]?).bind (·.dst)=c4 a) (G:look E a= .bool b) (B:b≠j) (t:fL nt f=true)
 (u:gp P nt n c k Q (li E f (.bu [])) H):gp P nt n c (⟨f,r,q,l,s,c4 (e,j)⟩::k) Q E H:=by
 intro g d y i v D;have o:=i.e.at_ a;rw[G] at o;have h:d.tmps.getD a undef= .bool b:=by
  cases o with
  |aW m=>generalize d.tmps.getD a undef=z at m;cases m;rfl
 have C:yielded c d.tmps e=c4 b:=by
  unfold yielded;rw[F];simp only[hU];rcases oq a d.tmps.size with p |x
  .simp[p] at h;simp[p,h]
  .simp[k8 x,undef] at h
 refine wpList_step λI w=>?_
 have A:ih (⟨f,r,q,l,s,c4 (e,j)⟩:Oper) (yielded c d.tmps)=false:=by
  simp[ih,C];exact B
 rw[A];simp only[oj,if_false];exact w _ _ (u g _ y ⟨i.m,i.e.tn t (.aW (.bu [] [] rfl (by simp)))⟩ v D)
def MO{b:Array Oper}{k:List Oper}{e:Option Nat}{q:Op}{p:TypeId}{l:String}{s:Array Edge}{d:Nat}{r:Bool}{a:Nat}
 (F:(b[d]?).bind (·.dst)=c4 a) (G:look E a= .bu []) (t:fL nt e=true)
 (u:gp P nt n b k Q (li E e (.bu [])) H):gp P nt n b (⟨e,q,p,l,s,c4 (d,r)⟩::k) Q E H:=by
 intro g c y h v D;have f:=h.e.at_ a;rw[G] at f;have m:c.tmps.getD a undef= .tuple #[]:=by
  generalize c.tmps.getD a undef=z at f;cases f with
  |aW B=>
   cases B with
   |bu _ j i _=>
    have:j=[]:=e5 (by rw[<-i];rfl);rw[this]
  |bu _ j i _=>
   have:j=[]:=e5 (by rw[<-i];rfl);rw[this]
 have C:yielded b c.tmps d=c6:=by
  unfold yielded;rw[F];simp only[hU];rcases oq a c.tmps.size with o |x
  .simp[o] at m;simp[o,m]
  .simp[k8 x]
 refine wpList_step λI w=>?_
 have A:ih (⟨e,q,p,l,s,c4 (d,r)⟩:Oper) (yielded b c.tmps)=false:=by
  simp[ih,C]
 rw[A];simp only[oj,if_false];exact w _ _ (u g _ y ⟨h.m,h.e.tn t (.aW (.bu [] [] rfl (by simp)))⟩ v D)
def S7{c:Array Oper}{m:List Oper}{f:Option Nat}{k:Op}{j:TypeId}{h:String}{l:Array Edge}{e:Nat}{d:Bool}{a:Nat}
 (A:(c[e]?).bind (·.dst)=c4 a) (B:look E a= .bool d)
 (s:gp P nt n c (⟨f,k,j,h,l,c6⟩::m) Q E H):gp P nt n c (⟨f,k,j,h,l,c4 (e,d)⟩::m) Q E H:=by
 intro g b v q t y;have p:=q.e.at_ a;rw[B] at p;have i:b.tmps.getD a undef= .bool d:=by
  cases p with
  |aW o=>generalize b.tmps.getD a undef=z at o;cases o;rfl
 have x:yielded c b.tmps e=c4 d:=by
  unfold yielded;rw[A];simp only[hU];rcases oq a b.tmps.size with r |u
  .simp[r] at i;simp[r,i]
  .simp[k8 u,undef] at i
 have w:ih (⟨f,k,j,h,l,c4 (e,d)⟩:Oper) (yielded c b.tmps)=true:=by
  simp[ih,x]
 have:=s g b v q t y;unfold wpList at this⊢;rw[w];simp only[ih,if_true] at this⊢;exact this
def fJ(P:Program)(h:Oper)(E:Env)(H:List aO)(j:PV->List aO->Prop):Prop:=
 ∀g nt e c,Rel g nt E H e c->∀(i:Act->World->Prop) (k:Exit->Act->World->Prop),
  (∀f b d v a,j v a->VR d a b v f->bF d a b->GStep H.length g H c d a b->i (e.put h.dst f) b)->h.wp P e c i k
def Sz{d:Array Oper}{e:List Oper}{a:Option Nat}{k:Op}{j:TypeId}{h:String}{l:Array Edge}{K:PV->List aO->Prop}(c:fJ P ⟨a,k,j,h,l,c6⟩ E H K)(m:fL nt a=true)
 (o:∀v b,K v b->gp P nt n d e Q (li E a v) b):gp P nt n d (⟨a,k,j,h,l,c6⟩::e) Q E H:=by
 refine KR (K:=λt H1=>∃v,t=li E a v/\K v H1) rfl ?_ (by rintro _ _ ⟨v,rfl,c⟩;exact o _ _ c)
 intro g z s i w p q;refine c g nt z s i w p ?_
 intro A B x v b r u y f;exact q _ _ ⟨_,b,x,⟨v,rfl,r⟩,⟨y,(i.e.step f).tn m u⟩,f.every⟩
end
section
variable {g:Gh}{H:List aO}{w:World}{x:Value}
def VR.n5{b:Bool}(h:VR g H w (.bool b) x):x= .bool b:=by cases h with |aW h=>cases h;rfl
def VR.fQ{k:IntKind}{n:Int}(h:VR g H w (.int k n) x):x= .int k n:=by cases h with |aW h=>cases h;rfl
def VR.pF(h:VR g H w .bg x):x= .slice c6 0 0:=by cases h with |aW h=>cases h;rfl
def VR.rh(h:VR g H w .z0 x):∃a,x= .slice a 0 0:=by cases h with |aW h=>cases h;exact⟨_,rfl⟩
def VR.ky{j:List PV}(h:VR g H w (.agg j) x):∃a:List Value,x= .agg a.toArray/\j.length=a.length/\∀(i:Nat) (c:PV) (y:Value),j[i]?=c4 c->a[i]?=c4 y->VR g H w c y:=by
 cases h with
 |aW h=>cases h with |agg _ a l e=>exact⟨a,rfl,l,λi c y o s=>.aW (e i c y o s)⟩
 |agg _ a l e=>exact⟨a,rfl,l,e⟩
def VR.Db{j:List PV}(h:VR g H w (.bu j) x):∃a:List Value,x= .tuple a.toArray/\j.length=a.length/\∀(i:Nat) (c:PV) (y:Value),j[i]?=c4 c->a[i]?=c4 y->VR g H w c y:=by
 cases h with
 |aW h=>cases h with |bu _ a l e=>exact⟨a,rfl,l,λi c y o s=>.aW (e i c y o s)⟩
 |bu _ a l e=>exact⟨a,rfl,l,e⟩
def VR.bool(b:Bool):VR g H w (.bool b) (.bool b):=.aW (.bool b)
def VR.int(k:IntKind)(n:Int):VR g H w (.int k n) (.int k n):=.aW (.int k n)
end
def dP(P:Program)(t:TypeId):Option Bool:=(P.underlying t).map λ| .struct _ | .array _ _=>true |_=>false
def cH(P:Program)(t:TypeId):Option Nat:=(P.info? t).map (·.size)
def nU(P:Program)(t:TypeId)(f:Nat):Option (TypeId×Nat):=match P.underlying t with |some (.struct a)=>(a[f]?).map λx=>(x.type,x.offset) |_=>c6
def dU(P:Program)(t:TypeId):Option TypeId:=match P.underlying t with |some (.slice a)=>c4 a |_=>c6
def pk(P:Program)(t:TypeId):Option (Nat×TypeId):=match P.underlying t with |some (.array n a)=>c4 (n,a) |_=>c6
def dV(P:Program)(t:TypeId):Option Value:=(P.info? t).bind (·.zero)
def yi(P:Program)(t:TypeId):Option IntKind:=match P.underlying t with |some (.int k)=>c4 k |_=>c6
def sr(P:Program)(t:TypeId):Bool:=match P.underlying t with |some .bool=>true |_=>false
section
variable {P:Program}{w:World}
def o5{t:TypeId}{b:Bool}(a:dP P t=c4 b):(isAgg t).run P w= .ok b w:=by
 unfold dP at a;cases c:P.underlying t with
 |none=>simp[c] at a
 |some d=>
  rw[c] at a;unfold isAgg;rw[gb,run_underlying c];cases d <;> simp at a <;> subst a <;> rfl
def run_sizeOf{t:TypeId}{n:Nat}(a:cH P t=c4 n):(sizeOf t).run P w= .ok n w:=by
 unfold cH at a;cases b:P.info? t with
 |none=>simp[b] at a
 |some i=>
  simp[b] at a;simp[sizeOf,typeInfo,b,a]
def Ey{t:TypeId}{v:Value}(a:dV P t=c4 v):(zeroValue t).run P w= .ok v w:=by
 unfold dV at a;cases b:P.info? t with
 |none=>simp[b] at a
 |some i=>
  simp[b] at a;simp[zeroValue,typeInfo,b,a]
def gD{t a:TypeId}(b:dU P t=c4 a):P.underlying t=c4 (.slice a):=by
 unfold dU at b
 split at b <;> simp_all
def anQ{t:TypeId}{k:IntKind}(a:yi P t=c4 k):P.underlying t=c4 (.int k):=by
 unfold yi at a
 split at a <;> simp_all
def Kn{t a:TypeId}{n:Nat}(b:pk P t=c4 (n,a)):P.underlying t=c4 (.array n a):=by
 unfold pk at b
 split at b <;> simp_all
def aiw{t:TypeId}(a:sr P t=true):P.underlying t=c4 .bool:=by
 unfold sr at a
 split at a <;> simp_all
def E4{t:TypeId}{f:Nat}{i h:Nat}(a:nU P t f=c4 (i,h)):∃(b:Array Field) (c:Field),P.underlying t=c4 (.struct b)/\b[f]?=c4 c/\c.type=i/\c.offset=h:=by
 unfold nU at a
 split at a
 .rename_i b j;cases e:b[f]? with
  |none=>simp[e] at a
  |some c=>
   simp[e] at a;exact⟨b,c,j,e,a.1,a.2⟩
 .simp at a
end
def ek(H:List aO)(r:Nat)(a:aO):Prop:=H[r]?=c4 a
section
variable {P:Program}{E:Env}{H:List aO}{d:Option Nat}{ty:TypeId}{pos:String}{aft:Array Edge}{gd:Option (Nat×Bool)}{x y z:Operand}{t:TypeId}
def Pt:cM P ⟨d,.move x,ty,pos,aft,gd⟩ E H (PE E x):=λ_ _ b _ a=>⟨b.eval x,rfl,a.e.eval x⟩
def aks:cM P ⟨d,.assign x,ty,pos,aft,gd⟩ E H (PE E x):=λ_ _ b _ a=>⟨b.eval x,rfl,a.e.eval x⟩
def aik{v:PV}(a:PE E x=v):cM P ⟨d,.move x,ty,pos,aft,gd⟩ E H v:=a▸Pt
def ak6{v:PV}(a:PE E x=v):cM P ⟨d,.assign x,ty,pos,aft,gd⟩ E H v:=a▸aks
def Zu{b:Bool}(f:PE E z= .bool b):cM P ⟨d,.pick z x y,ty,pos,aft,gd⟩ E H (bif b then PE E x else PE E y):=by
 intro g h e w a;have c:=(f▸a.e.eval z).n5;cases b
 .exact⟨e.eval y,by simp[execOp,c,asBool],a.e.eval y⟩
 .exact⟨e.eval x,by simp[execOp,c,asBool],a.e.eval x⟩
def yw{b:BinOp}{yt:TypeId}{e v:PV}{a c rv:Value}{p:PV}(q:PE E x=e)(u:PE E y=v)(s:∀(g:Gh) (H:List aO) (w:World) (z:Value),VR g H w e z->z=a)(l:∀(g:Gh) (H:List aO) (w:World) (z:Value),VR g H w v z->z=c)
 (i:eqGuard b t x y a c=pure ()) (h:∀w,(binOp b t a c).run P w= .ok rv w) (o:∀(g:Gh) (H:List aO) (w:World),VR g H w p rv):cM P ⟨d,.binOp b t x y yt,ty,pos,aft,gd⟩ E H p:=by
 intro g B C w f;have A:=s _ _ _ _ (q▸f.e.eval x);have j:=l _ _ _ _ (u▸f.e.eval y);exact⟨rv,by simp[execOp,A,j,i,h],o _ _ _⟩
section ints
variable {yt:TypeId}{k:IntKind}{m n r:Int}
def ka{b:BinOp}{rv:Value}{p:PV}(f:PE E x= .int k m)(h:PE E y= .int k n)(c:∀w,(binOp b t (.int k m) (.int k n)).run P w= .ok rv w)(e:∀(g:Gh) (H:List aO) (w:World),VR g H w p rv):
 cM P ⟨d,.binOp b t x y yt,ty,pos,aft,gd⟩ E H p:=
 yw f h (λ_ _ _ _ a=>a.fQ) (λ_ _ _ _ a=>a.fQ) (eqGuard_at_int b t x y _ k m) c e
def Vz(b:PE E x= .int k m)(c:PE E y= .int k n)(a:k.wrap (m+n)=r):cM P ⟨d,.binOp .add t x y yt,ty,pos,aft,gd⟩ E H (.int k r):=
 ka b c (λw=>by simp[binOp,o4,a]) λ_ _ _=>.int k r
def Zh(b:PE E x= .int k m)(c:PE E y= .int k n)(a:k.wrap (m -n)=r):cM P ⟨d,.binOp .sub t x y yt,ty,pos,aft,gd⟩ E H (.int k r):=
 ka b c (λw=>by simp[binOp,o4,a]) λ_ _ _=>.int k r
def acd(b:PE E x= .int k m)(c:PE E y= .int k n)(a:k.wrap (m*n)=r):cM P ⟨d,.binOp .mul t x y yt,ty,pos,aft,gd⟩ E H (.int k r):=
 ka b c (λw=>by simp[binOp,o4,a]) λ_ _ _=>.int k r
def ae6(b:PE E x= .int k m)(c:PE E y= .int k n)(h0:n≠0)(a:k.wrap (m.tdiv n)=r):cM P ⟨d,.binOp .quo t x y yt,ty,pos,aft,gd⟩ E H (.int k r):=
 ka b c (λw=>by simp[binOp,Op.intDiv,h0,a]) λ_ _ _=>.int k r
def ahN(b:PE E x= .int k m)(c:PE E y= .int k n)(h0:n≠0)(a:m.tmod n=r):cM P ⟨d,.binOp .rem t x y yt,ty,pos,aft,gd⟩ E H (.int k r):=
 ka b c (λw=>by simp[binOp,Op.intDiv,h0,a]) λ_ _ _=>.int k r
def akz(b:PE E x= .int k m)(c:PE E y= .int k n)(a:bits .and k m n=r):cM P ⟨d,.binOp .and t x y yt,ty,pos,aft,gd⟩ E H (.int k r):=
 ka b c (λw=>by rw[binOp_and,intBits_and,a];rfl) λ_ _ _=>.int k r
def YI(b:PE E x= .int k m)(c:PE E y= .int k n)(a:bits .or k m n=r):cM P ⟨d,.binOp .or t x y yt,ty,pos,aft,gd⟩ E H (.int k r):=
 ka b c (λw=>by rw[binOp_or,intBits_or,a];rfl) λ_ _ _=>.int k r
def abR(b:PE E x= .int k m)(c:PE E y= .int k n)(a:bits .xor k m n=r):cM P ⟨d,.binOp .xor t x y yt,ty,pos,aft,gd⟩ E H (.int k r):=
 ka b c (λw=>by rw[binOp_xor,intBits_xor,a];rfl) λ_ _ _=>.int k r
def aeA(b:PE E x= .int k m)(c:PE E y= .int k n)(a:bits .andNot k m n=r):cM P ⟨d,.binOp .andNot t x y yt,ty,pos,aft,gd⟩ E H (.int k r):=
 ka b c (λw=>by rw[binOp_andNot,intBits_andNot,a];rfl) λ_ _ _=>.int k r
def ahs(a:PE E x= .int k m)(b:PE E y= .int k n):cM P ⟨d,.binOp .lss t x y yt,ty,pos,aft,gd⟩ E H (.bool (c3 (m<n))):=
 ka a b (λw=>by rw[binOp_lss];rfl) λ_ _ _=>.bool _
def aj5(a:PE E x= .int k m)(b:PE E y= .int k n):cM P ⟨d,.binOp .leq t x y yt,ty,pos,aft,gd⟩ E H (.bool (c3 (m<=n))):=
 ka a b (λw=>by rw[binOp_leq];rfl) λ_ _ _=>.bool _
def amQ(a:PE E x= .int k m)(b:PE E y= .int k n):cM P ⟨d,.binOp .gtr t x y yt,ty,pos,aft,gd⟩ E H (.bool (c3 (n<m))):=
 ka a b (λw=>by rw[binOp_gtr];rfl) λ_ _ _=>.bool _
def abe(a:PE E x= .int k m)(b:PE E y= .int k n):cM P ⟨d,.binOp .geq t x y yt,ty,pos,aft,gd⟩ E H (.bool (c3 (n<=m))):=
 ka a b (λw=>by rw[binOp_geq];rfl) λ_ _ _=>.bool _
def aea(a:PE E x= .int k m)(c:PE E y= .int k n):cM P ⟨d,.binOp .eql t x y yt,ty,pos,aft,gd⟩ E H (.bool (c3 (m=n))):=
 ka a c (λw=>by rw[binOp_eql,hz]) λg H w=>by
  have:(m==n)=c3 (m=n):=by by_cases b:m=n <;> simp[b]
  rw[this];exact .bool _
def ajI(a:PE E x= .int k m)(c:PE E y= .int k n):cM P ⟨d,.binOp .neq t x y yt,ty,pos,aft,gd⟩ E H (.bool (c3 (m≠n))):=
 ka a c (λw=>by rw[binOp_neq,hz]) λg H w=>by
  have:(m != n)=c3 (m≠n):=by by_cases b:m=n <;> simp[b,bne]
  rw[this];exact .bool _
def apg{e:IntKind}(c:PE E x= .int k m)(f:PE E y= .int e n)(h0:0<=n)(b:k.wrap (m*2^ (min n.toNat k.bits))=r):cM P ⟨d,.binOp .shl t x y yt,ty,pos,aft,gd⟩ E H (.int k r):=
 yw c f (λ_ _ _ _ a=>a.fQ) (λ_ _ _ _ a=>a.fQ) (eqGuard_at_int _ t x y _ k m)
  (λw=>by rw[binOp_shl];unfold Op.shift;rw[if_neg (by omega)];simp only[b];rfl) λ_ _ _=>.int k r
def abz{e:IntKind}(c:PE E x= .int k m)(f:PE E y= .int e n)(h0:0<=n)(b:m.fdiv (2^ (min n.toNat k.bits))=r):cM P ⟨d,.binOp .shr t x y yt,ty,pos,aft,gd⟩ E H (.int k r):=
 yw c f (λ_ _ _ _ a=>a.fQ) (λ_ _ _ _ a=>a.fQ) (eqGuard_at_int _ t x y _ k m)
  (λw=>by rw[binOp_shr];unfold Op.shift;rw[if_neg (by omega)];simp only[b];rfl) λ_ _ _=>.int k r
def ajc(b:PE E x= .int k m)(a:k.wrap (0 -m)=r):cM P ⟨d,.unOp .neg t x,ty,pos,aft,gd⟩ E H (.int k r):=by
 intro g f h w c;have e:=(b▸c.e.eval x).fQ;exact⟨.int k r,by simp only[execOp,e,Op.unary,o4,a];rfl,.int k r⟩
def aoQ{c b:TypeId}{j:IntKind}(h:PE E x= .int j m)(a:(P.underlying c).isSome=true)(i:yi P b=c4 k)(f:k.wrap m=r):cM P ⟨d,.convert c b x,ty,pos,aft,gd⟩ E H (.int k r):=by
 intro g o q w l;have e:=(h▸l.e.eval x).fQ;obtain⟨p,a⟩:=m6.1 a;refine⟨.int k r,?_,.int k r⟩
 simp[execOp,e,convert,run_underlying a,run_underlying (anQ i),Conv.intToInt,f]
end ints
def rd_not{b:Bool}(a:PE E x= .bool b):cM P ⟨d,.unOp .not t x,ty,pos,aft,gd⟩ E H (.bool (!b)):=by
 intro g f h w c;have e:=(a▸c.e.eval x).n5;exact⟨.bool !b,by simp only[execOp,e,Op.unary];rfl,.bool _⟩
def run_equal_bool{t:TypeId}(c:sr P t=true)(w:World)(b a:Bool):(mx t (.bool b) (.bool a)).run P w= .ok (b==a) w:=by
 have e:∀n,(j9 (n+1) t (.bool b) (.bool a)).run P w= .ok (b==a) w:=λn=>by simp[j9,run_underlying (aiw c)]
 exact e 9999
def abj{yt:TypeId}{b a:Bool}(f:PE E x= .bool b)(h:PE E y= .bool a)(e:sr P t=true):cM P ⟨d,.binOp .eql t x y yt,ty,pos,aft,gd⟩ E H (.bool (b==a)):=
 yw f h (λ_ _ _ _ c=>c.n5) (λ_ _ _ _ c=>c.n5) (eqGuard_at_bool _ t x y _ b)
  (λw=>by simp only[binOp];simp[run_equal_bool e w b a]) λ_ _ _=>.bool _
def ai2{yt:TypeId}{b a:Bool}(f:PE E x= .bool b)(h:PE E y= .bool a)(e:sr P t=true):cM P ⟨d,.binOp .neq t x y yt,ty,pos,aft,gd⟩ E H (.bool (b != a)):=
 yw f h (λ_ _ _ _ c=>c.n5) (λ_ _ _ _ c=>c.n5) (eqGuard_at_bool _ t x y _ b)
  (λw=>by simp only[binOp];simp only[gb,run_equal_bool e w b a,ez,hz];rfl) λ_ _ _=>.bool _
def aiG{vs:List PV}{i:Nat}{v:PV}(f:PE E x= .bu vs)(b:vs[i]?=c4 v):cM P ⟨d,.extract x i,ty,pos,aft,gd⟩ E H v:=by
 intro g o p w h;obtain⟨a,l,j,e⟩:=(f▸h.e.eval x).Db;have c:i<a.length:=by rw[<-j];exact(c7.1 b).1
 refine⟨a[i],?_,e i v _ b (c5 c)⟩
 simp[execOp,l,Instr.extract,c]
def aam{b:List PV}{f:Nat}{a i:Nat}{v:PV}(u:PE E x= .agg b)(C:nU P t f=c4 (a,i))(q:dP P a=c4 false)(c:b[i]?=c4 v):
 cM P ⟨d,.field t x f,ty,pos,aft,gd⟩ E H v:=by
 intro g F G w A;obtain⟨h,l,B,o⟩:=(u▸A.e.eval x).ky;obtain⟨D,j,p,s,rfl,rfl⟩:=E4 C;have e:j.offset<h.length:=by rw[<-B];exact(c7.1 c).1
 refine⟨h[j.offset],?_,o _ v _ c (c5 e)⟩
 simp[execOp,l,r3,run_underlying p,s,asAgg,part,o5 q,e]
def T8{e:List PV}{f:Nat}{c j n:Nat}{h:List PV}(B:PE E x= .agg e)(I:nU P t f=c4 (c,j))(u:dP P c=c4 true)(q:cH P c=c4 n)(A:(e.drop j).take n=h):
 cM P ⟨d,.field t x f,ty,pos,aft,gd⟩ E H (.agg h):=by
 intro g L M w D;obtain⟨G,l,F,o⟩:=(B▸D.e.eval x).ky;obtain⟨K,J,s,v,rfl,rfl⟩:=E4 I;subst A;refine⟨.agg ((G.drop J.offset).take n).toArray,?_,.agg _ _ (by simp[F]) λi p y a b=>?_⟩
 .simp[execOp,l,r3,run_underlying s,v,asAgg,part,o5 u,run_sizeOf q,m0,k6]
 .rw[h6] at a b
  split at a
  .rename_i C;rw[if_pos C] at b;rw[ea] at a b;exact o _ p y a b
  .simp at a
def adb{r v i b:Nat}(j:PE E x= .ptr r v i b):cM P ⟨d,.nilCheck x,ty,pos,aft,gd⟩ E H (.ptr r v i b):=by
 intro g s l w p;have a:=j▸p.e.eval x;generalize c:l.eval x=z at a;cases a with
 |aW a=>cases a
 |ptr _ _ _ _ f o h e q=>exact⟨_,by simp only[execOp,c];rfl,.ptr r v i b f o h e q⟩
def ZL{c:List PV}{e:Nat}(p:PE E x= .dw c e):cM P ⟨d,.nilCheck x,ty,pos,aft,gd⟩ E H (.dw c e):=by
 intro g v s w u;have a:=p▸u.e.eval x;generalize j:s.eval x=z at a;cases a with
 |aW a=>
  cases a with
  |dw _ _ b l q h i f o=>exact⟨_,by simp only[execOp,j];rfl,.aW (.dw c e b l q h i f o)⟩
def VJ{f:Nat}{b c:List PV}(q:PE E x= .fn f b c):cM P ⟨d,.nilCheck x,ty,pos,aft,gd⟩ E H (.fn f b c):=by
 intro g v s w u;have a:=q▸u.e.eval x;generalize p:s.eval x=z at a;cases a with
 |aW a=>cases a with |fn _ _ _ e i o j l h=>exact⟨_,by simp only[execOp,p];rfl,.aW (.fn f b c e i o j l h)⟩
 |fn _ _ _ e i o j l h=>exact⟨_,by simp only[execOp,p];rfl,.fn f b c e i o j l h⟩
def Qi{P:Program}{w:World}{a:Addr}{f:Field}{n:Nat}(c:cH P f.type=c4 n)(b:n≠0):(fieldPlace a f).run P w= .ok (a.add f.offset) w:=by
 simp[fieldPlace,run_sizeOf c,b]
def apD{r v i c:Nat}{f:Nat}{e h n:Nat}(F:PE E x= .ptr r v i c)(J:nU P t f=c4 (e,h))(p:cH P e=c4 n)(L:n≠0):
 cM P ⟨d,.fieldAddr t x f,ty,pos,aft,gd⟩ E H (.ptr r v i (c+h)):=by
 intro g Q M w I;have a:=F▸I.e.eval x;generalize l:M.eval x=z at a;obtain⟨O,j,q,A,rfl,rfl⟩:=E4 J;cases a with
 |aW a=>cases a
 |ptr _ _ _ _ K N o D s=>
  refine⟨.pointer (c4 (N.add j.offset)),?_,.ptr r v i (c+j.offset) K _ o D λC=>?_⟩
  .simp[execOp,l,q7,run_underlying q,A,hD,Qi p L]
  .obtain⟨G,b,u,B,rfl⟩:=s C;exact⟨G,b,u,B,by rw[h8,j1]⟩
def Ze{e:List PV}{a:Nat}{f:Nat}{h i n:Nat}(C:PE E x= .dw e a)(G:nU P t f=c4 (h,i))(q:cH P h=c4 n)(I:n≠0):
 cM P ⟨d,.fieldAddr t x f,ty,pos,aft,gd⟩ E H (.dw e (a+i)):=by
 intro g L J w D;have c:=C▸D.e.eval x;generalize o:J.eval x=z at c;obtain⟨K,l,u,A,rfl,rfl⟩:=E4 G;cases c with
 |aW c=>
  cases c with
  |dw _ _ b j s v F p B=>
   refine⟨.pointer (c4 ((⟨b,j+a,c6⟩:Addr).add l.offset)),?_,?_⟩
   .simp[execOp,o,q7,run_underlying u,A,hD,Qi q I]
   .rw[h8,j1];exact .aW (.dw e (a+l.offset) b j s v F p B)
def Dc{g:Gh}{w:World}{r v i c:Nat}{a:aO}{o:Value}(I:bF g H w)(l:VR g H w (.ptr r v i c) o)(h:ek H r a)(C:a.aF=v):
 ∃b e cells,o= .pointer (c4 ⟨b,i*a.sz+c,c6⟩)/\g.β r=c4 (b,e)/\i<a.es.length/\w.heap[b]?=c4 (.cells cells a.ty (0,0))/\cells.size=e*a.sz/\a.es.length<=e/\
  ∀i c p,abk a.es i c=c4 p->∃j,cells[i*a.sz+c]?=c4 j/\j.oneCell'=true/\VR g H w p j:=by
 cases l with
 |aW l=>cases l
 |ptr _ _ _ _ K L f J B=>
  unfold ek at h;rw[h] at f;injection f with f
  subst f;obtain⟨D,b,e,q,rfl⟩:=B C.symm;have s:=(I.obj r a h).mem;rw[q] at s;obtain⟨_,cells,A,u,_,G,F⟩:=s;exact⟨b,e,cells,rfl,q,D,A,u,G,F⟩
def AT{r v i j:Nat}{a:aO}{c:PV}(u:PE E x= .ptr r v i j)(A:ek H r a)(q:a.aF=v)(D:dP P t=c4 false)(h:abk a.es i j=c4 c):
 cM P ⟨d,.load t x,ty,pos,aft,gd⟩ E H c:=by
 intro g G I w f;obtain⟨b,F,cells,o,_,_,p,_,_,B⟩:=Dc f.m (u▸f.e.eval x) A q;obtain⟨e,C,_,l⟩:=B i j c h;refine⟨e,?_,l⟩
 have s:w.cell? ⟨b,i*a.sz+j,c6⟩=c4 e:=by rw[cell_of_row w b _ cells a.ty (0,0) p];exact C
 simp[execOp,o,n1,hD,loadVar,o5 D,s]
def gw{c:List PV}{i f:Nat}{h:PV}(b:abk c i f=c4 h):∃a,c[i]?=c4 a/\f<a.cells.length:=by
 unfold abk at b;cases e:c[i]? with
 |none=>simp[e] at b
 |some a=>
  simp[e] at b;exact⟨a,rfl,(c7.1 b).1⟩
def Ig{r v i a n:Nat}{j:aO}{e:PV}{p:List PV}(T:PE E x= .ptr r v i a)(G:ek H r j)(Q:j.aF=v)(M:dP P t=c4 true)(K:cH P t=c4 n)(N:j.es[i]?=c4 e)
 (I:(e.cells.drop a).take n=p) (C:p.length=n):cM P ⟨d,.load t x,ty,pos,aft,gd⟩ E H (.agg p):=by
 intro g X ab w A;obtain⟨b,Y,cells,F,_,_,O,W,Z,V⟩:=Dc A.m (T▸A.e.eval x) G Q;subst I;have R:∀k (c:k<n),∃h,abk j.es i (a+k)=c4 h/\((e.cells.drop a).take n)[k]?=c4 h:=λk c=>by
  have u:k<((e.cells.drop a).take n).length:=by rw[C];exact c
  refine⟨_,?_,c5 u⟩
  unfold abk;rw[N];simp only[hU];rw[<-ea, <-e0 c];exact c5 u
 have S:∃f:Nat->Value,∀k,k<n->cells[i*j.sz+a+k]?=c4 (f k)/\(∀h,((e.cells.drop a).take n)[k]?=c4 h->VR g H w h (f k)):=by
  refine⟨λk=>cells.getD (i*j.sz+a+k) undef,λk c=>?_⟩
  obtain⟨h,o,J⟩:=R k c;obtain⟨L,q,_,D⟩:=V i (a+k) h o;rw[<-j1] at q;have:cells.getD (i*j.sz+a+k) undef=L:=by simp[j2,q]
  refine⟨q.trans (congrArg c4 this.symm),λaa l=>?_⟩
  rw[J] at l;injection l with l
  subst l;show VR g H w h (cells.getD (i*j.sz+a+k) undef)
  rw[this];exact D
 obtain⟨f,B⟩:=S;refine⟨.agg ((n2 n).map f).toArray,?_,.agg _ _ (by simp[C]) λk h y o s=>?_⟩
 .have U:=run_loadCells (P:=P) w ⟨b,i*j.sz+a,c6⟩ n f (λk c=>by
   rw[h8,cell_of_row w b _ cells j.ty (0,0) O];exact(B k c).1)
  simp[execOp,F,n1,hD,loadVar,o5 M,run_sizeOf K,U]
 .have c:k<n:=by
   have:=(c7.1 o).1;omega
  rw[e6,h9 c] at s;simp at s;subst s;exact(B k c).2 h o
def acR{h:List PV}{a:Nat}{c:PV}(l:PE E x= .dw h a)(s:dP P t=c4 false)(f:h[a]?=c4 c):
 cM P ⟨d,.load t x,ty,pos,aft,gd⟩ E H c:=by
 intro g B u w q;have e:=l▸q.e.eval x;generalize i:u.eval x=z at e;cases e with
 |aW e=>
  cases e with
  |dw _ _ b C o v p A j=>
   refine⟨o a,?_,.aW (j a c f)⟩
   simp[execOp,i,n1,hD,loadVar,o5 s,p a c f]
def Z6{f:List PV}{a n:Nat}{o:List PV}(I:PE E x= .dw f a)(F:dP P t=c4 true)(C:cH P t=c4 n)(A:(f.drop a).take n=o)(u:o.length=n):
 cM P ⟨d,.load t x,ty,pos,aft,gd⟩ E H (.agg o):=by
 intro g N M w J;have i:=I▸J.e.eval x;generalize v:M.eval x=z at i;cases i with
 |aW i=>
  cases i with
  |dw _ _ b L q O D l G=>
   subst A;have s:∀k (c:k<n),∃e,f[a+k]?=c4 e/\((f.drop a).take n)[k]?=c4 e:=λk c=>by
    have l:k<((f.drop a).take n).length:=by rw[u];exact c
    refine⟨_,?_,c5 l⟩
    rw[<-ea, <-e0 c];exact c5 l
   refine⟨.agg ((n2 n).map λk=>q (a+k)).toArray,?_,.aW (.agg _ _ (by simp[u]) λk e y j p=>?_)⟩
   .have K:=run_loadCells (P:=P) w ⟨b,L+a,c6⟩ n (λk=>q (a+k)) (λk c=>by
     obtain⟨e,j,_⟩:=s k c;rw[h8,j1];exact D _ e j)
    simp[execOp,v,n1,hD,loadVar,o5 F,run_sizeOf C,K]
   .have c:k<n:=by
     have:=(c7.1 j).1;omega
    rw[e6,h9 c] at p;simp at p;subst p;obtain⟨Q,B,h⟩:=s k c;rw[j] at h;injection h with h
    subst h;exact G _ _ B
def Zx{ix:Operand}{h:Nat}{o:List PV}{e:PV}{k:IntKind}{m:Int}{i:Nat}{u:TypeId}(J:PE E x= .vs h o)(K:PE E ix= .int k m)(N:m=(i:Int))(j:o[i]?=c4 e)
 (M:dU P t=c4 u) (B:cH P u=c4 h):cM P ⟨d,.indexAddr t x ix,ty,pos,aft,gd⟩ E H (.dw e.cells 0):=by
 intro g R O w q;have l:=J▸q.e.eval x;have G:=(K▸q.e.eval ix).fQ;generalize v:O.eval x=z at l;subst N;have p:i<o.length:=(c7.1 j).1;cases l with
 |aW l=>
  cases l with
  |eX=>simp at p
  |vs _ _ b s cap C S D Q L A I=>
   refine⟨.pointer (c4 ⟨b,s+i*h,c6⟩),?_,?_⟩
   .simp[execOp,v,G,oi,asIntOf,run_underlying (gD M),run_sizeOf B,p,h8]
   .have:=VI.dw (F:=g.F) (w:=w) e.cells 0 b (s+i*h) (C i) D
     (λa c f=>by
      have:=L i a c (by unfold abk;rw[j];exact f);rw[<-j1] at this;exact this)
     (λa c f=>A i a c (by unfold abk;rw[j];exact f))
     (λa c f=>I i a c (by unfold abk;rw[j];exact f))
    exact .aW this
def lh{g:Gh}{w:World}{r v e len:Nat}{o:aO}{c:Value}(b:VR g H w (.sl r v e len) c)(f:ek H r o)(h:o.aF=v):SL g o r e len c:=by
 cases b with
 |aW b=>cases b
 |sl _ _ _ _ j _ a p l i=>
  unfold ek at f;rw[f] at a;injection a with a
  subst a;exact i h.symm
def Hm{ix:Operand}{r v e len:Nat}{c:aO}{k:IntKind}{m:Int}{i:Nat}{j:TypeId}(C:PE E x= .sl r v e len)(D:PE E ix= .int k m)(G:m=(i:Int))(o:i<len)(f:ek H r c)(B:c.aF=v)
 (F:dU P t=c4 j) (q:cH P j=c4 c.sz):cM P ⟨d,.indexAddr t x ix,ty,pos,aft,gd⟩ E H (.ptr r v (e+i) 0):=by
 intro g J L w h;have a:=lh (C▸h.e.eval x) f B;have u:=(D▸h.e.eval ix).fQ;subst G;unfold SL at a;obtain⟨K,a⟩:=a
 split at a
 .obtain⟨_,rfl,_⟩:=a;omega
 .rename_i b s A;obtain⟨cap,M,l,I,p,_⟩:=a;obtain rfl:=p (by omega);refine⟨.pointer (c4 ⟨b,e*c.sz+i*c.sz,c6⟩),?_,.ptr r v (e+i) 0 c _ f (by omega) λ_=>⟨by omega,b,s,A,by rw[l1,eo]⟩⟩
  simp[execOp,l,u,oi,asIntOf,run_underlying (gD F),run_sizeOf q,o,h8]
def aqx{f:Operand}{r v i h n c:Nat}{k:IntKind}{m:Int}{q:Nat}{l:TypeId}(I:PE E x= .ptr r v i h)(e:PE E f= .int k m)(L:m=(q:Int))(o:q<n)
 (J:pk P t=c4 (n,l)) (u:cH P l=c4 c):cM P ⟨d,.indexAddr t x f,ty,pos,aft,gd⟩ E H (.ptr r v i (h+q*c)):=by
 intro g O M w j;have a:=I▸j.e.eval x;have C:=(e▸j.e.eval f).fQ;generalize p:M.eval x=z at a;subst L;cases a with
 |aW a=>cases a
 |ptr _ _ _ _ K N s G A=>
  refine⟨.pointer (c4 (N.add (q*c))),?_,.ptr r v i _ K _ s G λF=>?_⟩
  .simp[execOp,p,C,oi,hD,asIntOf,run_underlying (Kn J),run_sizeOf u,o]
  .obtain⟨e,b,B,D,rfl⟩:=A F;exact⟨e,b,B,D,by rw[h8,j1]⟩
def ac0{b:Operand}{e:List PV}{n:Nat}{k:IntKind}{m:Int}{q:Nat}{c:TypeId}{a:PV}(A:PE E x= .agg e)(B:PE E b= .int k m)(F:m=(q:Int))(l:q<n)
 (D:pk P t=c4 (n,c)) (s:cH P c=c4 1) (u:dP P c=c4 false) (j:e[q]?=c4 a):cM P ⟨d,.index t x b,ty,pos,aft,gd⟩ E H a:=by
 intro g G I w f;obtain⟨h,o,C,p⟩:=(A▸f.e.eval x).ky;have v:=(B▸f.e.eval b).fQ;subst F;have i:q<h.length:=by rw[<-C];exact(c7.1 j).1
 refine⟨h[q],?_,p q a _ j (c5 i)⟩
 simp[execOp,o,v,Instr.index,asIntOf,run_underlying (Kn D),run_sizeOf s,l,part,o5 u,i]
def Gi{n:Nat}{ci:Array TypeId}(c:∃e,dU P t=c4 e)(i:ci=#[t])(j:∀(g:Gh) (b:Nat) (a:Act) (w:World),Rel g b E H a w->∃f cap,a.eval x= .slice f n cap):
 cM P ⟨d,.call {callee:=.builtin .len,args:=#[x],argTypes:=ci},ty,pos,aft,gd⟩ E H (.int .i64 (n:Int)):=by
 intro g b a w l;obtain⟨e,c⟩:=c;obtain⟨f,cap,h⟩:=j g b a w l;subst i;refine⟨.int .i64 (n:Int),?_,.int _ _⟩
 simp[execOp,resolve,invoke,builtin,h,Builtin.len_,run_underlying (gD c),goInt]
def ap9{b:TypeId}{a:Array TypeId}(f:PE E x= .bg)(c:a=#[t])(e:dU P t=c4 b):
 cM P ⟨d,.call {callee:=.builtin .len,args:=#[x],argTypes:=a},ty,pos,aft,gd⟩ E H (.int .i64 0):=
 Gi (n:=0) ⟨b,e⟩ c λ_ _ _ _ h=>⟨c6,0,(f▸h.e.eval x).pF⟩
def acm{b:TypeId}{a:Array TypeId}(h:PE E x= .z0)(c:a=#[t])(f:dU P t=c4 b):
 cM P ⟨d,.call {callee:=.builtin .len,args:=#[x],argTypes:=a},ty,pos,aft,gd⟩ E H (.int .i64 0):=
 Gi (n:=0) ⟨b,f⟩ c λ_ _ _ _ j=>let ⟨i,e⟩:=(h▸j.e.eval x).rh;⟨i,0,e⟩
def akg{k:IntKind}{m n:Int}{c:Array TypeId}(f:PE E x= .int k m)(h:PE E y= .int k n):
 cM P ⟨d,.call {callee:=.builtin .min,args:=#[x,y],argTypes:=c},ty,pos,aft,gd⟩ E H (.int k (min m n)):=by
 intro g j l w a;have i:=(f▸a.e.eval x).fQ;have b:=(h▸a.e.eval y).fQ;have e:(if n<m then n else m)=min m n:=by split <;> omega
 refine⟨.int k (min m n),?_,.int _ _⟩
 simp[execOp,resolve,invoke,builtin,i,b,Builtin.min_,Builtin.min2,e]
def ae4{k:IntKind}{m n:Int}{c:Array TypeId}(f:PE E x= .int k m)(h:PE E y= .int k n):
 cM P ⟨d,.call {callee:=.builtin .max,args:=#[x,y],argTypes:=c},ty,pos,aft,gd⟩ E H (.int k (max m n)):=by
 intro g j l w a;have i:=(f▸a.e.eval x).fQ;have b:=(h▸a.e.eval y).fQ;have e:(if m<n then n else m)=max m n:=by split <;> omega
 refine⟨.int k (max m n),?_,.int _ _⟩
 simp[execOp,resolve,invoke,builtin,i,b,Builtin.max_,Builtin.max2,e]
end
end Go.Bml
namespace Go.Bml
open Go
open Go.RowKit (Below)
def gI(g:Gh)(H:List aO)(w:World)(e:Nat)(d:List PV)(b:List Value):Prop:=
 b.length=d.length*e/\∀i f c,abk d i f=c4 c->∃a,b[i*e+f]?=c4 a/\a.oneCell'=true/\VR g H w c a
def nN{w:World}{b:Nat}{a:Obj}(c:w.heap[b]?=c4 a):b<w.heap.size:=(Array.getElem?_eq_some_iff.1 c).1
section
variable {g:Gh}{H:List aO}{w:World}
def bF.qD(h:bF g H w){r b C:Nat}(a:g.β r=c4 (b,C)):b<w.heap.size:=by
 have d:=h.m8 r b C a;have c:=(h.obj r _ (c5 d)).mem;rw[a] at c;obtain⟨_,cells,e,_⟩:=c;exact nN e
def Gh.push(g:Gh)(r:Nat)(p:Option (Nat×Nat)):Gh:={F:=g.F,β:=λq=>if q=r then p else g.β q}
def Gh.kg(g:Gh)(r:Nat)(p:Option (Nat×Nat)):(g.push r p).β r=p:=by simp[Gh.push]
def Gh.kS(g:Gh){r q:Nat}(p:Option (Nat×Nat))(h:q≠r):(g.push r p).β q=g.β q:=by simp[Gh.push,h]
def bF.T6(h:bF g H w)(ty sz:Nat)(L:0<sz):
 GStep H.length g H w (g.push H.length c6) (H++[⟨ty,sz,[],0⟩]) w/\bF (g.push H.length c6) (H++[⟨ty,sz,[],0⟩]) w:=by
 have s:GStep H.length g H w (g.push H.length c6) (H++[⟨ty,sz,[],0⟩]) w:=
  ⟨rfl,rfl,rfl,ef _,λ_ a=>a,λ_ _=>rfl,λ_ _ _=>rfl,λ_ a=>.inl a,λq b C a=>by
   by_cases e:q=H.length
   .subst e;rw[Gh.kg] at a;cases a
   .rw[Gh.kS g _ e] at a;exact .inr ⟨q,C,a⟩,λr o n d=>⟨o,by rw[dv n];exact d,ef _,λ_=>⟨rfl,rfl,Gh.kS g _ (by omega)⟩⟩⟩
 refine⟨s,⟨h.fb,?_,?_,?_⟩⟩
 .intro r u b C1 C2 l k
  by_cases j:r=H.length
  .subst j;rw[Gh.kg] at l;cases l
  .by_cases x:u=H.length
   .subst x;rw[Gh.kg] at k;cases k
   .rw[Gh.kS g _ j] at l;rw[Gh.kS g _ x] at k;exact h.inj r u b C1 C2 l k
 .intro r b t a
  by_cases j:r=H.length
  .subst j;simp
  .rw[Gh.kS g _ j] at a;have:=h.m8 r b t a;simp;omega
 .intro r o d
  by_cases j:r=H.length
  .subst j;rw[dt (ef _)] at d;simp at d;subst d;exact⟨L,by simp,by rw[Gh.kg]⟩
  .have n:r<H.length:=by
    have:=(c7.1 d).1;simp at this;omega
   rw[dv n] at d;obtain⟨a1,E,m⟩:=h.obj r o d;refine⟨a1,E,?_⟩
   rw[Gh.kS g _ j];cases a:g.β r with
   |none=>rw[a] at m;exact m
   |some p=>
    obtain⟨b,t⟩:=p;rw[a] at m;obtain⟨F,N,G,I,K,A,M⟩:=m;refine⟨F,N,G,I,K,A,λi y c B=>?_⟩
    obtain⟨D,l,k,J⟩:=M i y c B;exact⟨D,l,k,J.nZ s⟩
def wG(g:Gh)(H:List aO)(w h:World)(a:aO):Option (Nat×Nat)->Prop
 |none=>a.es=[]
 |some (b,c)=>∃cells,h.heap[b]?=c4 (.cells cells a.ty (0,0))/\cells.size=c*a.sz/\c<=maxLen/\a.es.length<=c/\∀i f e,abk a.es i f=c4 e->∃d,cells[i*a.sz+f]?=c4 d/\d.oneCell'=true/\VR g H w e d
def bF.set(h:bF g H w){r:Nat}{o o':aO}{w':World}{p:Option (Nat×Nat)}(A:H[r]?=c4 o)(Y:w'.os=w.os)(W:w'.tape=w.tape)(X:w'.output=w.output)(U:w.heap.size<=w'.heap.size)
 (y:∀b,b<w.heap.size->(∀C,g.β r≠c4 (b,C))->w'.heap[b]?=w.heap[b]?)
 (ad:o.aF<=o'.aF) (aj:o'.aF=o.aF->o'.sz=o.sz/\o'.es.length=o.es.length/\p=g.β r)
 (t:∀b C,p=c4 (b,C)->(∃d,g.β r=c4 (b,d))\/w.heap.size<=b)
 (aa:0<o'.sz) (ai:∀(i:Nat) (e:PV),o'.es[i]?=c4 e->e.cells.length=o'.sz)
 (R:wG g H w w' o' p)
 :
  GStep H.length g H w (g.push r p) (H.set r o') w'/\bF (g.push r p) (H.set r o') w':=by
  have O:r<H.length:=(c7.1 A).1;have ah:=h.obj r o A;have T:∀b C,g.β r=c4 (b,C)->¬g.F b:=λb C a=>by
   have:=ah.mem;rw[a] at this;exact this.1
  have F:GStep H.length g H w (g.push r p) (H.set r o') w':=by
   refine⟨Y,W,X,U,λ_ a=>a,λb a=>y b (h.fb b a) λC k=>T b C k a,λb a af=>y b a λC=>af r C,λ_ a=>.inl a,λq b C a=>?_,λq K al n=>?_⟩
   .by_cases e:q=r
    .subst e;rw[Gh.kg] at a;rcases t b C a with⟨d,k⟩ |u
     .exact .inr ⟨q,d,k⟩
     .exact .inl u
    .rw[Gh.kS g _ e] at a;exact .inr ⟨q,C,a⟩
   by_cases e:q=r
   .subst e;rw[A] at n;injection n with n
    subst n;refine⟨o',by simp[O],ad,λV=>?_⟩
    obtain⟨Z,ag,ae⟩:=aj V;exact⟨Z,ag,by rw[Gh.kg];exact ae⟩
   .exact⟨K,by rw[ey (qb e)];exact n,ef _,λ_=>⟨rfl,rfl,Gh.kS g _ e⟩⟩
  refine⟨F,⟨λb a=>l4 (h.fb b a) U,?_,?_,?_⟩⟩
  .intro q Q b C1 C2 l j
   by_cases m:q=r <;> by_cases J:Q=r
   .omega
   .subst m;rw[Gh.kg] at l;rw[Gh.kS g _ J] at j;rcases t b C1 l with⟨d,k⟩ |u
    .exact h.inj _ _ b d C2 k j
    .have:=h.qD j;omega
   .subst J;rw[Gh.kg] at j;rw[Gh.kS g _ m] at l;rcases t b C2 j with⟨d,k⟩ |u
    .exact h.inj _ _ b C1 d l k
    .have:=h.qD l;omega
   .rw[Gh.kS g _ m] at l;rw[Gh.kS g _ J] at j;exact h.inj q Q b C1 C2 l j
  .intro q b d a
   by_cases m:q=r
   .subst m;simpa using O
   .rw[Gh.kS g _ m] at a;simpa using h.m8 q b d a
  .intro q K n
   by_cases m:q=r
   .subst m;simp[O] at n;subst n;refine⟨aa,ai,?_⟩
    rw[Gh.kg];cases p with
    |none=>exact R
    |some D=>
     obtain⟨b,C⟩:=D;obtain⟨cells,x,L,N,E,P⟩:=R;refine⟨λS=>?_,cells,x,L,N,E,λi B c G=>?_⟩
     .rcases t b C rfl with⟨d,k⟩ |u
      .exact T b d k S
      .have:=h.fb b S;omega
     .obtain⟨I,l,j,M⟩:=P i B c G;exact⟨I,l,j,M.nZ F⟩
   .rw[ey (qb m)] at n;obtain⟨a1,ab,s⟩:=h.obj q K n;refine⟨a1,ab,?_⟩
    rw[Gh.kS g _ m];cases a:g.β q with
    |none=>rw[a] at s;exact s
    |some D=>
     obtain⟨b,d⟩:=D;rw[a] at s;obtain⟨ac,ak,x,L,N,E,P⟩:=s;refine⟨ac,ak,(y b (nN x) λC k=>m (h.inj _ _ b _ _ a k)).trans x,L,N,E,λi B c G=>?_⟩
     obtain⟨I,l,j,M⟩:=P i B c G;exact⟨I,l,j,M.nZ F⟩
end
def Ez{g:Gh}{m:Nat}{H:List aO}{w:World}(d:bF g H w):GStep m g H w g H w.drew/\bF g H w.drew:=by
 have h:∀m,GStep m g H w g H w.drew:=λm=>⟨rfl,rfl,rfl,ef _,λ_ a=>a,λ_ _=>rfl,λ_ _ _=>rfl,λ_ a=>.inl a,λr _ j a=>.inr ⟨r,j,a⟩,λr f _ e=>⟨f,e,ef _,λ_=>⟨rfl,rfl,rfl⟩⟩⟩
 refine⟨h m,d.fb,d.inj,d.m8,λr f e=>?_⟩
 obtain⟨y,v,c⟩:=d.obj r f e;refine⟨y,v,?_⟩
 cases k:g.β r with
 |none=>rw[k] at c;exact c
 |some o=>
  obtain⟨b,j⟩:=o;rw[k] at c;obtain⟨x,E,z,A,C,s,D⟩:=c;exact⟨x,E,z,A,C,s,λi n q t=>let ⟨u,p,l,B⟩:=D i n q t;⟨u,p,l,B.nZ (h _)⟩⟩
def PV.one:PV->Bool
 | .agg _ | .bu _ | .any=>false
 |_=>true
def VR.M8{g:Gh}{H:List aO}{w:World}{c:PV}{x:Value}(h:VR g H w c x)(d:c.one=true):x.oneCell'=true:=by
 cases h with
 |aW h=>cases h <;> first |rfl |(simp[PV.one] at d;done)
 |ptr=>rfl
 |sl r v off len k x l e a m=>exact a
 |fl r v k x l e a m=>exact a
 |agg n j o e=>simp[PV.one] at d
 |bu n j o e=>simp[PV.one] at d
 |fn=>rfl
end Go.Bml
namespace Go.Bml
open Go
section
variable {g:Gh}{H:List aO}{w:World}
def VR.tZ{v:PV}{x:Value}(h:VR g H w v x)(j:v.cells.all PV.one=true)(ht:∀vs,v≠ .bu vs):x.cells.toList.length=v.cells.length/\
 ∀(e:Nat) (c:PV),v.cells[e]?=c4 c->∃k,x.cells[e]?=c4 k/\k.oneCell'=true/\VR g H w c k:=by
 by_cases A:∃s,v= .agg s
 .obtain⟨s,rfl⟩:=A;obtain⟨l,rfl,B,F⟩:=h.ky;refine⟨by simp[o6,PV.cells,B],λe c a=>?_⟩
  simp only[PV.cells] at a j;have n:e<l.length:=by rw[<-B];exact(c7.1 a).1
  have m:=F e c _ a (c5 n);refine⟨l[e],by simp[o6,n],m.M8 ?_,m⟩
  exact h7.1 j c (dT a)
 .have u:v.cells=[v]:=by cases v <;> first |rfl |exact absurd ⟨_,rfl⟩ A
  have D:v.one=true:=by rw[u] at j;simpa using j
  have o:=h.M8 D;have C:x.cells=#[x]:=by cases x <;> first |rfl |(simp[Value.oneCell'] at o;done)
  rw[u,C];refine⟨rfl,λe c a=>?_⟩
  match e,a with
  |0,a=>
   simp at a;subst a;exact⟨x,rfl,o,h⟩
def Rk{v:PV}{i b:Nat}{c:PV}(a:abk [v] i b=c4 c):i=0/\v.cells[b]?=c4 c:=by
 unfold abk at a
 match i,a with
 |0,a=>exact⟨rfl,by simpa using a⟩
 |i+1,a=>simp at a
end
section
variable {P:Program}{nt:Nat}{Q:fE}{E:Env}{H:List aO}{d:Option Nat}{ty:TypeId}{pos:String}{aft:Array Edge}{x y z:Operand}{t:TypeId}{all:Array Oper}{rest:List Oper}
def nY(P:Program)(E:Env)(H:List aO)(r:Oper)(elem a:Nat)(c:List PV)(v:Nat->Nat->PV):Prop:=
 ∀g nt (o:Act) w,Rel g nt E H o w->∃(cells:Array Value) (b:Nat) (x:Value) (e:World),(execOp o.eval r).run P w= .ok (.value x) (e.alloc (.cells cells elem))/\(e=w\/e=w.drew)/\
  0<a/\(∀(i:Nat) (m:PV),c[i]?=c4 m->m.cells.length=a)/\cells.size=b*a/\b<=maxLen/\c.length<=b/\
  (∀i n k,abk c i n=c4 k->∃f,cells[i*a+n]?=c4 f/\f.oneCell'=true/\VR g H w k f)/\
  (∀l j p q h,l.β q=c4 (w.heap.size,b)->j[q]?=c4 ⟨elem,a,c,h⟩->VR l j p (v q h) x)
def sX{C:Op}{elem f q ac M c:Nat}{e:List PV}{v:Nat->Nat->PV}(o:H[q]?=c4 ⟨ac,M,[],c⟩)
 (h:nY P E H ⟨d,C,ty,pos,aft,c6⟩ elem f e v):
 fJ P ⟨d,C,ty,pos,aft,c6⟩ E H λab O=>ab=v q (c+1)/\O=H.set q ⟨elem,f,e,c+1⟩:=by
 intro g nt af w r ak ai G;obtain⟨cells,k,x,a,N,R,ad,T,F,ae,Z,B,V⟩:=h g nt af w r;unfold n0;rw[N];have aa:=(c7.1 o).1;have u:∀a:World,bF g H a->(∀i l n,abk e i l=c4 n->∃j,cells[i*f+l]?=c4 j/\j.oneCell'=true/\VR g H a n j)->
  GStep H.length g H a (g.push q (c4 (a.heap.size,k))) (H.set q ⟨elem,f,e,c+1⟩) (a.alloc (.cells cells elem))/\
  bF (g.push q (c4 (a.heap.size,k))) (H.set q ⟨elem,f,e,c+1⟩) (a.alloc (.cells cells elem)):=λa D W=>by
  have ah:=(D.obj q _ o).mem;refine D.set o rfl rfl rfl (by simp) (λb U _=>gv a _ b U) (by simp) (λh=>absurd h (by simp)) (λb aj h=>?_) ad T ?_
  .injection h with h;injection h with p s;subst p;exact .inr (ef _)
  .refine⟨cells,heap_alloc_new a _,F,ae,Z,W⟩
 have ag:GStep H.length g H w (g.push q (c4 (w.heap.size,k))) (H.set q ⟨elem,f,e,c+1⟩) (a.alloc (.cells cells elem))/\
  bF (g.push q (c4 (w.heap.size,k))) (H.set q ⟨elem,f,e,c+1⟩) (a.alloc (.cells cells elem)):=by
  rcases R with rfl |rfl
  .exact u _ r.m B
  .obtain⟨A,I⟩:=Ez (m:=H.length) r.m;obtain⟨Y,J⟩:=u _ I λi l n L=>let ⟨j,p,s,X⟩:=B i l n L;⟨j,p,s,X.nZ A⟩
   exact⟨A.trans Y,J⟩
 obtain⟨K,S⟩:=ag;exact G x _ (g.push q (c4 (w.heap.size,k))) (v q (c+1)) (H.set q ⟨elem,f,e,c+1⟩) ⟨rfl,rfl⟩ (V _ _ _ _ _ (Gh.kg _ _ _) (by simp[aa])) S K
def P7{f:Gh}{e:List aO}{k:World}{elem j c b q a:Nat}{v:PV}(i:f.β q=c4 (b,c))(h:e[q]?=c4 ⟨elem,j,[v],a⟩):
 VR f e k (.ptr q a 0 0) (.pointer (c4 ⟨b,0,c6⟩)):=
 .ptr _ a 0 0 _ _ h (ef _) λ_=>⟨by simp,b,c,i,by simp⟩
def FO{g':Gh}{f:List aO}{w':World}{elem j a b q e:Nat}{c:List PV}(i:g'.β q=c4 (b,a))(h:f[q]?=c4 ⟨elem,j,c,e⟩)(k:c.length<=a):
 VR g' f w' (.sl q e 0 c.length) (.slice (c4 ⟨b,0,c6⟩) c.length a):=
 .sl _ e 0 _ _ _ h (ef _) rfl λ_=>by
  refine⟨by simp,?_⟩
  rw[i];exact⟨a,_,rfl,k,λ_=>by simp,λ_=>⟨rfl,rfl⟩⟩
def alO{elem b:Nat}{v:PV}(p:PE E x=v)(h:v.cells.length=b)(l:0<b)(r:v.cells.all PV.one=true)(u:∀vs,v≠ .bu vs):
 nY P E H ⟨d,.box elem x,ty,pos,aft,c6⟩ elem b [v] (λq e=>.ptr q e 0 0):=by
 intro g nt B w s;have o:=p▸s.e.eval x;obtain⟨m,A⟩:=o.tZ r u;refine⟨(B.eval x).cells,1,.pointer (c4 ⟨w.heap.size,0,c6⟩),w,?_,.inl rfl,l,?_,?_,by simp[maxLen],by simp,?_,λF C G q e n f=>P7 n f⟩
 .simp[execOp,Instr.box,newVar,newRow]
 .intro i D a
  match i,a with
  |0,a=>simp at a;subst a;exact h
  |i+1,a=>simp at a
 .simp at m;omega
 .intro i j k c;obtain⟨rfl,c⟩:=Rk c;simpa using A j k c
def Hl(z:Value)(vs:List PV):kP z≠ .bu vs:=by
 unfold kP
 split
 .simp
 .unfold jq
  split <;> simp
def Ug{elem c:Nat}{b:Value}{v:PV}(l:dV P elem=c4 b)(h:kP b=v)(m:v.cells.length=c)(p:0<c)(u:v.cells.all PV.one=true):
 nY P E H ⟨d,.alloc elem,ty,pos,aft,c6⟩ elem c [v] (λq f=>.ptr q f 0 0):=by
 intro g nt I w D;have k:VR g H w v b:=h▸ .aW (AE _ _ _);obtain⟨r,A⟩:=k.tZ u (λvs=>h▸Hl b vs);refine⟨b.cells,1,.pointer (c4 ⟨w.heap.size,0,c6⟩),w,?_,.inl rfl,p,?_,?_,by simp[maxLen],by simp,?_,λF B G q f s j=>P7 s j⟩
 .simp[execOp,Instr.alloc,Ey l,newVar,newRow]
 .intro i C a
  match i,a with
  |0,a=>simp at a;subst a;exact m
  |i+1,a=>simp at a
 .simp at r;omega
 .intro i n o e;obtain⟨rfl,e⟩:=Rk e;simpa using A n o e
def kB(P:Program)(t:TypeId):Option Nat:=(P.info? t).map (·.bytes)
def Rq{c:Nat}{v:PV}{i f:Nat}{e:PV}(a:abk (hB c v) i f=c4 e):i<c/\v.cells[f]?=c4 e:=by
 unfold abk at a
 by_cases b:i<c
 .rw[List.getElem?_replicate_of_lt b] at a;exact⟨b,by simpa using a⟩
 .rw[hI (by simpa using b)] at a;simp at a
def aax{m j:Operand}{elem b l:Nat}{c:Value}{v:PV}{p F:IntKind}{G D:Int}{a:Nat}(af:PE E m= .int p G)(f:PE E j= .int F D)(ak:G=(a:Int))(Z:D=(a:Int))(ai:dU P t=c4 elem)(u:cH P elem=c4 b)(ad:kB P elem=c4 l)
 (ap:a*l<=281474976710656) (ao:a<=9223372036854775807) (L:dV P elem=c4 c) (B:kP c=v) (r:v.cells.length=b) (S:0<b) (ae:v.cells.all PV.one=true):
 nY P E H ⟨d,.makeSlice t m j,ty,pos,aft,c6⟩ elem b (hB a v) (λq n=>.sl q n 0 a):=by
 intro g nt aq w C;have J:VR g H w v c:=B▸ .aW (AE _ _ _);obtain⟨ab,aj⟩:=J.tZ ae (λvs=>B▸Hl c vs);have M:=(af▸C.e.eval m).fQ;have T:=(f▸C.e.eval j).fQ;subst ak;subst Z;cases k:P.info? elem with
 |none=>simp[cH,k] at u
 |some e=>
  have N:e.zero=c4 c:=by simpa[dV,k] using L
  have A:e.size=b:=by simpa[cH,k] using u
  have aa:e.bytes=l:=by simpa[kB,k] using ad
  have V:(e.bytes:Int)*(a:Int)<=281474976710656:=by
   have:((e.bytes*a:Nat):Int)<=281474976710656:=by rw[aa,l2];omega
   rwa [Int.natCast_mul] at this
  have s:=run_make (P:=P) w t elem e c (gD ai) k N p F a a (by omega) (by omega) V (by omega);simp only[Int.toNat_natCast] at s;have X:c.cells.size=b:=by simp at ab;omega
  refine⟨madeCells c.cells (a*e.size),a,.slice (c4 ⟨w.heap.size,0,c6⟩) a a,w,?_,.inl rfl,S,?_,?_,by unfold maxLen;omega,by simp,?_,λg' am w' q n ac I=>?_⟩
  .simp[execOp,M,T,s]
  .intro i an Y;have o:=(c7.1 Y).2;simp at o;subst o;exact r
  .rw[size_madeCells,A]
  .intro i h j f;obtain⟨al,f⟩:=Rq f;obtain⟨U,W,O,K⟩:=aj h j f;have ah:h<b:=by rw[<-r];exact(c7.1 f).1
   refine⟨U,?_,O,K⟩
   have ag:i*b+h<a*b:=by
    have:(i+1)*b<=a*b:=ev _ (by omega);rw[eo,hX] at this;omega
   have R:(i*b+h)%c.cells.size=h:=by
    rw[X,l2,q3,p0 ah]
   simp only[madeCells,A];rw[Array.getElem?_map,Array.getElem?_range];rw[if_pos ag];simp only[o1,R];rw[getElem!_def,W]
  .have:=FO (g':=g') (w':=w') ac I (by simp);simpa using this
end
section
variable {P:Program}{nt:Nat}{Q:fE}{E:Env}{H:List aO}{d:Option Nat}{ty:TypeId}{pos:String}{aft:Array Edge}{x y z:Operand}{t:TypeId}{all:Array Oper}{rest:List Oper}
def WX{b:List PV}{i:Nat}{h f:PV}(g:b[i]?=c4 h)(a e:Nat):abk (b.set i f) a e=if a=i then f.cells[e]? else abk b a e:=by
 unfold abk
 by_cases c:a=i
 .subst c;have j:=(c7.1 g).1;simp[j]
 .simp[c,ey (qb c)]
def QH{r v i a:Nat}{o:aO}{p e e':PV}(aE:PE E x= .ptr r v i a)(U:ek H r o)(aj:o.aF=v)(ak:PE E y=p)(ag:cH P t=c4 p.cells.length)
 (aA:p.cells.all PV.one=true) (ar:∀vs,p≠ .bu vs) (M:o.es[i]?=c4 e) (aQ:a+p.cells.length<=e.cells.length) (ad:e'.cells=e.cells.take a++p.cells++e.cells.drop (a+p.cells.length)):
 fJ P ⟨d,.store t x y,ty,pos,aft,c6⟩ E H λam H1=>am= .any/\H1=H.set r ⟨o.ty,o.sz,o.es.set i e',o.aF⟩:=by
 intro g nt l u G aT aI ah;obtain⟨b,C,aK,aC,K,an,aa,X,ai,O⟩:=Dc G.m (aE▸G.e.eval x) U aj;have aB:=ak▸G.e.eval y;obtain⟨F,ac⟩:=aB.tZ aA ar;have I:=G.m.obj r o U;have aR:=I.width i e M;have J:i*o.sz+a+0+(l.eval y).cells.toList.length<=aK.size:=by
  rw[X,F];have:(i+1)*o.sz<=C*o.sz:=ev _ (by omega);rw[eo,hX] at this;omega
 have S:∀c∈(l.eval y).cells.toList,c.oneCell'=true:=by
  intro c j;obtain⟨n,ae,rfl⟩:=ej j;have av:n<p.cells.length:=by omega
  obtain⟨c,j,m,_⟩:=ac n _ (c5 av);have:(l.eval y).cells.toList[n]=c:=by
   rw[<-fe,c5 ae] at j;injection j
  rw[this];exact m
 have W:=run_storeCells_at P b (i*o.sz+a) o.ty (l.eval y).cells.toList 0 aK u aa J S;simp only[l1] at W;have au:H[r]?=c4 o:=U;have ax:(execOp l.eval ⟨d,.store t x y,ty,pos,aft,c6⟩).run P u= .ok .skip (u.setRow b (aK.toList.take (i*o.sz+a)++(l.eval y).cells.toList++aK.toList.drop (i*o.sz+a+(l.eval y).cells.toList.length)).toArray):=by
  have az:(l.eval y).cells.size=p.cells.length:=by simpa using F
  simp only[execOp,aC,Instr.storeAt,hD,gb,hz,ez,storeVar,run_sizeOf ag,az,ne_eq,not_true_eq_false,if_false,W]
 unfold n0;rw[ax];generalize T:(aK.toList.take (i*o.sz+a)++(l.eval y).cells.toList++aK.toList.drop (i*o.sz+a+(l.eval y).cells.toList.length)).toArray=s;have al:s.size=aK.size:=by
  rw[<-T];simp only[kc,eH,ft,j5,gy];simp at J⊢;omega
 have aD:∀n,n<p.cells.length->s[i*o.sz+a+n]?=(l.eval y).cells[n]? :=λn ae=>by
  rw[<-T,kd,eE,dt (by simp;omega),dv (by simp at F⊢;omega)];simp
  congr 1
  simp at J;omega
 have R:∀q,q<i*o.sz+a\/i*o.sz+a+p.cells.length<=q->s[q]?=aK[q]? :=λq L=>by
  rw[<-T,kd];simp at J;rcases L with L |L
  .rw[eE,dv (by simp;omega),e0 L];simp
  .rw[dt (by simp at F⊢;omega),ea];simp at F⊢
   congr 1
   omega
 have aP:i*o.sz+a<=aK.size:=by simp at J;omega
 have aH:=G.m.set (r:=r) (o:=o) (o':=⟨o.ty,o.sz,o.es.set i e',o.aF⟩) (w':=u.setRow b s) (p:=c4 (b,C)) au rfl rfl rfl (by simp)
  (λZ aS aw=>setRow_other u b Z s (λe=>aw C (by rw[e];exact K))) (ef _) (λ_=>⟨rfl,by simp,K.symm⟩)
  (λZ aL V=>by injection V with V;injection V with S m;subst S;exact .inl ⟨C,K⟩) I.pos
  (λh N B=>by
   by_cases A:h=i
   .subst A;simp[an] at B;subst B;rw[ad];simp;omega
   .simp only at B;rw[ey (qb A)] at B;exact I.width h N B)
  (by
   have ab:=I.mem;rw[K] at ab;obtain⟨_,aV,aX,aM,aG,aJ,aN⟩:=ab;refine⟨s,setRow_heap u b aK s o.ty (0,0) aa,by rw[al,X],aG,by simpa using ai,λh k D f=>?_⟩
   show ∃c,s[h*o.sz+k]?=c4 c/\c.oneCell'=true/\VR g H u D c
   simp only at f;rw[WX M] at f
   by_cases A:h=i
   .subst A;rw[if_pos rfl,ad,eE] at f
    by_cases aq:k<a
    .rw[dv (by simp;omega),e0 aq] at f;obtain⟨c,j,m,w⟩:=O h k D (by unfold abk;rw[M];exact f);exact⟨c,(R _ (.inl (by omega))).trans j,m,w⟩
    .rw[dt (by simp;omega)] at f;have ay:min a e.cells.length=a:=by omega
     simp only[ft,ay] at f
     by_cases Y:k -a<p.cells.length
     .rw[dv Y] at f;obtain⟨c,j,m,w⟩:=ac _ D f;refine⟨c,?_,m,w⟩
      have:=aD (k -a) Y;rw[show h*o.sz+a+(k -a)=h*o.sz+k by omega] at this;exact this.trans j
     .rw[dt (by omega),ea] at f;rw[show a+p.cells.length+(k -a -p.cells.length)=k by omega] at f;obtain⟨c,j,m,w⟩:=O h k D (by unfold abk;rw[M];exact f);exact⟨c,(R _ (.inr (by omega))).trans j,m,w⟩
   .rw[if_neg A] at f;obtain⟨c,j,m,w⟩:=O h k D f;refine⟨c,(R _ ?_).trans j,m,w⟩
    obtain⟨N,af,aU⟩:=gw f;have aY:=I.width h N af;rcases Nat.lt_or_gt_of_ne A with aF |jo
    .have:(h+1)*o.sz<=i*o.sz:=ev _ aF;rw[eo,hX] at this;exact .inl (by omega)
    .have:(i+1)*o.sz<=h*o.sz:=ev _ jo;rw[eo,hX] at this;exact .inr (by omega))
 obtain⟨ao,ap⟩:=aH;exact ah undef _ (g.push r (c4 (b,C))) .any _ ⟨rfl,rfl⟩ (.any _) ap ao
def lE(H:List aO)(p:PV)(c:Nat)(b:List PV):Prop:=
 p= .vs c b\/(p= .bg/\b=[])\/(p= .z0/\b=[])\/∃r v e len a,p= .sl r v e len/\ek H r a/\a.aF=v/\a.sz=c/\b=(a.es.drop e).take len
def Jv{c a q:Nat}(b:0<a)(e:q<c*a):q/a<c/\q%a<a/\q/a*a+q%a=q:=by
 refine⟨(Nat.div_lt_iff_lt_mul b).2 e,q5 _ b,?_⟩
 rw[l2];exact Nat.div_add_mod q a
def Gg{a:List PV}{e i b:Nat}(h:∀(i:Nat) (f:PV),a[i]?=c4 f->f.cells.length=e)(j:i<a.length)(k:b<e):∃g,abk a i b=c4 g:=by
 have c:=c5 j;have:=h i _ c;refine⟨a[i].cells[b]'(by omega),?_⟩
 unfold abk;rw[c];exact c5 (by omega)
def gI.one{g:Gh}{H:List aO}{o:World}{sz:Nat}{es:List PV}{l:List Value}(h:gI g H o sz es l)(w:0<sz)(u:∀(i:Nat) (e:PV),es[i]?=c4 e->e.cells.length=sz):∀j∈l,j.oneCell'=true:=by
 intro j C;obtain⟨q,k,rfl⟩:=ej C;obtain⟨m,n,B⟩:=Jv w (h.1▸k);obtain⟨c,s⟩:=Gg u m n;obtain⟨j,a,A,_⟩:=h.2 _ _ _ s;rw[B,c5 k] at a;injection a with a
 rw[a];exact A
def lE.real{g:Gh}{B:World}{p:PV}{sz:Nat}{l:List PV}{v:Value}(aj:bF g H B)(h:lE H p sz l)(s:VR g H B p v)(O:0<sz):
 (∀(i:Nat) (e:PV),l[i]?=c4 e->e.cells.length=sz)/\∃a cap,v= .slice a l.length cap/\(l=[]\/∃R M,a=c4 R/\gI g H B sz l M/\∀j m,M[j]?=c4 m->B.cell? (R.add j)=c4 m):=by
 rcases h with rfl |⟨rfl,rfl⟩ |⟨rfl,rfl⟩ |⟨r,aq,off,len,k,rfl,L,T,w,rfl⟩
 .cases s with
  |aW s=>
   cases s with
   |eX sz a cap=>exact⟨by simp,a,cap,rfl,.inl rfl⟩
   |vs _ _ b off cap m G am w u F U=>
    refine⟨w,c4 ⟨b,off,c6⟩,cap,rfl,.inr ⟨⟨b,off,c6⟩,(n2 (l.length*sz)).map λq=>m (q/sz) (q%sz),rfl,⟨by simp,λi j c A=>?_⟩,λq ap D=>?_⟩⟩
    .obtain⟨e,he,ah⟩:=gw A;have hi:=(c7.1 he).1;have ab:=w i e he;have I:i*sz+j<l.length*sz:=by
      have:(i+1)*sz<=l.length*sz:=ev _ (by omega);rw[eo,hX] at this;omega
     refine⟨m i j,?_,F i j c A,.aW (U i j c A)⟩
     rw[e6,h9 I];have W:(i*sz+j)/sz=i:=by rw[l2,Nat.mul_add_div O,Nat.div_eq_of_lt (by omega)];omega
     have aa:(i*sz+j)%sz=j:=by rw[l2,q3,p0 (by omega)]
     simp[W,aa]
    .have K:q<l.length*sz:=by
      have:=(c7.1 D).1;simpa using this
     rw[e6,h9 K] at D;simp at D;subst D;obtain⟨ag,Y,ai⟩:=Jv O K;obtain⟨c,A⟩:=Gg w ag Y;have:=u _ _ _ A;rw[ai] at this;rw[h8];exact this
 .exact⟨by simp,c6,0,s.pF,.inl rfl⟩
 .obtain⟨a,Z⟩:=s.rh;exact⟨by simp,a,0,Z,.inl rfl⟩
 .have o:=lh s L T;have J:=aj.obj r k L;subst w;unfold SL at o;obtain⟨an,o⟩:=o;have G:((k.es.drop off).take len).length=len:=by simp;omega
  refine⟨λi e he=>?_,?_⟩
  .rw[h6] at he
   split at he
   .rw[ea] at he;exact J.width _ e he
   .cases he
  .rw[G]
   split at o
   .obtain⟨_,rfl,a,rfl⟩:=o;exact⟨a,0,rfl,.inl (by simp)⟩
   .rename_i b C ac;obtain⟨cap,a,rfl,_,X,_⟩:=o;refine⟨a,cap,rfl,?_⟩
    by_cases h0:len=0
    .exact .inl (by simp[h0])
    .obtain rfl:=X h0;have N:=J.mem;rw[ac] at N;obtain⟨_,cells,ae,af,ao,al,ak⟩:=N;have ad:(off+len)*k.sz<=C*k.sz:=ev _ (by omega);rw[eo] at ad;refine .inr ⟨⟨b,off*k.sz,c6⟩,(cells.toList.drop (off*k.sz)).take (len*k.sz),rfl,⟨by rw[G,ft,j5,gy,af];omega,λi j c u=>?_⟩,λq m n=>?_⟩
     .obtain⟨e,he,ah⟩:=gw u;rw[h6] at he
      split at he
      .rename_i hi;rw[ea] at he;have ab:=J.width _ e he;have V:abk k.es (off+i) j=c4 c:=by
        unfold abk at u⊢;rw[e0 hi,ea] at u;exact u
       obtain⟨m,n,F,S⟩:=ak _ _ _ V;refine⟨m,?_,F,S⟩
       have I:i*k.sz+j<len*k.sz:=by
        have:(i+1)*k.sz<=len*k.sz:=ev _ (by omega);rw[eo,hX] at this;omega
       rw[e0 I,ea,fe, <-j1, <-eo];exact n
      .cases he
     .rw[h6] at n
      split at n
      .rw[ea,fe] at n;rw[h8,cell_of_row B b _ cells k.ty (0,0) ae];exact n
      .cases n
end
section
variable {P:Program}{nt:Nat}{Q:fE}{E:Env}{H:List aO}{d:Option Nat}{ty:TypeId}{pos:String}{aft:Array Edge}{x y z:Operand}{t:TypeId}{all:Array Oper}{rest:List Oper}
def xr{e:World}{l f:TypeId}{i b cap g:Nat}{a c:Option Addr}(j:P.underlying t=c4 (.slice f))(k:cH P f=c4 i)(h:b<=cap):
 (hL #[t,t] l #[.slice a b cap,.slice c 0 g]).run P e= .ok (.slice a b cap) e:=by
 cases a <;> cases c <;> simp[hL,run_underlying j,run_sizeOf k,Builtin.lenOf,Builtin.firstCells,h,loadCells,loadCellsFrom,storeCells]
def Ei{b:Operand}{a:Act}{c:World}:(execOp a.eval ⟨d,.call {callee:=.builtin .append,args:=#[b,x],argTypes:=#[t,t]},ty,pos,aft,c6⟩).run P c=
 ((hL #[t,t] ty #[a.eval b,a.eval x]).run P c).andThen λv e=>.ok (.value v) e:=by
 simp[execOp,resolve,invoke,builtin]
def Pb{s:Operand}{r v len by_:Nat}{o:aO}{p:PV}{c:List PV}{J:Value}(a3:PE E s= .sl r v 0 len)(ar:ek H r o)(aY:o.aF=v)(br:PE E x=p)(bb:lE H p o.sz c)
 (N:dU P t=c4 o.ty) (R:cH P o.ty=c4 o.sz) (aZ:kB P o.ty=c4 by_) (bm:dV P o.ty=c4 J) (ay:J.cells.size=o.sz) (aS:(len+c.length)*by_<=140737488355328) (bd:len+c.length<=9223372036854775807):
 fJ P ⟨d,.call {callee:=.builtin .append,args:=#[s,x],argTypes:=#[t,t]},ty,pos,aft,c6⟩ E H λa1 H1=>a1= .sl r (v+1) 0 (len+c.length)/\H1=H.set r ⟨o.ty,o.sz,o.es.take len++c,v+1⟩:=by
 intro g nt aJ a X bC bx aU;have Y:=X.m.obj r o ar;have ab:=Y.pos;have bp:=lh (a3▸X.e.eval s) ar aY;obtain⟨aF,a7,S,bo,aL⟩:=bb.real X.m (br▸X.e.eval x) ab;obtain⟨bf,aa⟩:=id bp;simp only[gx] at bf;have aH:H[r]?=c4 o:=ar;have al:len+c.length<=maxLen:=by unfold maxLen;omega
 cases G:P.info? o.ty with
 |none=>simp[cH,G] at R
 |some K=>
 have ak:K.zero=c4 J:=by simpa[dV,G] using bm
 have aE:K.size=o.sz:=by simpa[cH,G] using R
 have W:K.bytes=by_:=by simpa[kB,G] using aZ
 have ae:(o.es.take len).length=len:=by simp;omega
 have aB:∀(i:Nat) (m:PV),(o.es.take len++c)[i]?=c4 m->m.cells.length=o.sz:=by
  intro i m F
  by_cases ag:i<len
  .rw[dv (by omega),e0 ag] at F;exact Y.width i m F
  .rw[dt (by omega)] at F;exact aF _ m F
 have bv:∃(A:Value) (j:World) (q:Option (Nat×Nat)),(hL #[t,t] ty #[aJ.eval s,aJ.eval x]).run P a= .ok A j/\
  j.os=a.os/\j.tape=a.tape/\j.output=a.output/\a.heap.size<=j.heap.size/\(∀b,b<a.heap.size->(∀e,g.β r≠c4 (b,e))->j.heap[b]?=a.heap[b]?)/\
  (∀b e,q=c4 (b,e)->(∃L,g.β r=c4 (b,L))\/a.heap.size<=b)/\
  wG g H a j ⟨o.ty,o.sz,o.es.take len++c,v+1⟩ q/\
  (match q with
   |none=>len+c.length=0/\∃u,A= .slice u 0 0
   |some (b,e)=>A= .slice (c4 ⟨b,0,c6⟩) (len+c.length) e/\len+c.length<=e):=by
  have an:∀(T n:List Value) (cells:Array Value),T.length=len*o.sz->gI g H a o.sz c n->(∀i h l,i<len->abk o.es i h=c4 l->∃k,T[i*o.sz+h]?=c4 k/\k.oneCell'=true/\VR g H a l k)->
   cells.toList.take ((len+c.length)*o.sz)=T++n->∀i h l,abk (o.es.take len++c) i h=c4 l->∃k,cells[i*o.sz+h]?=c4 k/\k.oneCell'=true/\VR g H a l k:=by
   intro T n cells O D ah a4 i h l C;obtain⟨m,F,a8⟩:=gw C;have bD:=aB i m F;have ag:=(c7.1 F).1;rw[eH,ae] at ag;have bh:i*o.sz+h<(len+c.length)*o.sz:=by
    have:(i+1)*o.sz<=(len+c.length)*o.sz:=ev _ (by omega);rw[eo,hX] at this;omega
   have bi:cells[i*o.sz+h]?=(T++n)[i*o.sz+h]? :=by rw[<-a4,e0 bh,fe]
   rw[bi]
   by_cases aC:i<len
   .have av:abk o.es i h=c4 l:=by
     unfold abk at C⊢;rw[dv (by omega),e0 aC] at C;exact C
    obtain⟨k,M,B,I⟩:=ah i h l aC av;refine⟨k,?_,B,I⟩
    rw[dv (c7.1 M).1];exact M
   .have av:abk c (i -len) h=c4 l:=by
     unfold abk at C⊢;rw[dt (by omega),ae] at C;exact C
    obtain⟨k,M,B,I⟩:=D.2 _ _ _ av;refine⟨k,?_,B,I⟩
    have ax:i*o.sz=len*o.sz+(i -len)*o.sz:=by rw[<-eo];congr 1;omega
    rw[dt (by rw[O,ax];omega),O,ax];rw[show len*o.sz+(i -len)*o.sz+h -len*o.sz=(i -len)*o.sz+h by omega];exact M
  rw[bo];cases ad:g.β r with
  |none=>
   rw[ad] at aa;obtain⟨_,rfl,ap,au⟩:=aa;rw[au];have bw:o.es=[]:=by have:=Y.mem;rw[ad] at this;exact this
   rcases aL with rfl |⟨u,n,rfl,D,aj⟩
   .exact⟨_,a,c6,xr (gD N) R (ef _),rfl,rfl,rfl,ef _,λ_ _ _=>rfl,(λ_ _ f=>by cases f),by simp[wG],by simp⟩
   .by_cases az:c=[]
    .subst az;exact⟨_,a,c6,xr (gD N) R (ef _),rfl,rfl,rfl,ef _,λ_ _ _=>rfl,(λ_ _ f=>by cases f),by simp[wG],by simp⟩
    .have aV:0<c.length:=o9.2 az;have aM:n.length=c.length*K.size:=by rw[aE];exact D.1
     simp only[gx] at aS bd al;have bn:∃e,(hL #[t,t] ty #[.slice ap 0 0,.slice (c4 u) c.length S]).run P a= .ok (.slice (c4 ⟨a.heap.size,0,c6⟩) c.length e) (a.drew.alloc (.cells (n.toArray++m2 J.cells (e -c.length)) o.ty))/\c.length<=e/\e<=maxLen:=by
      refine⟨grownCap a c.length 0 o.ty,?_,grownCap_ge a _ _ _,grownCap_le_maxLen a _ _ _ al⟩
      cases ap with
      |none=>exact run_append_nil a t ty o.ty K J (gD N) G ak u c.length S n aM aj aV (by omega) (by rw[W];omega)
      |some bl=>
       have:=run_append_grow (P:=P) a t ty o.ty K J (gD N) G ak bl 0 0 [] (by simp) (by simp) u c.length S n aM aj (by omega) (by omega) (growslice_fits (by omega) (by rw[W,gx];omega));simpa using this
     obtain⟨e,V,aN,bq⟩:=bn;refine⟨_,_,c4 (a.heap.size,e),V,rfl,rfl,rfl,by simp,λb be _=>gv a.drew _ b be,λb L f=>by injection f with f;injection f with B I;exact .inr (by omega),?_,by simp,by simpa using aN⟩
     refine⟨_,heap_alloc_new a.drew _,?_,bq,by simpa using aN,?_⟩
     .simp only[oS,kc,size_zeroCells,ay,D.1, <-eo]
      congr 1
      omega
     .refine an [] n _ (by simp) D (λi h l G=>by omega) ?_
      simp only[Array.toList_append,o2,gx];rw[<-D.1];exact List.take_left
  |some U=>
   obtain⟨b,e⟩:=U;rw[ad] at aa;obtain⟨cap,ap,au,af,_,has⟩:=aa;obtain⟨rfl,rfl⟩:=has rfl;rw[au];have aD:=Y.mem;rw[ad] at aD;obtain⟨bE,aK,aQ,aA,aR,bz,a0⟩:=aD;have ah:∀i h l,i<len->abk o.es i h=c4 l->∃k,(aK.toList.take (len*o.sz))[i*o.sz+h]?=c4 k/\k.oneCell'=true/\VR g H a l k:=by
    intro i h l ag C;obtain⟨k,M,B,I⟩:=a0 i h l C;refine⟨k,?_,B,I⟩
    obtain⟨m,F,a8⟩:=gw C;have bB:=Y.width i m F;have bs:i*o.sz+h<len*o.sz:=by
     have:(i+1)*o.sz<=len*o.sz:=ev _ (by omega);rw[eo,hX] at this;omega
    rw[e0 bs,fe];exact M
   have O:(aK.toList.take (len*o.sz)).length=len*o.sz:=by
    have:len*o.sz<=cap*o.sz:=ev _ af;simp;omega
   have aG:c=[]->∃(A:Value) (j:World) (q:Option (Nat×Nat)),(hL #[t,t] ty #[.slice (c4 ⟨b,0,c6⟩) len cap,.slice a7 c.length S]).run P a= .ok A j/\
    j.os=a.os/\j.tape=a.tape/\j.output=a.output/\a.heap.size<=j.heap.size/\(∀w,w<a.heap.size->(∀e,c4 (b,cap)≠c4 (w,e))->j.heap[w]?=a.heap[w]?)/\
    (∀w e,q=c4 (w,e)->(∃L,c4 (b,cap)=c4 (w,L))\/a.heap.size<=w)/\
    wG g H a j ⟨o.ty,o.sz,o.es.take len++c,v+1⟩ q/\
    (match q with
     |none=>len+c.length=0/\∃u,A= .slice u 0 0
     |some (b,e)=>A= .slice (c4 ⟨b,0,c6⟩) (len+c.length) e/\len+c.length<=e):=by
    rintro rfl;refine⟨_,a,c4 (b,cap),xr (gD N) R af,rfl,rfl,rfl,ef _,λ_ _ _=>rfl,λw L f=>by injection f with f;injection f with B I;exact .inl ⟨cap,by rw[B]⟩,?_,by simp,by simpa using af⟩
    refine⟨aK,aQ,aA,aR,by simp;omega,an _ [] aK O ⟨by simp,by simp[abk]⟩ ah (by simp)⟩
   rcases aL with rfl |⟨u,n,rfl,D,aj⟩
   .exact aG rfl
   .have bt:a.ownsRow 0 o.ty o.sz (.slice (c4 ⟨b,0,c6⟩) len cap) len (aK.toList.take (len*o.sz)):=
     ⟨O,.inr ⟨b,cap,aK,rfl,pc _,aQ,af,aR,aA,rfl⟩⟩
    obtain⟨bA,j,V,a9,Z,_,aI⟩:=run_append_own_at (P:=P) a 0 t ty o.ty K J o.sz by_ (gD N) G ak aE W ay ab _ len _ bt u c.length S n D.1 aj (D.one ab aF) al aS (pc _);rcases a9.2 with⟨rfl,h0⟩ |⟨bj,a2,aP,rfl,_,ao,ai,aw,aq,am⟩
    .refine aG ?_
     have:c.length=0:=by omega
     exact e5 this
    .refine⟨_,j,c4 (bj,a2),V,Z.os,Z.tape,Z.output,Z.size,λw W bc=>Z.block w W (λm=>bc cap (by simp[q6] at m;rw[m])),λw L f=>?_,⟨aP,ao,aq,aw,by rw[eH,ae];exact ai,an _ n aP O D ah am⟩,rfl,ai⟩
     injection f with f
     injection f with B I
     subst B;simp only[q6] at aI;rcases aI with f |f
     .injection f with f
      exact .inl ⟨cap,by rw[f]⟩
     .injection f with f
      exact .inr (by omega)
 obtain⟨A,j,q,V,ao,ai,aw,aq,am,a5,ba,ac⟩:=bv;unfold n0;rw[Ei,V];obtain⟨aT,a6⟩:=X.m.set (o':=⟨o.ty,o.sz,o.es.take len++c,v+1⟩) aH ao ai aw aq am (by simp;omega) (λm=>absurd m (by simp;omega)) a5 ab aB ba;have bk:r<H.length:=(c7.1 aH).1;refine aU A j (g.push r q) _ _ ⟨rfl,rfl⟩ ?_ a6 aT
 refine .sl r (v+1) 0 _ ⟨o.ty,o.sz,o.es.take len++c,v+1⟩ A (by rw[ee bk]) (ef _) ?_ λ_=>?_
 .cases q with
  |none=>obtain⟨_,u,rfl⟩:=ac;rfl
  |some U=>obtain⟨b,e⟩:=U;obtain⟨rfl,_⟩:=ac;rfl
 .refine⟨by simp[ae],?_⟩
  rw[Gh.kg];cases q with
  |none=>
   obtain⟨h0,u,rfl⟩:=ac;exact⟨rfl,h0,u,rfl⟩
  |some U=>
   obtain⟨b,e⟩:=U;obtain⟨rfl,aX⟩:=ac;exact⟨e,_,rfl,aX,λ_=>by simp,λ_=>⟨rfl,rfl⟩⟩
end
section
variable {P:Program}{nt:Nat}{Q:fE}{E:Env}{H:List aO}{d:Option Nat}{ty:TypeId}{pos:String}{aft:Array Edge}{gd:Option (Nat×Bool)}{x y z:Operand}{t:TypeId}{all:Array Oper}{rest:List Oper}
def PO{h:Operand}{c j u:Nat}{p:PV}{a:List PV}{f:Value}(o:PE E h= .bg\/PE E h= .z0)(ak:PE E x=p)(Z:lE H p j a)(F:0<j)
 (M:dU P t=c4 c) (C:cH P c=c4 j) (aj:kB P c=c4 u) (S:dV P c=c4 f) (ae:f.cells.size=j) (av:a.length*u<=140737488355328) (aq:a.length<=9223372036854775807) (L:a≠[]):
 nY P E H ⟨d,.call {callee:=.builtin .append,args:=#[h,x],argTypes:=#[t,t]},ty,pos,aft,c6⟩ c j a (λq B=>.sl q B 0 a.length):=by
 have ab:∀g nt (r:Act) b,Rel g nt E H r b->∃s,r.eval h= .slice s 0 0:=λg nt r b m=>by
  rcases o with o |o
  .exact⟨c6,(o▸m.e.eval h).pF⟩
  .exact(o▸m.e.eval h).rh
 have al:a.length<=maxLen:=by unfold maxLen;omega
 intro g nt r b m;obtain⟨s,Y⟩:=ab g nt r b m;obtain⟨ap,au,v,V,aa⟩:=Z.real m.m (ak▸m.e.eval x) F;rcases aa with rfl |⟨A,n,rfl,w,N⟩
 .exact absurd rfl L
 cases l:P.info? c with
 |none=>simp[cH,l] at C
 |some k=>
 have D:k.zero=c4 f:=by simpa[dV,l] using S
 have af:k.size=j:=by simpa[cH,l] using C
 have K:k.bytes=u:=by simpa[kB,l] using aj
 have G:n.length=a.length*k.size:=by rw[af];exact w.1
 have ad:0<a.length:=o9.2 L;have T:∃e,(hL #[t,t] ty #[.slice s 0 0,.slice (c4 A) a.length v]).run P b= .ok (.slice (c4 ⟨b.heap.size,0,c6⟩) a.length e) (b.drew.alloc (.cells (n.toArray++m2 f.cells (e -a.length)) c))/\a.length<=e/\e<=maxLen:=by
  refine⟨grownCap b a.length 0 c,?_,grownCap_ge b _ _ _,grownCap_le_maxLen b _ _ _ al⟩
  cases s with
  |none=>exact run_append_nil b t ty c k f (gD M) l D A a.length v n G N ad (by omega) (by rw[K];omega)
  |some ao=>
   have:=run_append_grow (P:=P) b t ty c k f (gD M) l D ao 0 0 [] (by simp) (by simp) A a.length v n G N (by omega) (by omega) (growslice_fits (by omega) (by rw[K,gx];omega));simpa using this
 obtain⟨e,ag,I,ah⟩:=T;refine⟨n.toArray++m2 f.cells (e -a.length),e,.slice (c4 ⟨b.heap.size,0,c6⟩) a.length e,b.drew,?_,.inr rfl,F,ap,?_,ah,I,λi U X an=>?_,λaw ar ax q B ai O=>FO ai O I⟩
 .rw[Ei,Y,V,ag]
  rfl
 .simp only[oS,kc,size_zeroCells,ae,w.1, <-eo]
  congr 1
  omega
 .obtain⟨ac,J,W,R⟩:=w.2 i U X an;refine⟨ac,?_,W,R⟩
  have am:=(c7.1 J).1;rw[Array.getElem?_append_left (by simpa using am)];simpa using J
def Oh{s:Operand}{e a o q T K h:Nat}{p:PV}{c:List PV}{n:Value}(l:H[q]?=c4 ⟨T,K,[],h⟩)(f:PE E s= .bg\/PE E s= .z0)(v:PE E x=p)(u:lE H p a c)(m:0<a)
 (A:dU P t=c4 e) (r:cH P e=c4 a) (O:kB P e=c4 o) (C:dV P e=c4 n) (L:n.cells.size=a) (S:c.length*o<=140737488355328) (J:c.length<=9223372036854775807):
 fJ P ⟨d,.call {callee:=.builtin .append,args:=#[s,x],argTypes:=#[t,t]},ty,pos,aft,c6⟩ E H λU H1=>U= .sl q (h+1) 0 c.length/\H1=H.set q ⟨e,a,c,h+1⟩:=by
 have I:∀g nt (j:Act) i,Rel g nt E H j i->∃k,j.eval s= .slice k 0 0:=λg nt j i b=>by
  rcases f with f |f
  .exact⟨c6,(f▸b.e.eval s).pF⟩
  .exact(f▸b.e.eval s).rh
 have Z:c.length<=maxLen:=by unfold maxLen;omega
 by_cases w:c=[]
 .subst w;intro g nt j i b Y V F;obtain⟨k,G⟩:=I g nt j i b;obtain⟨_,W,X,D,_⟩:=u.real b.m (v▸b.e.eval x) m;unfold n0;rw[Ei,G,D,l0,xr (gD A) r (ef _)];have R:=(c7.1 l).1;obtain⟨B,M⟩:=b.m.set (o':=⟨e,a,[],h+1⟩) (p:=c6) l rfl rfl rfl (ef _) (λ_ _ _=>rfl) (by simp) (λN=>absurd N (by simp)) (by simp) m (by simp) rfl;refine F (.slice k 0 0) i (g.push q c6) _ _ ⟨rfl,rfl⟩ ?_ M B
  refine .sl _ (h+1) 0 0 ⟨e,a,[],h+1⟩ _ (by simp[R]) (ef _) rfl λ_=>⟨by simp,?_⟩
  rw[Gh.kg];exact⟨rfl,rfl,k,rfl⟩
 .exact sX l (PO f v u m A r O C L S J w)
def mU(E:Env)(f:Nat):Option Operand->Nat->Prop
 |none,a=>a=f
 |some e,a=>∃c b,PE E e= .int c b/\b=(a:Int)
def sQ{n:World}{A r:Nat}{p:Option Addr}{len cap a c:Nat}{f e:Option Operand}{h:Act}{g:Gh}{H:List aO}(u:fI g H n nt E h)(B:dU P t=c4 A)(k:cH P A=c4 r)(v:mU E 0 f a)(s:mU E len e c)(q:a<=c)(w:c<=cap):
 (j6 t (.slice p len cap) (f.map h.eval) (e.map h.eval) (c6:Option Value)).run P n= .ok (.slice (if cap=a then p else p.map (·.add (a*r))) (c -a) (cap -a)) n:=by
 have l:=gD B;have j:f=c6/\a=0\/∃b,f.map h.eval=c4 (.int b (a:Int)):=by
  cases f with
  |none=>exact .inl ⟨rfl,v⟩
  |some o=>
   obtain⟨b,C,m,rfl⟩:=v;exact .inr ⟨b,by simp[(m▸u.eval o).fQ]⟩
 have i:e=c6/\c=len\/∃b,e.map h.eval=c4 (.int b (c:Int)):=by
  cases e with
  |none=>exact .inl ⟨rfl,s⟩
  |some o=>
   obtain⟨b,C,m,rfl⟩:=s;exact .inr ⟨b,by simp[(m▸u.eval o).fQ]⟩
 have D:((c:Nat):Int)<=(cap:Int):=by omega
 have F:((a:Nat):Int)<=(c:Int):=by omega
 rcases j with⟨rfl,rfl⟩ |⟨b,j⟩ <;> rcases i with⟨rfl,rfl⟩ |⟨G,i⟩
 .simp[j6,m3,run_underlying l,j3,run_sizeOf k]
 .simp[j6,m3,run_underlying l,j3,run_sizeOf k,i,kh,asIntOf,w]
 .simp[j6,m3,run_underlying l,j3,run_sizeOf k,j,kh,asIntOf,q]
 .simp[j6,m3,run_underlying l,j3,run_sizeOf k,j,i,kh,asIntOf,q,w]
def FV{g:List PV}{b c i h:Nat}{f:PV}(a:abk ((g.take c).drop b) i h=c4 f):abk g (b+i) h=c4 f/\b+i<c:=by
 unfold abk at*;rw[ea] at a
 by_cases e:b+i<c
 .rw[e0 e] at a;exact⟨a,e⟩
 .rw[hI (by simp;omega)] at a;simp at a
def aaK{a J l h:Nat}{c C:List PV}{I v:Option Operand}(W:PE E x= .vs a c)(B:dU P t=c4 J)(u:cH P J=c4 a)(A:mU E 0 I l)(s:mU E c.length v h)(q:l<=h)(m:h<=c.length)(e:(c.take h).drop l=C):
 cM P ⟨d,.slice t x I v c6,ty,pos,aft,gd⟩ E H (.vs a C):=by
 intro g nt aa w o;have n:=W▸o.e.eval x;subst e;have D:((c.take h).drop l).length=h -l:=by simp;omega
 generalize r:aa.eval x=ab at n;cases n with
 |aW n=>
  cases n with
  |eX a K cap=>
   simp only[l0,Nat.le_zero] at m;subst m;have U:l=0:=by omega
   subst U;refine⟨.slice (if cap=0 then K else K.map (·.add (0*a))) (0 -0) (cap -0),?_,.aW (.eX a _ _)⟩
   have Z:mU E 0 v 0:=s;simp only[execOp,r,ie,gb,sQ o.e B u A Z q (pc _),ez,hz]
  |vs _ _ b p cap S G T M Y O L=>
   by_cases ad:l<h
   .refine⟨.slice (c4 ⟨b,p+l*a,c6⟩) (h -l) (cap -l),?_,?_⟩
    .have R:¬cap=l:=by omega
     simp only[execOp,r,ie,gb,sQ o.e B u A s q (hq m G),ez,hz,if_neg R,o1,h8]
    .have:=VI.vs (F:=g.F) (w:=w) a ((c.take h).drop l) b (p+l*a) (cap -l) (λi f=>S (l+i) f) (by omega) T
      (λi V e=>by
       rw[ea] at e
       by_cases N:l+i<h
       .rw[e0 N] at e;exact M _ V e
       .rw[hI (by simp;omega)] at e;cases e)
      (λi f j k=>by
       have:=Y (l+i) f j (FV k).1;rw[eo] at this;rw[<-this]
       congr 2
       omega)
      (λi f j k=>O _ _ j (FV k).1) (λi f j k=>L _ _ j (FV k).1)
     rw[D] at this;exact .aW this
   .have ac:l=h:=by omega
    have X:(c.take h).drop l=[]:=e5 (by rw[D];omega);rw[X];refine⟨.slice (if cap=l then c4 ⟨b,p,c6⟩ else(c4 ⟨b,p,c6⟩:Option Addr).map (·.add (l*a))) 0 (cap -l),?_,.aW (.eX a _ _)⟩
    simp only[execOp,r,ie,gb,sQ o.e B u A s q (hq m G),ez,hz];rw[show h -l=0 by omega]
def acJ{i b:Nat}{e c:Option Operand}(k:PE E x= .bg)(j:dU P t=c4 b)(l:cH P b=c4 i)(m:mU E 0 e 0)(f:mU E 0 c 0):
 cM P ⟨d,.slice t x e c c6,ty,pos,aft,gd⟩ E H .bg:=by
 intro g nt o n a;have h:=(k▸a.e.eval x).pF;refine⟨.slice c6 0 0,?_,.aW .bg⟩
 simp only[execOp,h,ie,gb,sQ a.e j l m f (ef _) (ef _),ez,hz]
 rfl
def SC{u r v q len l h:Nat}{c:aO}{lo hi:Option Operand}(K:PE E x= .sl r v q len)(j:ek H r c)(J:c.aF=v)(s:dU P t=c4 u)(o:cH P u=c4 c.sz)(p:mU E 0 lo l)(n:mU E len hi h)(w:l<=h)(D:h<=len):
 cM P ⟨d,.slice t x lo hi c6,ty,pos,aft,gd⟩ E H (.sl r v (q+l) (h -l)):=by
 intro g nt T O k;have a:=lh (K▸k.e.eval x) j J;have m:v<=c.aF:=by omega
 unfold SL at a;obtain⟨R,a⟩:=a;cases f:g.β r with
 |none=>
  rw[f] at a;obtain⟨rfl,rfl,e,i⟩:=a;have h0:h=0:=by omega
  have G:l=0:=by omega
  subst h0;subst G;refine⟨.slice e 0 0,?_,.sl r v _ _ c _ j m rfl λ_=>⟨by omega,?_⟩⟩
  .simp only[execOp,i,ie,gb,sQ k.e s o p n (ef _) (ef _),ez,hz]
   rfl
  .rw[f];exact⟨rfl,rfl,e,rfl⟩
 |some B=>
  obtain⟨b,M⟩:=B;rw[f] at a;obtain⟨cap,e,i,A,F,h0⟩:=a;refine⟨.slice (if cap=l then e else e.map (·.add (l*c.sz))) (h -l) (cap -l),?_,.sl r v _ _ c _ j m rfl λ_=>⟨by omega,?_⟩⟩
  .simp only[execOp,i,ie,gb,sQ k.e s o p n w (hq D A),ez,hz]
  .rw[f];refine⟨cap -l,_,rfl,by omega,λS=>?_,λN=>?_⟩
   .rw[if_neg (by omega),F (by omega),o1,h8,eo]
   .obtain⟨C,L⟩:=h0 (by omega);have I:l=0:=by omega
    subst I;subst C;refine⟨?_,by omega⟩
    split
    .rfl
    .simp[Addr.add_zero']
def Zm{c f:Nat}{e b:Operand}{j q:IntKind}{r:List PV}(l:lE H (PE E x) c r)(n:0<c)(s:dU P t=c4 f)(o:cH P f=c4 c)(k:PE E e= .int j 0)(u:PE E b= .int q 0):
 cM P ⟨d,.slice t x c6 (c4 e) (c4 b),ty,pos,aft,gd⟩ E H .z0:=by
 intro g nt w v a;obtain⟨_,h,cap,i,_⟩:=l.real a.m (a.e.eval x) n;refine⟨.slice h 0 0,?_,.aW (.z0 h)⟩
 have m:=(k▸a.e.eval e).fQ;have p:=(u▸a.e.eval b).fQ;simp[execOp,i,m,p,j6,m3,run_underlying (gD s),j3,run_sizeOf o,kh,asIntOf]
end
def MV(b:Nat):∀(e:List Value) (a:Nat) (c:Array Value),b+a+e.length<=c.size->
 (e.zipIdx a).foldl (λc p=>c.setIfInBounds (b+p.2) p.1) c=(c.toList.take (b+a)++e++c.toList.drop (b+a+e.length)).toArray
 |[],a,c,_=>by simp
 |m::e,a,c,g=>by
  rw[List.zipIdx_cons,List.foldl_cons,MV b e (a+1) _ (by simp at g⊢;omega)];simp only[my] at g
  congr 1
  apply List.ext_getElem?
  intro f;simp only[Array.toList_setIfInBounds,my]
  by_cases j:f<b+a
  .rw[eE,eE,dv (by simp;omega),dv (by simp;omega),e0 (by omega),e0 j,ey (by omega)]
  .by_cases k:f=b+a
   .subst k;rw[eE,eE,dv (by simp;omega),e0 (by omega),ee (by simp;omega),dt (by simp;omega)];have:min (b+a) c.size=b+a:=by omega
    simp[this]
   .rw[eE,eE,dt (l₁:=(c.toList.set (b+a) m).take (b+(a+1))) (by simp;omega),dt (l₁:=c.toList.take (b+a)) (by simp;omega)];have l:min (b+(a+1)) c.size=b+(a+1):=by omega
    have i:min (b+a) c.size=b+a:=by omega
    simp only[ft,o3,gy,l,i,List.cons_append];rw[show f - (b+a)=(f - (b+(a+1)))+1 by omega,List.getElem?_cons_succ]
    by_cases h:f - (b+(a+1))<e.length
    .rw[dv h,dv h]
    .rw[dt (by omega),dt (by omega),ea,ea,ey (by omega)]
     congr 1
     omega
def ajC{place:Nat->Option (Nat×Nat)}{cells:Array Value}{i a size:Nat}{v:Value}{rest:List (Nat×Value)}(c:place i=c4 (a,size))(b:v.cells.size=size)(f:a+size<=cells.size):
 kl place cells ((i,v)::rest)=kl place (cells.toList.take a++v.cells.toList++cells.toList.drop (a+size)).toArray rest:=by
 have e:(c3 (v.cells.size≠size)||c3 (a+v.cells.size>cells.size))=false:=by simp[b];omega
 simp only[kl,c];rw[if_neg (by simp[b];omega)]
 congr 1
 have:=MV a v.cells.toList 0 cells (by simp[b];omega);simp only[l1,gy,b] at this;rw[<-this, <-Array.foldl_toList,Array.toList_zipIdx]
def qn(E:Env):List (Nat×Operand)->List (Nat×PV)->Prop
 |[],[]=>True
 |(i,a)::r,(b,v)::c=>i=b/\PE E a=v/\qn E r c
 |_,_=>False
def mE(place:Nat->Option (Nat×Nat))(cells:List PV):List (Nat×PV)->Option (List PV)
 |[]=>c4 cells
 |(i,v)::r=>
  match place i with
  |none=>c6
  |some (a,size)=>bif e4 v.cells.length size&&hK (a+size) cells.length&&v.cells.all PV.one then mE place (cells.take a++v.cells++cells.drop (a+size)) r else c6
def DO(g:Gh)(H:List aO)(h:World)(e:List PV)(c:Array Value):Prop:=
 c.size=e.length/\∀(f:Nat) (b:PV),e[f]?=c4 b->∃a,c[f]?=c4 a/\a.oneCell'=true/\VR g H h b a
def BQ{g:Gh}{H:List aO}{u:World}{nt:Nat}{E:Env}{w:Act}(A:fI g H u nt E w)(place:Nat->Option (Nat×Nat)):∀(m:List (Nat×Operand)) (vs:List (Nat×PV)) (h:List PV) (f:Array Value) (j:List PV),
 qn E m vs->(∀i v,(i,v)∈vs->∀O,v≠ .bu O)->DO g H u h f->mE place h vs=c4 j->∃B,kl place f (m.map λ(i,x)=>(i,w.eval x))=c4 B/\DO g H u j B
 |[],[],h,f,j,_,_,c,a=>by
  simp only[mE,m4] at a;subst a;exact⟨f,rfl,c⟩
 |(i,D)::m,(U,v)::vs,h,f,j,R,C,c,a=>by
  obtain⟨rfl,M,J⟩:=R;simp only[mE] at a;cases q:place i with
  |none=>simp[q] at a
  |some p=>
   obtain⟨e,size⟩:=p;simp only[q] at a;cases l:(e4 v.cells.length size&&hK (e+size) h.length&&v.cells.all PV.one) with
   |false=>simp[l] at a
   |true=>
    rw[l] at a;simp only[cond_true] at a;simp only[p4] at l;obtain⟨⟨k,n⟩,N⟩:=l;have k:=h5 k;have n:=ei n;have F:=M▸A.eval D;obtain⟨L,S⟩:=F.tZ N (C i v (by simp));have o:(w.eval D).cells.size=size:=by simp at L;omega
    rw[ma,ajC q o (by rw[c.1];exact n)];refine BQ A place m vs _ _ j J (λi v T=>C i v (by simp[T])) ⟨?_,λr s b=>?_⟩ a
    .simp only[kc,eH,ft,j5,gy,c.1,o,k]
    .rw[kd];have I:min e f.size=e:=by rw[c.1];omega
     have K:min e h.length=e:=by omega
     by_cases G:r<e
     .rw[eE,dv (by simp;omega),e0 G] at b⊢;simpa using c.2 r s b
     .rw[eE,dt (by simp;omega)] at b⊢;simp only[ft,gy,I,K] at b⊢
      by_cases V:r -e<size
      .rw[dv (by omega)] at b;rw[dv (by simp;omega)];simpa using S _ s b
      .rw[dt (by omega),ea] at b;rw[dt (by simp;omega),ea];simp only[gy,k,o] at b⊢;simpa using c.2 _ s b
section
variable {P:Program}{nt:Nat}{Q:fE}{E:Env}{H:List aO}{d:Option Nat}{ty:TypeId}{pos:String}{aft:Array Edge}{gd:Option (Nat×Bool)}{x y z:Operand}{t:TypeId}{all:Array Oper}{rest:List Oper}
def Jk(P:Program)(t:TypeId):Option (List (Nat×Nat)):=
 match P.underlying t with
 |some (.struct a)=>a.toList.mapM λf=>(P.info? f.type).map λi=>(f.offset,i.size)
 |_=>c6
def aeV{v:Value}{b:PV}(c:jq v=b)(a:b.one=true):v.oneCell'=true:=by
 subst c;unfold jq at a
 split at a <;> first |rfl |(simp[PV.one] at a;done)
def Qu{g:Gh}{H:List aO}{e:World}{c:List Value}(i:(c.map jq).all PV.one=true):DO g H e (c.map jq) c.toArray:=by
 refine⟨by simp,λh f a=>?_⟩
 rw[e6] at a;cases b:c[h]? with
 |none=>simp[b] at a
 |some z=>
  simp[b] at a;refine⟨z,by simp[b],aeV a ?_,a▸ .aW (KQ _ _ _)⟩
  exact h7.1 i f (by rw[<-a];exact ng.2 ⟨z,dT b,rfl⟩)
def ahR{e:List (Nat×Operand)}{vs:List (Nat×PV)}{zs:List Value}{j c:List PV}{n:List (Nat×Nat)}(a:dV P t=c4 (.agg zs.toArray))(r:zs.map jq=j)(C:j.all PV.one=true)(b:Jk P t=c4 n)
 (q:qn E e vs) (G:∀i v,(i,v)∈vs->∀A,v≠ .bu A) (F:mE (n.toArray[·]?) j vs=c4 c):cM P ⟨d,.build t e.toArray,ty,pos,aft,gd⟩ E H (.agg c):=by
 intro g nt I w B;subst r;obtain⟨h,o,m⟩:=BQ B.e _ e vs _ _ c q G (Qu C) F;refine⟨.agg h,?_,?_⟩
 .have s:P.built t ((e.toArray.map λ(i,x)=>(i,I.eval x)).toList)=c4 h:=by
   unfold Jk at b;unfold dV at a;cases l:P.info? t with
   |none=>simp[l] at a
   |some K=>
    simp[l] at a
    split at b
    .rename_i J k;simp only[q8,l,k,a,b];simpa[o6] using o
    .cases b
  simp only[execOp,gb,run_build w t _ h s,ez]
  rfl
 .have:=VR.agg (g:=g) (H:=H) (w:=w) c h.toList (by simp[m.1]) (λi p x D f=>by
   obtain⟨L,k,_,u⟩:=m.2 i p D;rw[fe,k] at f;injection f with f
   exact f▸u)
  simpa using this
def VH{e:List (Nat×Operand)}{vs:List (Nat×PV)}{zs:List Value}{k c:List PV}{p m j:Nat}(a:dV P t=c4 (.agg zs.toArray))(B:zs.map jq=k)(I:k.all PV.one=true)(q:pk P t=c4 (p,m))(b:cH P m=c4 j)
 (u:qn E e vs) (L:∀i v,(i,v)∈vs->∀F,v≠ .bu F) (K:mE (λi=>c4 (i*j,j)) k vs=c4 c):cM P ⟨d,.build t e.toArray,ty,pos,aft,gd⟩ E H (.agg c):=by
 intro g nt M w G;subst B;obtain⟨h,r,o⟩:=BQ G.e _ e vs _ _ c u L (Qu I) K;refine⟨.agg h,?_,?_⟩
 .have C:P.built t ((e.toArray.map λ(i,x)=>(i,M.eval x)).toList)=c4 h:=by
   unfold dV at a;unfold cH at b;cases l:P.info? t with
   |none=>simp[l] at a
   |some N=>
    simp[l] at a;cases n:P.info? m with
    |none=>simp[n] at b
    |some R=>
     simp[n] at b;simp only[q8,l,Kn q,a,n,b];simpa[o6] using r
  simp only[execOp,gb,run_build w t _ h C,ez]
  rfl
 .have:=VR.agg (g:=g) (H:=H) (w:=w) c h.toList (by simp[o.1]) (λi s x J f=>by
   obtain⟨O,A,_,D⟩:=o.2 i s J;rw[fe,A] at f;injection f with f
   exact f▸D)
  simpa using this
def mY:Nat->List PV->List (Nat×PV)
 |_,[]=>[]
 |a,v::r=>(a,v)::mY (a+1) r
def NE(a:Nat):∀(c:List PV) (b:Nat) (f:List PV),(∀e∈c,e.cells.length=a/\e.cells.all PV.one=true)->f.length=(b+c.length)*a->
 mE (λi=>c4 (i*a,a)) f (mY b c)=c4 (f.take (b*a)++c.flatMap (·.cells))
 |[],b,f,_,j=>by
  simp only[mY,mE,List.flatMap_nil,q4];rw[hY (by simp at j;omega)]
 |e::c,b,f,h,j=>by
  obtain⟨g,m⟩:=h e (by simp);have o:(b+1)*a<=(b+(e::c).length)*a:=ev _ (by simp);rw[eo,hX] at o;have p:e4 e.cells.length a=true:=by rw[g];exact k7 a
  have k:hK (b*a+a) f.length=true:=Nat.ble_eq▸(by omega);simp only[mY,mE,p,k,m,Bool.and_true,cond_true];have n:(f.take (b*a)++e.cells++f.drop (b*a+a)).length=(b+1+c.length)*a:=by
   simp only[eH,ft,j5,g];have:(b+(e::c).length)*a=(b+1+c.length)*a:=by congr 1;simp;omega
   omega
  rw[NE a c (b+1) _ (λe l=>h e (by simp[l])) n]
  congr 1
  have q:min (b*a) f.length=b*a:=by omega
  rw[List.take_append_of_le_length (by simp[g];rw[eo];omega),hY (by simp[g];rw[eo];omega)];simp
def Om{g:Nat}:∀(c:List PV) (i a:Nat) (b:PV),(∀e∈c,e.cells.length=g)->abk c i a=c4 b->(c.flatMap (·.cells))[i*g+a]?=c4 b
 |[],i,a,b,_,f=>by simp[abk] at f
 |e::c,0,a,b,h,f=>by
  simp[abk] at f;rw[m5,qq,gx,dv (c7.1 f).1];exact f
 |e::c,i+1,a,b,h,f=>by
  have k:abk c i a=c4 b:=by simpa[abk] using f
  rw[m5,dt (by rw[h e (by simp),eo];omega),h e (by simp)];rw[show(i+1)*g+a -g=i*g+a by rw[eo];omega];exact Om c i a b (λe j=>h e (by simp[j])) k
def Pn{ps:List (Nat×Operand)}{es:List PV}{te sz n:Nat}{zv:Value}(D:qn E ps (mY 0 es))(ad:es.length=n)(ag:es.all (λa=>e4 a.cells.length sz&&a.cells.all PV.one)=true)(ac:∀a∈es,∀aa,a≠ .bu aa)
 (G:dU P t=c4 te) (B:cH P te=c4 sz) (L:dV P te=c4 zv) (ah:zv.cells.size=sz) (W:zv.cells.toList.all (·.oneCell')=true) (C:0<sz) (aj:n*sz<=16777216):
 nY P E H ⟨d,.buildSlice t n ps.toArray,ty,pos,aft,c6⟩ te sz es (λq A=>.sl q A 0 n):=by
 subst ad;have k:∀a∈es,a.cells.length=sz/\a.cells.all PV.one=true:=λa c=>by
  have:=h7.1 ag a c;simp only[p4] at this;exact⟨h5 this.1,this.2⟩
 intro g nt I s ab
 let z0:List Value:=(n2 (es.length*sz)).map λq=>zv.cells.getD (q%zv.cells.size) undef
 have X:DO g H s ((n2 (es.length*sz)).map λ_=>PV.any) z0.toArray:=by
  refine⟨by simp[z0],λf o h=>?_⟩
  have F:f<es.length*sz:=by
   have:=(c7.1 h).1;simpa using this
  rw[e6,h9 F] at h;simp at h;subst h;refine⟨zv.cells.getD (f%zv.cells.size) undef,by simp[z0,h9 F],?_,.any _⟩
  have u:f%zv.cells.size<zv.cells.size:=q5 _ (by omega);have:=h7.1 W (zv.cells[f%zv.cells.size]) (by simp);simpa[u] using this
 obtain⟨r,j,l⟩:=BQ ab.e (λi=>c4 (i*sz,sz)) ps (mY 0 es) _ _ _ D (λi v af=>by
  have:∀(m:Nat) (b:List PV),(i,v)∈mY m b->v∈b:=by
   intro m b
   induction b generalizing m with
   |nil=>simp[mY]
   |cons I b w=>
    simp only[mY,mb,Prod.mk.injEq];rintro(⟨_,rfl⟩ |e)
    .exact .inl rfl
    .exact .inr (w _ e)
  exact ac v (this 0 es af)) X (NE sz es 0 _ k (by simp))
 rw[qq,o7,o2] at l;have R:r.size=es.length*sz:=by
  rw[l.1];have:∀b:List PV,(∀a∈b,a.cells.length=sz)->(b.flatMap (·.cells)).length=b.length*sz:=λb=>by
   induction b with
   |nil=>simp
   |cons a b w=>intro e;rw[m5,eH,e a (by simp),w (λa c=>e a (by simp[c])),my,eo];omega
  exact this es λa c=>(k a c).1
 refine⟨r,es.length,.slice (c4 ⟨s.heap.size,0,c6⟩) es.length es.length,s,?_,.inl rfl,C,λi a c=>(k a (dT c)).1,R,?_,ef _,λi f o h=>?_,λak ai al q A V J=>FO V J (ef _)⟩
 .have M:(Array.range (es.length*sz)).map (λx=>zv.cells[x%zv.cells.size]!)=z0.toArray:=by
   apply Array.ext'
   rw[Array.toList_map,Array.toList_range];show _=z0
   apply List.map_congr_left
   intro q _;have u:q%zv.cells.size<zv.cells.size:=q5 _ (by omega);simp[u]
  by_cases h0:es.length*sz=0
  .have Y:es=[]:=by
    rcases Nat.mul_eq_zero.1 h0 with e |e
    .exact e5 e
    .omega
   subst Y;have K:ps=[]:=by
    cases ps with
    |nil=>rfl
    |cons p ps=>simp[mY,qn] at D
   subst K;have U:z0=[]:=by simp[z0]
   rw[U] at j;simp[kl] at j;subst j;simp[execOp,p6,run_underlying (gD G),run_sizeOf B,kl,newRow,Array.range_zero']
  .have O:¬(16777216<es.length*sz):=by omega
   have N:kl (λi=>c4 (i*sz,sz)) z0.toArray (ps.map λp=>(p.1,I.eval p.2))=c4 r:=j;simp[execOp,p6,run_underlying (gD G),run_sizeOf B,O,h0,Ey L,M,N,newRow]
 .have:es.length<=es.length*sz:=ga _ C;unfold maxLen;omega
 .obtain⟨S,T,Z,ae⟩:=l.2 _ o (Om es i f o (λa c=>(k a c).1) h);exact⟨S,T,Z,ae⟩
end
def VR.ub{g:Gh}{H:List aO}{w:World}{r v:Nat}{c:aO}{x:Value}(h:VR g H w (.fl r v) x)(e:ek H r c)(n:c.aF=v):VR g H w (.sl r v 0 c.es.length) x:=by
 cases h with
 |aW h=>cases h
 |fl _ _ m _ a k j l=>
  unfold ek at e;rw[e] at a;injection a with a
  subst a;exact .sl r v 0 _ c x e k j l
def VR.aa1{g:Gh}{H:List aO}{w:World}{r v n:Nat}{c:aO}{x:Value}(h:VR g H w (.sl r v 0 n) x)(e:ek H r c)(l:n=c.es.length):VR g H w (.fl r v) x:=by
 subst l;cases h with
 |aW h=>cases h
 |sl _ _ _ _ o _ a k j m=>
  unfold ek at e;rw[e] at a;injection a with a
  subst a;exact .fl r v c x e k j m
def fI.fl{g:Gh}{H:List aO}{e:World}{nt:Nat}{E:Env}{a:Act}{t r v:Nat}{c:aO}(h:fI g H e nt E a)(l:look E t= .fl r v)(m:ek H r c)(k:c.aF=v):fI g H e nt ((t,.sl r v 0 c.es.length)::E) a:=
 ⟨h.defers,h.size,λs=>by
  by_cases j:t=s
  .subst j;rw[ni];exact(l▸h.at_ t).ub m k
  .rw[Ar _ _ j];exact h.at_ s⟩
def RO{P:Program}{b:Oper}{E:Env}{H:List aO}{t r v:Nat}{a:aO}{p:PV}(i:look E t= .fl r v)(j:ek H r a)(h:a.aF=v)(f:cM P b ((t,.sl r v 0 a.es.length)::E) H p):cM P b E H p:=
 λg nt k e c=>f g nt k e ⟨c.m,c.e.fl i j h⟩
def yP{P:Program}{b:Oper}{E:Env}{H:List aO}{t r v:Nat}{a:aO}{c:PV->List aO->Prop}(j:look E t= .fl r v)(k:ek H r a)(i:a.aF=v)(h:fJ P b ((t,.sl r v 0 a.es.length)::E) H c):fJ P b E H c:=
 λg nt m f e l n o=>h g nt m f ⟨e.m,e.e.fl j k i⟩ l n o
end Go.Bml
namespace Go.X
open Go Go.Aml Go.Bml
structure Ty where
 T:Type
 enc:T->PV
inductive TV (D:Nat->Type):Type where
 |any
 |z0
 |fS
 |bg
 |dB
 |int (k:IntKind) (n:Int)
 |bool (b:Bool)
 |str (s:ByteArray)
 |row (n:Nat) (xs:List (D n))
 |rv (n:Nat) (ts:List (TV D))
 |ptr (r v i j:Nat)
 |fl (r v:Nat)
 |sl (r v off len:Nat)
 |vp (cs:List (TV D)) (j:Nat)
 |agg (cs:List (TV D))
 |bu (cs:List (TV D))
 |fn (f:Nat) (cs ds:List (TV D))
 |jC (o:Option Nat)
 deriving Inhabited
inductive Bd (D:Nat->Type):Type where
 |aap (n:Nat) (xs:List (D n))
 |box (ty:Nat) (cs:List (TV D))
 |dead
 |hole (n:Nat) (xs:List (D n)) (es:List (TV D))
structure Ob (D:Nat->Type) where
 st:Nat
 aF:Nat
 bd:Bd D
abbrev En(a:Nat->Type):=List (Nat×TV a)
structure St (D:Nat->Type) where
 E:En D
 H:List (Ob D)
structure Tb where
 ty:Nat->Ty
 tv:(n:Nat)->(ty n).T->TV (λn=>(ty n).T)
 up:(n:Nat)->TV (λn=>(ty n).T)->Option (ty n).T
 sz:Nat->Nat
 flat:Nat->Bool
 el:Nat->Nat
@[reducible] def Tb.D(B:Tb)(n:Nat):Type:=(B.ty n).T
def nth{a:Type}:List a->Nat->Option a
 |[],_=>c6
 |d::_,0=>c4 d
 |_::b,c+1=>nth b c
def me{a:Type}:List a->Nat->a->List a
 |[],_,_=>[]
 |_::c,0,b=>b::c
 |e::c,d+1,b=>e::me c d b
def b8{a:Type}:List a->List (Nat×a)->List a
 |b,[]=>b
 |b,p::c=>b8 (me b p.1 p.2) c
def aX{b:Type}:List b->List b->List b
 |[],a=>a
 |d::c,a=>d::aX c a
def len{a:Type}:List a->Nat
 |[]=>0
 |_::b=>Nat.succ (len b)
def has:List Nat->Nat->Bool
 |[],_=>false
 |c::b,a=>bif e4 c a then true else has b a
def lk{b:Nat->Type}:En b->Nat->TV b
 |[],_=>.any
 |p::r,a=>bif e4 p.1 a then p.2 else lk r a
def fV(a b:IntKind):Bool:=c3 (a=b)
def Cs{e:Nat->Type}:Value->TV e
 | .bool b=>.bool b
 | .int a c=>.int a c
 | .string d=>.str d
 | .pointer c6=>.fS
 | .slice c6 0 0=>.bg
 | .nilFunc=>.dB
 |_=>.any
def rq{D:Nat->Type}:List Value->List (TV D)
 |[]=>[]
 |v::a=>Cs v::rq a
def cv{D:Nat->Type}:Value->TV D
 | .agg a=>.agg (rq a.toList)
 |v=>Cs v
def pe{a:Nat->Type}(c:En a):Operand->TV a
 | .tmp b=>lk c b
 | .const v=>cv v
 | .global _=>.any
 | .func f=>.fn f [] []
def fB{b:Nat->Type}(a:En b):List Operand->List (TV b)
 |[]=>[]
 |d::c=>pe a d::fB a c
def tr{a b:Type}(e:Option a)(c:a->Option b):Option b:=
 match e with
 |some d=>c d
 |none=>c6
inductive CP where
 |any
 |v (n:Nat)
 |p (q:Nat)
 |r (q:Nat)
 |q (cs:List CP)
 |f (cO:Nat) (cs ds:List CP)
 |g (cs:List CP)
 |b (b:Bool)
 |i (k:IntKind) (n:Int)
 |z
 |ns
 deriving Inhabited
inductive OP where
 |aap (m n:Nat)
 |box (ty:Nat) (cs:List CP)
 |dead
 |refs (m:Nat) (qs:List Nat)
 deriving Inhabited
def iQ:List Nat->List CP
 |[]=>[]
 |q::a=>.r q::iQ a
structure bY where
 dF:List (Nat×List Nat×OP)
 dE:List (Nat×CP)
 deriving Inhabited
mutual
def CP.bX:CP->List Nat
 | .v n=>[n]
 | .q a=>CP.gA a
 | .f _ a c=>aX (CP.gA a) (CP.gA c)
 | .g a=>CP.gA a
 |_=>[]
def CP.gA:List CP->List Nat
 |[]=>[]
 |c::a=>aX c.bX (CP.gA a)
end
def OP.bX:OP->List Nat
 | .aap _ n=>[n]
 | .box _ c=>CP.gA c
 | .dead=>[]
 | .refs _ a=>CP.gA (iQ a)
def vu:List (Nat×CP)->List Nat
 |[]=>[]
 |b::a=>aX b.2.bX (vu a)
def rS:List (Nat×List Nat×OP)->List Nat
 |[]=>[]
 |a::b=>aX a.2.2.bX (rS b)
def bY.bX(p:bY):List Nat:=aX (rS p.dF) (vu p.dE)
structure lD where
 dO:List (Nat×Bool×OP)
 new:List (Nat×List Nat×OP)
 dE:List (Nat×CP)
 deriving Inhabited
def ux:List (Nat×Bool×OP)->List Nat
 |[]=>[]
 |a::b=>aX a.2.2.bX (ux b)
def lD.bX(p:lD):List Nat:=aX (ux p.dO) (aX (rS p.new) (vu p.dE))
def bi(b:Nat->Type):List Nat->Type
 |[]=>Unit
 |[a]=>b a
 |a::c::ns=>b a×bi b (c::ns)
section
variable (B:Tb){R:Type}
def m9:(ns:List Nat)->List (TV B.D)->(bi B.D ns->Option R)->Option R
 |[],[],a=>a ()
 |[c],[b],a=>tr (B.up c b) a
 |c::f::ns,b::d,a=>tr (B.up c b) λe=>m9 (f::ns) d λg=>a (e,g)
 |_,_,_=>c6
def rQ:(ns:List Nat)->bi B.D ns->List (TV B.D)
 |[],_=>[]
 |[b],a=>[B.tv b a]
 |b::c::ns,a=>B.tv b a.1::rQ (c::ns) a.2
end
def dN{a:Nat->Type}:TV a->List (TV a)
 | .agg c=>c
 |b=>[b]
def aK{b:Nat->Type}(c:List (Ob b))(r v:Nat):Option (Bd b):=
 match nth c r with
 |some a=>bif e4 a.aF v then c4 a.bd else c6
 |none=>c6
def ml{a:Nat->Type}(c:List (Ob a))(d:List Nat):TV a->TV a
 | .fl r v=>match aK c r v with
  |some (.aap e b)=>bif has d r then .any else .row e b
  |_=>.any
 |_=>.any
def qf{a:Nat->Type}(b:List (Ob a))(c:List Nat):List (TV a)->List (TV a)
 |[]=>[]
 |d::e=>ml b c d::qf b c e
def DA{b:Nat->Type}:List (TV b)->Bool
 |[]=>true
 | .fl _ _::a=>DA a
 |_::_=>false
mutual
def kJ{e:Nat->Type}(b:List (Ob e))(a:List Nat):TV e->TV e
 | .fl r v=>match aK b r v with
  |some (.aap c d)=>bif has a r then .any else .row c d
  |some (.hole c [] h)=>bif has a r then .any else bif DA h then .rv c (qf b a h) else .any
  |_=>.any
 | .sl r v k len=>match aK b r v with
  |some (.aap c d)=>bif has a r then .any else .row c ((d.drop k).take len)
  |_=>.any
 | .agg g=>.agg (jS b a g)
 | .fn f g j=>.fn f (jS b a g) (jS b a j)
 | .ptr .. =>.any
 | .bu _=>.any
 |i=>i
def jS{a:Nat->Type}(b:List (Ob a))(c:List Nat):List (TV a)->List (TV a)
 |[]=>[]
 |d::e=>kJ b c d::jS b c e
end
mutual
def refs{c:Nat->Type}:TV c->List Nat
 | .fl r _=>[r]
 | .sl r _ _ _=>[r]
 | .ptr r _ _ _=>[r]
 | .agg a=>iB a
 | .bu a=>iB a
 | .fn _ a b=>aX (iB a) (iB b)
 |_=>[]
def iB{c:Nat->Type}:List (TV c)->List Nat
 |[]=>[]
 |b::a=>aX (refs b) (iB a)
end
def kY{d:Nat->Type}(a:List (Ob d)):List Nat->List Nat
 |[]=>[]
 |r::b=>match nth a r with
  |some ⟨_,_,.hole _ [] c⟩=>aX (iB c) (kY a b)
  |_=>kY a b
def qE{f:Nat->Type}(a:List (Ob f)):TV f->List Nat->TV f
 |e,[]=>e
 |e,c::d=>match e with
  | .fn _ _ g=>qE a ((nth g c).getD .any) d
  | .agg b=>qE a ((nth b c).getD .any) d
  | .ptr r v 0 0=>match aK a r v with
   |some (.box _ b)=>qE a ((nth b c).getD .any) d
   |_=>.any
  | .fl r v=>match aK a r v with
   |some (.hole _ [] b)=>qE a ((nth b c).getD .any) d
   |_=>.any
  |_=>.any
inductive Rf where
 |bG (r:Nat)
 |new
 |gone
 |bad
def Tf{b:Nat->Type}(a:List (Ob b)):TV b->Rf
 | .fl r v=>match aK a r v with
  |some (.aap _ _)=>.bG r
  |some (.hole _ _ _)=>.bG r
  |_=>.bad
 | .ptr r v 0 0=>match aK a r v with
  |some (.box _ _)=>.bG r
  |_=>.bad
 | .bg=>.new
 | .z0=>.new
 |_=>.bad
def U7{d:Nat->Type}(a:List (Ob d))(r:Nat):List Nat->Rf
 |[]=>.bG r
 |c::b=>match nth a r with
  |some e=>Tf a (qE a (.ptr r e.aF 0 0) (c::b))
  |none=>.bad
def nQ{D:Nat->Type}(b:St D):List (Nat×List Nat×OP)->List Rf
 |[]=>[]
 |a::c=>(bif hK 100000 a.1 then U7 b.H (a.1 -100000) a.2.1 else Tf b.H (qE b.H (lk b.E a.1) a.2.1))::nQ b c
def bL:List Rf->List Nat
 |[]=>[]
 | .bG r::a=>r::bL a
 |_::a=>bL a
def rj:List Nat->Bool
 |[]=>true
 |b::a=>bif has a b then false else rj a
def JG:List Rf->Bool
 |[]=>true
 | .bad::_=>false
 |_::a=>JG a
mutual
def MG:CP->Bool
 | .p _=>false
 | .r _=>false
 | .q a=>ow a
 | .f _ a b=>bif ow a then ow b else false
 | .g a=>ow a
 |_=>true
def ow:List CP->Bool
 |[]=>true
 |b::a=>bif MG b then ow a else false
end
def cat{a:Type}:Option (List a)->Option (List a)->Option (List a)
 |some c,c4 b=>c4 (aX c b)
 |_,_=>c6
mutual
def eR{j:Nat->Type}(c:List (Ob j))(d:List Rf)(g:List Nat):CP->TV j->Option (List (TV j))
 | .any,_=>c4 []
 | .v _,a=>c4 [kJ c g a]
 | .p q,a=>match a with
  | .ptr r v 0 0=>match aK c r v,nth d q with
   |some (.box _ _),c4 (.bG i)=>bif e4 r i then c4 [] else c6
   |_,_=>c6
  |_=>c6
 | .r q,a=>match a with
  | .fl r v=>match aK c r v,nth d q with
   |some (.aap _ _),c4 (.bG i)=>bif e4 r i then c4 [] else c6
   |some (.hole _ _ _),c4 (.bG i)=>bif e4 r i then c4 [] else c6
   |_,_=>c6
  | .bg=>match nth d q with
   |some .new=>c4 []
   |_=>c6
  | .z0=>match nth d q with
   |some .new=>c4 []
   |_=>c6
  |_=>c6
 | .q e,a=>match a with
  | .ptr r v 0 0=>match aK c r v with
   |some (.box _ h)=>bif has g r then c6 else bif ow e then fg c d g e h else c6
   |_=>c6
  | .vp h 0=>bif ow e then fg c d g e h else c6
  |_=>c6
 | .f n e t,a=>match a with
  | .fn f h m=>bif e4 f n then cat (fg c d g e h) (fg c d g t m) else c6
  |_=>c6
 | .g e,a=>match a with
  | .agg h=>fg c d g e h
  |_=>c6
 | .b b,a=>match a with
  | .bool l=>bif Bool.xor b l then c6 else c4 []
  |_=>c6
 | .i k o,a=>match a with
  | .int s p=>bif fV k s then bif c3 (p=o) then c4 [] else c6 else c6
  |_=>c6
 | .ns,a=>match a with
  | .bg=>c4 []
  |_=>c6
 | .z,a=>match a with
  | .dB=>c4 []
  |_=>c6
def fg{a:Nat->Type}(b:List (Ob a))(c:List Rf)(d:List Nat):List CP->List (TV a)->Option (List (TV a))
 |[],[]=>c4 []
 |g::h,f::e=>cat (eR b c d g f) (fg b c d h e)
 |_,_=>c6
end
def dn{d:Nat->Type}(a:List (Ob d))(e:List Rf)(f:List Nat):OP->Rf->Option (List (TV d))
 | .aap b _,.bG r=>match nth a r with
  |some ⟨_,_,.aap c h⟩=>bif e4 b c then c4 [.row c h] else c6
  |_=>c6
 | .aap b _,.new=>c4 [.row b []]
 | .box j k,.bG r=>match nth a r with
  |some ⟨_,_,.box l m⟩=>bif e4 j l then fg a e f k m else c6
  |_=>c6
 | .refs b g,.bG r=>match nth a r with
  |some ⟨_,_,.hole c [] i⟩=>bif e4 b c then fg a e f (iQ g) i else c6
  |_=>c6
 |_,_=>c6
def iP{b:Nat->Type}(a:List (Ob b))(c:List Rf)(d:List Nat):List (Nat×List Nat×OP)->List Rf->Option (List (TV b))
 |[],[]=>c4 []
 |f::e,i::g=>cat (dn a c d f.2.2 i) (iP a c d e g)
 |_,_=>c6
def oz{c:Nat->Type}(a:St c)(d:List Rf)(e:List Nat):List (Nat×CP)->Option (List (TV c))
 |[]=>c4 []
 |b::f=>cat (eR a.H d e b.2 (lk a.E b.1)) (oz a d e f)
def leaves{c:Nat->Type}(p:bY)(b:St c)(a:List Rf):Option (List (TV c)):=
 bif JG a then bif rj (bL a) then cat (iP b.H a (bL a) p.dF a) (oz b a (bL a) p.dE) else c6 else c6
def qH{c:Nat->Type}(b:List (Ob c)):Nat->Nat->List Rf->Bool
 |0,_,_=>true
 |f+1,a,.bG r::e=>bif e4 r a then(match nth b r with |some d=>bif e4 d.aF 0 then qH b f (a+1) e else false |none=>false) else false
 |_,_,_=>false
section
variable {B:Tb}{R:Type}
def take(B:Tb)(e:Nat)(p:bY)(a:St B.D)(c:bi B.D p.bX->Option R):Option R:=
 let b:=nQ a p.dF
 bif qH a.H e 0 b then tr (leaves p a b) λd=>m9 B p.bX d c else c6
mutual
def hO{f:Nat->Type}(c:Nat->Nat×Nat):CP->List (TV f)->TV f×List (TV f)
 | .any,a=>(.any,a)
 | .v _,k::a=>(k,a)
 | .v _,[]=>(.any,[])
 | .p q,a=>(.ptr (c q).1 (c q).2 0 0,a)
 | .r q,a=>(.fl (c q).1 (c q).2,a)
 | .q d,a=>match jD c d a with
  |(e,a)=>(.vp e 0,a)
 | .f i d l,a=>match jD c d a with
  |(e,a)=>match jD c l a with
   |(h,a)=>(.fn i e h,a)
 | .g d,a=>match jD c d a with
  |(e,a)=>(.agg e,a)
 | .b b,a=>(.bool b,a)
 | .i g j,a=>(.int g j,a)
 | .z,a=>(.dB,a)
 | .ns,a=>(.bg,a)
def jD{b:Nat->Type}(c:Nat->Nat×Nat):List CP->List (TV b)->List (TV b)×List (TV b)
 |[],a=>([],a)
 |d::e,a=>match hO c d a with
  |(f,a)=>match jD c e a with
   |(g,a)=>(f::g,a)
end
def dI{c:Nat->Type}(e:Nat->Nat×Nat)(b v:Nat):OP->List (TV c)->Ob c×List (TV c)
 | .aap _ _,k::a=>match k with
  | .row l g=>(⟨b,v,.aap l g⟩,a)
  |_=>(⟨b,v,.dead⟩,a)
 | .aap _ _,[]=>(⟨b,v,.dead⟩,[])
 | .box h i,a=>match jD e i a with
  |(d,a)=>(⟨b,v,.box h d⟩,a)
 | .dead,a=>(⟨b,v,.dead⟩,a)
 | .refs j f,a=>match jD e (iQ f) a with
  |(d,a)=>(⟨b,v,.hole j [] d⟩,a)
def lM{c:Nat->Type}(b:Nat->Nat×Nat)(q:Nat):List (Nat×List Nat×OP)->List (TV c)->List (Ob c)×List (TV c)
 |[],a=>([],a)
 |e::d,a=>match dI b 0 (b q).2 e.2.2 a with
  |(f,a)=>match lM b (q+1) d a with
   |(g,a)=>(f::g,a)
def gR{d:Nat->Type}(b:Nat->Nat×Nat):List (Nat×CP)->List (TV d)->List (Nat×TV d)
 |[],_=>[]
 |c::e,a=>match hO b c.2 a with
  |(f,a)=>(c.1,f)::gR b e a
def nI(B:Tb)(a:Nat->Nat×Nat)(p:bY)(d:bi B.D p.bX):St B.D:=
 match lM a 0 p.dF (rQ B p.bX d) with
 |(b,c)=>⟨gR a p.dE c,b⟩
def cz(B:Tb)(p:bY)(a:bi B.D p.bX):St B.D:=nI B (λq=>(q,0)) p a
def dJ{c:Nat->Type}(b:List (Ob c))(r:Nat):Nat:=(match nth b r with |some a=>a.st |none=>0)+1
def OP.qj:OP->Bool
 | .dead=>true
 |_=>false
def gone:List (Nat×Bool×OP)->Nat->Bool
 |[],_=>false
 |a::b,r=>bif e4 a.1 r then a.2.2.qj else gone b r
def bN:List (Nat×Bool×OP)->Nat->Bool
 |[],_=>false
 |a::b,r=>bif e4 a.1 r then true else bN b r
def nL(b:List (Nat×Bool×OP)):Nat->Nat->List Rf->List Rf
 |0,_,a=>a
 |c+1,r,a=>(bif gone b r then .gone else .bG r)::nL b c (r+1) a
def calm{a:Nat->Type}(b:List (Nat×Bool×OP)):Nat->List (Ob a)->List (Ob a)->Bool
 |_,[],_=>true
 |r,f::d,c::e=>bif (bif bN b r then true else e4 f.st c.st) then calm b (r+1) d e else false
 |_,_::_,[]=>false
def wH{f:Nat->Type}(c d:List (Ob f)):List (Nat×Bool×OP)->Bool
 |[]=>true
 |a::e=>bif a.2.1 then(match nth c a.1,nth d a.1 with
  |some g,c4 b=>bif a.2.2.qj then false else bif e4 g.aF b.aF then wH c d e else false
  |_,_=>false) else bif m1 a.1 (len c) then wH c d e else false
def ET(a:List Nat):List (Nat×CP)->Bool
 |[]=>true
 |c::b=>bif has a c.1 then ET a b else false
def pX{c:Nat->Type}(b:List (Ob c))(d:List Rf)(e:List Nat):List (Nat×Bool×OP)->Option (List (TV c))
 |[]=>c4 []
 |a::f=>cat (bif a.2.2.qj then c4 [] else dn b d e a.2.2 (.bG a.1)) (pX b d e f)
def DZ:List (Nat×Bool×OP)->List Nat
 |[]=>[]
 |a::b=>a.1::DZ b
def zE(b:Nat):List (Nat×Bool×OP)->Bool
 |[]=>true
 |a::c=>bif (bif hK b a.1 then true else bif a.2.1 then(bif a.2.2.qj then false else true) else false) then zE b c else false
def nW(B:Tb)(h:Nat)(e:St B.D)(i:List Nat)(p:lD)(a:St B.D)(f:bi B.D p.bX->Option R):Option R:=
 let d:=nQ a p.new
 let b:=nL p.dO (len e.H) 0 d
 let c:=bL b
 bif zE h p.dO then bif ET i p.dE then bif JG d then bif rj c then bif rj (DZ p.dO) then bif calm p.dO 0 e.H a.H then bif wH e.H a.H p.dO then
  tr (cat (pX a.H b c p.dO) (cat (iP a.H b c p.new d) (oz a b c p.dE))) λg=>m9 B p.bX g f
 else c6 else c6 else c6 else c6 else c6 else c6 else c6
def mw{e:Nat->Type}(d:List (Ob e))(b:List (Nat×Bool×OP))(q:Nat):Nat:=
 match nth d q with
 |some a=>bif bN b q then(bif kv b q then a.aF else a.aF+1) else a.aF
 |none=>1
where kv:List (Nat×Bool×OP)->Nat->Bool
 |[],_=>false
 |a::c,r=>bif e4 a.1 r then a.2.1 else kv c r
def pU{b:Nat->Type}(e:List (Ob b))(d:Nat->Nat×Nat):List (Nat×Bool×OP)->List (TV b)->List (Nat×Ob b)×List (TV b)
 |[],a=>([],a)
 |c::f,a=>match dI d (dJ e c.1) (d c.1).2 c.2.2 a with
  |(g,a)=>match pU e d f a with
   |(h,a)=>((c.1,g)::h,a)
def mN{b:Nat->Type}(a:List Nat):En b->En b
 |[]=>[]
 |p::r=>bif has a p.1 then mN a r else p::mN a r
def ik(B:Tb)(a:St B.D)(g:List Nat)(p:lD)(e:bi B.D p.bX):St B.D:=
 let b:=λq=>(q,mw a.H p.dO q)
 match pU a.H b p.dO (rQ B p.bX e) with
 |(f,c)=>match lM b (len a.H) p.new c with
  |(d,c)=>⟨aX (gR b p.dE c) (mN g a.E),aX (b8 a.H f) d⟩
end
structure aq (B:Tb) where
 cO:Nat
 na:Nat
 low:Nat
 par:bY
 az:bY
 F:bi B.D par.bX->Option (bi B.D az.bX)
structure cr (D:Nat->Type) where
 val:TV D
 wr:List (Nat×Ob D)
 nw:Nat
 rd:List Nat
section
variable (B:Tb)(P:Program){R:Type}
def drop{b:Type}:Nat->List b->List b
 |0,a=>a
 |_+1,[]=>[]
 |c+1,_::a=>drop c a
def tk{a:Type}:Nat->List a->List a
 |0,_=>[]
 |_+1,[]=>[]
 |c+1,d::b=>d::tk c b
def piece{d:Nat->Type}(c:TypeId)(b:List (TV d))(a:Nat):Option (TV d):=
 match dP P c with
 |some true=>match cH P c with
  |some e=>bif hK (a+e) (len b) then c4 (.agg (tk e (drop a b))) else c6
  |none=>c6
 |some false=>nth b a
 |none=>c6
def A6{a:Nat->Type}(c:TypeId->TV a->TV a->Option Bool)(d e:List (TV a)):List Field->Option Bool
 |[]=>c4 true
 |f::g=>bif f.name != "_" then(match piece P f.type d f.offset,piece P f.type e f.offset with
  |some h,c4 b=>(match c f.type h b,A6 c d e g with
   |some p,c4 q=>c4 (p&&q)
   |_,_=>c6)
  |_,_=>c6) else c6
def yq{f:Nat->Type}:Nat->TypeId->TV f->TV f->Option Bool
 |0,_,_,_=>c6
 |h+1,e,a,d=>match P.underlying e with
  |some .bool=>(match a,d with
   | .bool c,.bool b=>c4 (c==b)
   |_,_=>c6)
  |some (.int _)=>(match a,d with
   | .int c k,.int b l=>bif fV c b then c4 (k==l) else c6
   |_,_=>c6)
  |some (.struct g)=>bif P.stoodInHeld e then c6 else(match a,d with
   | .agg j,.agg i=>A6 P (yq h) j i g.toList
   |_,_=>c6)
  |_=>c6
def LM(P:Program)(a:TypeId):Bool:=match P.underlying a with |some (.func ..)=>true |_=>false
def bin(g:BinOp)(f:TypeId)(k l:TV B.D)(c:TV B.D->Option R):Option R:=
 match k,l with
 | .int a d,.int b e=>match g with
  | .add=>bif fV a b then c (.int a (a.wrap (d+e))) else c6
  | .sub=>bif fV a b then c (.int a (a.wrap (d -e))) else c6
  | .mul=>bif fV a b then c (.int a (a.wrap (d*e))) else c6
  | .quo=>bif fV a b then(ph a d e).bind λr=>c (.int a r) else c6
  | .rem=>bif fV a b then(nG d e).bind λr=>c (.int a r) else c6
  | .and=>bif fV a b then c (.int a (bits .and a d e)) else c6
  | .or=>bif fV a b then c (.int a (bits .or a d e)) else c6
  | .xor=>bif fV a b then c (.int a (bits .xor a d e)) else c6
  | .andNot=>bif fV a b then c (.int a (bits .andNot a d e)) else c6
  | .shl=>(uU a d e).bind λr=>c (.int a r)
  | .shr=>(iN a d e).bind λr=>c (.int a r)
  | .eql=>bif fV a b then c (.bool (c3 (d=e))) else c6
  | .neq=>bif fV a b then c (.bool (c3 (d≠e))) else c6
  | .lss=>bif fV a b then c (.bool (c3 (d<e))) else c6
  | .leq=>bif fV a b then c (.bool (c3 (d<=e))) else c6
  | .gtr=>bif fV a b then c (.bool (c3 (e<d))) else c6
  | .geq=>bif fV a b then c (.bool (c3 (e<=d))) else c6
 | .bool a,.bool b=>match g with
  | .eql=>bif sr P f then c (.bool (a==b)) else c6
  | .neq=>bif sr P f then c (.bool (a != b)) else c6
  |_=>c6
 | .agg j,.agg h=>match g with
  | .eql=>bif P.eqGuardType P.depth f then c6 else tr (yq P 10000 f (.agg j) (.agg h)) λb=>c (.bool b)
  | .neq=>bif P.eqGuardType P.depth f then c6 else tr (yq P 10000 f (.agg j) (.agg h)) λb=>c (.bool (!b))
  |_=>c6
 | .jC i,.dB=>bif LM P f then match g with
  | .eql=>c (.bool i.isNone)
  | .neq=>c (.bool (!i.isNone))
  |_=>c6 else c6
 |_,_=>c6
def HY(e:UnOp)(d:TV B.D)(a:TV B.D->Option R):Option R:=
 match e,d with
 | .neg,.int c f=>a (.int c (c.wrap (0 -f)))
 | .not,.bool b=>a (.bool (!b))
 |_,_=>c6
def Es(i c:Nat)(a:TV B.D->Option R):Nat->List (TV B.D)->Option R
 |_,[]=>c6
 |b,e::d=>bif e4 i (c+b) then a e else Es i c a (b+1) d
def AK(d:Int)(b:Nat)(c:Nat->Option R):Nat->List (TV B.D)->Option R
 |_,[]=>c6
 |a,_::e=>bif c3 (d=((b+a:Nat):Int)) then c (b+a) else AK d b c (a+1) e
def load(h:List (Ob B.D))(c:TypeId)(e:TV B.D)(b:cr B.D->Option R):Option R:=
 match e with
 | .vp f a=>tr (piece P c f a) λv=>b ⟨v,[],0,[]⟩
 | .ptr r v i a=>match aK h r v with
  |some (.aap g d)=>(d[i]?).bind λe=>tr (piece P c (dN (B.tv g e)) a) λv=>b ⟨v,[],0,[r]⟩
  |some (.box _ f)=>bif e4 i 0 then tr (piece P c f a) λv=>b ⟨v,[],0,[r]⟩ else c6
  |some (.hole g d j)=>Es B i d.length (λk=>tr (piece P c (dN k) a) λv=>b ⟨v,[],0,[r]⟩) 0 j
  |_=>c6
 |_=>c6
def oJ{a:Type}(d:List a)(c:Nat)(b:List a):List a:=aX (tk c d) (aX b (drop (c+len b) d))
def tF{a:Nat->Type}:TV a->Bool
 | .bu _=>false
 |_=>true
mutual
def yH{a:Nat->Type}:TV a->Bool
 | .any=>false
 | .agg _=>false
 | .bu _=>false
 |_=>true
def jj{c:Nat->Type}:List (TV c)->Bool
 |[]=>true
 |b::a=>bif yH b then jj a else false
end
def store(e:List (Ob B.D))(k:TypeId)(j a:TV B.D)(f:cr B.D->Option R):Option R:=
 match cH P k with
 |some b=>bif e4 (len (dN a)) b then bif jj (dN a) then match j with
  | .ptr r v i c=>match aK e r v with
   |some (.aap b g)=>(g[i]?).bind λj=>
    match B.tv b j with
    | .agg d=>bif hK (c+len (dN a)) (len d) then tr (B.up b (.agg (oJ d c (dN a)))) λh=>f ⟨.any,[(r,⟨dJ e r,v,.aap b (g.set i h)⟩)],0,[r]⟩ else c6
    |_=>bif e4 c 0 then tr (B.up b a) λh=>f ⟨.any,[(r,⟨dJ e r,v,.aap b (g.set i h)⟩)],0,[r]⟩ else c6
   |some (.box l d)=>bif e4 i 0 then bif hK (c+len (dN a)) (len d) then f ⟨.any,[(r,⟨dJ e r,v,.box l (oJ d c (dN a))⟩)],0,[r]⟩ else c6 else c6
   |_=>c6
  |_=>c6 else c6 else c6
 |none=>c6
def rowOf(d:List (Ob B.D))(f:TV B.D)(c:(a:Nat)->List (B.D a)->List Nat->Option R):Option R:=
 match f with
 | .row a b=>c a b []
 | .fl r v=>match aK d r v with
  |some (.aap a b)=>c a b [r]
  |_=>c6
 | .sl r v e len=>match aK d r v with
  |some (.aap a b)=>c a ((b.drop e).take len) [r]
  |_=>c6
 |_=>c6
def sU(a b:Nat)(c:List (B.D a)):Option (List (B.D b)):=
 if d:a=b then c4 (d▸c) else c6
def CK(e:List (Ob B.D))(c:Nat)(b:TV B.D)(a:List (B.D c)->List Nat->Option R):Option R:=
 match b with
 | .bg=>a [] []
 | .z0=>a [] []
 |b=>rowOf B e b λh d f=>tr (sU B h c d) λg=>a g f
def KK:Option Nat->Nat->Bool
 |some a,b=>e4 a b
 |none,_=>false
def kX(c:TypeId)(a:Nat):Bool:=match dU P c,cH P a with |some d,c4 b=>bif e4 d a then e4 b (B.sz a) else false |_,_=>false
def indexAddr(f:List (Ob B.D))(e:TypeId)(l i:TV B.D)(d:cr B.D->Option R):Option R:=
 match i with
 | .int _ c=>match l with
  | .row a b=>bif kX B P e a then(aj b c).bind λk=>d ⟨.vp (dN (B.tv a k)) 0,[],0,[]⟩ else c6
  | .fl r v=>match aK f r v with
   |some (.aap a b)=>bif kX B P e a then(aj b c).bind λ_=>d ⟨.ptr r v c.toNat 0,[],0,[r]⟩ else c6
   |some (.hole a b h)=>bif kX B P e a then AK B c b.length (λi=>d ⟨.ptr r v i 0,[],0,[r]⟩) 0 h else c6
   |_=>c6
  | .sl r v g len=>match aK f r v with
   |some (.aap a b)=>bif kX B P e a then(aj ((b.drop g).take len) c).bind λ_=>d ⟨.ptr r v (g+c.toNat) 0,[],0,[r]⟩ else c6
   |_=>c6
  | .ptr r v i m=>match c with
   | .ofNat q=>match pk P e with
    |some (a,n)=>match cH P n with
     |some j=>bif m1 q a then d ⟨.ptr r v i (m+q*j),[],0,[]⟩ else c6
     |none=>c6
    |none=>c6
   |_=>c6
  |_=>c6
 |_=>c6
def ints{e:Nat->Type}(a:IntKind):List (TV e)->Option (List Int)
 |[]=>c4 []
 | .int b c::d=>bif fV a b then(match ints a d with |some r=>c4 (c::r) |none=>c6) else c6
 |_=>c6
def gS{c:Nat->Type}:List (TV c)->Option (List Bool)
 |[]=>c4 []
 | .bool b::a=>(match gS a with |some r=>c4 (b::r) |none=>c6)
 |_=>c6
def Gx(b:TypeId)(d:Nat):Bool:=match pk P b with
 |some (e,a)=>(match cH P a,dP P a with |some c,c4 false=>bif e4 e d then e4 c 1 else false |_,_=>false)
 |none=>false
def index(f:TypeId)(g i:TV B.D)(c:cr B.D->Option R):Option R:=
 match i,g with
 | .int _ e,.agg a=>bif Gx P f (len a) then match a with
  | .int d _::_=>tr (ints d a) λb=>(aj b e).bind λv=>c ⟨.int d v,[],0,[]⟩
  | .bool _::_=>tr (gS a) λb=>(aj b e).bind λv=>c ⟨.bool v,[],0,[]⟩
  |_=>c6 else c6
 |_,_=>c6
def rE(b:En B.D)(c:Int):Option Operand->Option Int
 |none=>c4 c
 |some d=>match pe b d with
  | .int _ a=>c4 a
  |_=>c6
def pP{a:Nat->Type}:TV a->Bool
 | .int _ (.ofNat 0)=>true
 |_=>false
def Bx(a:En B.D):Option Operand->Bool
 |none=>true
 |some b=>pP (pe a b)
def slice(a:En B.D)(j:List (Ob B.D))(f:TypeId)(l:TV B.D)(i h:Option Operand)(g:cr B.D->Option R):Option R:=
 match l with
 | .row c d=>bif kX B P f c then tr (rE B a 0 i) λe=>tr (rE B a (d.length:Int) h) λb=>(eG d e b).bind λk=>g ⟨.row c k,[],0,[]⟩ else c6
 | .fl r v=>match aK j r v with
  |some (.aap c d)=>bif kX B P f c then tr (rE B a 0 i) λe=>tr (rE B a (d.length:Int) h) λb=>(eG d e b).bind λ_=>g ⟨.sl r v e.toNat (b.toNat -e.toNat),[],0,[r]⟩ else c6
  |_=>c6
 | .bg=>bif Bx B a i then bif Bx B a h then(match dU P f with |some c=>bif kX B P f c then g ⟨.bg,[],0,[]⟩ else c6 |none=>c6) else c6 else c6
 |_=>c6
def shrink(g:En B.D)(c:List (Ob B.D))(f:TypeId)(i:TV B.D)(j:Option Operand)(e:cr B.D->Option R):Option R:=
 match i with
 | .fl r v=>match aK c r v with
  |some (.aap d a)=>bif kX B P f d then tr (rE B g (a.length:Int) j) λb=>(eG a 0 b).bind λh=>e ⟨.fl r (v+1),[(r,⟨dJ c r,v+1,.aap d h⟩)],0,[r]⟩ else c6
  |_=>c6
 |_=>c6
def fill{b:Nat->Type}:List (Nat×Nat)->List (TV b)->List (Nat×List (TV b))->Option (List (TV b))
 |_,a,[]=>c4 a
 |c,a,p::r=>match nth c p.1 with
  |some (d,size)=>bif e4 (len p.2) size then bif hK (d+size) (len a) then bif jj p.2 then fill c (oJ a d p.2) r else c6 else c6 else c6
  |none=>c6
def ul(a:En B.D):List (Nat×Operand)->Option (List (Nat×List (TV B.D)))
 |[]=>c4 []
 |p::r=>bif tF (pe a p.2) then(match ul a r with |some b=>c4 ((p.1,dN (pe a p.2))::b) |none=>c6) else c6
def AA(a:Nat):Nat->Nat->List (Nat×Nat)
 |0,_=>[]
 |b+1,i=>(i*a,a)::AA a b (i+1)
def placesOf(a:TypeId):Option (List (Nat×Nat)):=
 match Jk P a with
 |some c=>c4 c
 |none=>match pk P a with
  |some (e,d)=>match cH P d with
   |some b=>c4 (AA b e 0)
   |none=>c6
  |none=>c6
def rn(b:En B.D)(a:Nat):Nat->List (Nat×Operand)->Option (List (B.D a))
 |_,[]=>c4 []
 |i,p::r=>bif e4 p.1 i then match B.up a (pe b p.2),rn b a (i+1) r with
  |some d,c4 c=>c4 (d::c)
  |_,_=>c6
  else c6
def kR{a:Nat->Type}:List (Nat×TV a)->TV a
 |[p]=>p.2
 |b=>.bu (b.map (·.2))
def fi{a:Nat->Type}:Nat->List (TV a)->En a
 |_,[]=>[]
 |i,c::b=>(i,c)::fi (i+1) b
def gu{d:Nat->Type}(b:List (Ob d))(c:List Rf)(a e q:Nat):Nat×Nat:=
 bif m1 q a then match nth c q with
  |some (.bG r)=>(r,match nth b r with |some f=>f.aF |none=>0)
  |_=>(0,0)
 else(e+(q -a),1)
def jL{d:Nat->Type}(b:List (Ob d)):List Rf->List (Nat×Ob d)
 |[]=>[]
 | .bG r::a=>match nth b r with
  |some c=>(r,⟨c.st+1,c.aF+1,.dead⟩)::jL b a
  |none=>jL b a
 |_::a=>jL b a
def iF{a:Nat->Type}(b:List (Ob a)):List Rf->List (Ob a)->List (Nat×Ob a)
 | .bG r::e,c::d=>(r,⟨dJ b r,c.aF,c.bd⟩)::iF b e d
 |_,_=>[]
def news{b:Nat->Type}:Nat->List (Ob b)->List (Nat×Ob b)
 |_,[]=>[]
 |a,c::d=>(a,c)::news (a+1) d
mutual
def jn{e:Nat->Type}(b:List (Ob e)):CP->TV e->List Nat
 | .v _,a=>aX (refs a) (kY b (refs a))
 | .q d,a=>match a with
  | .ptr r _ _ _=>r::(match nth b r with
   |some ⟨_,_,.box _ c⟩=>gJ b d c
   |_=>[])
  | .vp c _=>gJ b d c
  |_=>[]
 | .f _ d g,a=>match a with
  | .fn _ c f=>aX (gJ b d c) (gJ b g f)
  |_=>[]
 | .g d,a=>match a with
  | .agg c=>gJ b d c
  |_=>[]
 |_,_=>[]
def gJ{b:Nat->Type}(a:List (Ob b)):List CP->List (TV b)->List Nat
 |e::f,d::c=>aX (jn a e d) (gJ a f c)
 |_,_=>[]
end
def eW{d:Nat->Type}(a:List (Ob d)):List (Nat×List Nat×OP)->List Rf->List Nat
 |(_,_,.box _ e)::b,.bG r::c=>aX (match nth a r with
  |some ⟨_,_,.box _ f⟩=>gJ a e f
  |_=>[]) (eW a b c)
 |_::b,_::c=>eW a b c
 |_,_=>[]
def gK{d:Nat->Type}(a:St d):List (Nat×CP)->List Nat
 |[]=>[]
 |b::c=>aX (jn a.H b.2 (lk a.E b.1)) (gK a c)
mutual
def Kk(f:Nat->Bool):CP->Bool
 | .v b=>f b
 | .q _=>false
 | .f _ a c=>bif rr f a then rr f c else false
 | .g a=>rr f a
 |_=>true
def rr(f:Nat->Bool):List CP->Bool
 |[]=>true
 |b::a=>bif Kk f b then rr f a else false
end
def uT(f:Nat->Bool)(b:Nat->Nat):OP->Bool
 | .aap _ d=>f (b d)
 | .box _ c=>rr f c
 | .dead=>true
 | .refs _ a=>rr f (iQ a)
def oN(f:Nat->Bool)(a:Nat->Nat):List (Nat×List Nat×OP)->Bool
 |[]=>true
 |b::c=>bif uT f a b.2.2 then oN f a c else false
def tJ(f:Nat->Bool):List (Nat×CP)->Bool
 |[]=>true
 |b::a=>bif Kk f b.2 then tJ f a else false
def zc:List Nat->Bool
 |[]=>true
 |_=>false
def kA:Nat->List Rf->Bool
 |0,_=>true
 |b+1,.bG _::a=>kA b a
 |_,_=>false
def here{c:Nat->Type}(a:List (Ob c)):List Nat->Bool
 |[]=>true
 |i::b=>match nth a i with
  |some _=>here a b
  |none=>false
def Nv(b:St B.D)(a:aq B)(c:List Rf)(i:List (TV B.D))(f:cr B.D->Option R):Option R:=
 let e:=aX (eW b.H a.par.dF c) (gK b a.par.dE)
 bif (bif zc e then true else bif oN B.flat B.el a.az.dF then tJ B.flat a.az.dE else false) then bif kA a.low c then bif here b.H e then
  m9 B a.par.bX i λh=>(a.F h).bind λj=>
   match nI B (gu b.H c a.low (len b.H)) a.az j with
   |⟨g,d⟩=>bif hK a.low (len d) then f ⟨kR g,aX (iF b.H (tk a.low c) (tk a.low d)) (aX (jL b.H (drop a.low c)) (news (len b.H) (drop a.low d))),len (drop a.low d),aX (bL c) e⟩ else c6
 else c6 else c6 else c6
def nz(f:Nat)(a:St B.D)(c:cr B.D->Option R):List (aq B)->Option R
 |[]=>c6
 |b::d=>bif (bif e4 b.cO f then e4 (len a.E) b.na else false) then
  match leaves b.par a (nQ a b.par.dF) with
  |some e=>Nv B a b (nQ a b.par.dF) e c
  |none=>nz f a c d
  else nz f a c d
def nf{b:Type}:List b->List b->List b
 |[],a=>a
 |d::c,a=>nf c (d::a)
def sV(f:Nat)(a:St B.D)(c:cr B.D->Option R):List (aq B)->Option R
 |[]=>c6
 |b::d=>bif (bif e4 (len a.E) b.na then(leaves b.par a (nQ a b.par.dF)).isSome else false) then cond (e4 f b.cO) (nz B b.cO a c [b]) (sV f a c d) else sV f a c d
def Dm(f:Int->Int->Int):List (TV B.D)->Option (TV B.D)
 |[.int a c,.int b d]=>bif fV a b then c4 (.int a (f c d)) else c6
 |_=>c6
def KP{e:Nat->Type}(d:Bool)(a c:TV e):TV e:=
 match a,c with
 | .bool f,.bool b=>.bool (cond d f b)
 |a,c=>cond d a c
def Cf:Operand->Operand->Bool
 | .tmp a,.tmp b=>e4 a b
 | .const (.int a c),.const (.int b d)=>bif fV a b then c3 (c=d) else false
 |_,_=>false
def lB(a:Nat)(c:Option Nat)(z:Option Value):Bool:=
 match c,z with
 |some b,c4 z=>bif e4 a b then e4 z.cells.size a else false
 |_,_=>false
def Ax:List Value->Bool
 |[]=>true
 |v::a=>bif v.oneCell' then Ax a else false
def Ix(z:Option Value):Bool:=
 match z with
 |some z=>Ax z.cells.toList
 |none=>false
def iG{a:Type}(z:a)(d c:Nat)(b:List a):List a:=b.take d++(hB c z++b.drop (d+c))
def mg{a:Type}(c:List a)(b e:Nat)(d:List a):List a:=d.take b++(c.take e++d.drop (b+(c.take e).length))
def B4(d:List (Ob B.D))(f:TV B.D)(c:Nat->Nat->Nat->Nat->(a:Nat)->List (B.D a)->Option R):Option R:=
 match f with
 | .fl r v=>match aK d r v with
  |some (.aap a b)=>c r v 0 b.length a b
  |_=>c6
 | .sl r v e len=>match aK d r v with
  |some (.aap a b)=>c r v e len a b
  |_=>c6
 |_=>c6
def GF(d:List (Ob B.D))(c:TV B.D)(b:cr B.D->Option R):Option R:=
 match c with
 | .fl r v=>match aK d r v with
  |some (.aap _ a)=>b ⟨.int .i64 (a.length:Int),[],0,[r]⟩
  |some (.hole _ a f)=>b ⟨.int .i64 ((a.length+len f:Nat):Int),[],0,[r]⟩
  |_=>c6
 |c=>rowOf B d c λ_ a e=>b ⟨.int .i64 (a.length:Int),[],0,e⟩
def FK(a:En B.D)(b:List (Ob B.D))(c:Nat)(e:List (Nat×Operand))(f:Nat)(d:cr B.D->Option R):Option R:=
 match e with
 |[p]=>bif e4 p.1 0 then bif e4 f 1 then bif e4 (len (dN (pe a p.2))) (B.sz c) then bif jj (dN (pe a p.2)) then bif tF (pe a p.2) then d ⟨.fl (len b) 1,[(len b,⟨1,1,.hole c [] [pe a p.2]⟩)],1,[]⟩ else c6 else c6 else c6 else c6 else c6
 |_=>c6
def GI(b:List (Ob B.D))(d g:Nat)(i j:TV B.D)(e:cr B.D->Option R):Option R:=
 match j with
 | .fl q k=>match aK b q k with
  |some (.hole l [] c)=>bif e4 l d then match i with
   | .bg=>bif hK (len c*g) 140737488355328 then e ⟨.fl (len b) 1,[(len b,⟨1,1,.hole d [] c⟩)],1,[q]⟩ else c6
   | .fl r v=>match aK b r v with
    |some (.hole f a h)=>tr (sU B f d a) λa=>bif hK ((a.length+len h+len c)*g) 140737488355328 then e ⟨.fl r (v+1),[(r,⟨dJ b r,v+1,.hole d a (aX h c)⟩)],0,[r,q]⟩ else c6
    |some (.aap f a)=>tr (sU B f d a) λa=>bif hK ((a.length+len c)*g) 140737488355328 then e ⟨.fl r (v+1),[(r,⟨dJ b r,v+1,.hole d a c⟩)],0,[r,q]⟩ else c6
    |_=>c6
   |_=>c6
   else c6
  |_=>c6
 |_=>c6
def SG(a:List (Ob B.D))(c:TV B.D):Bool:=
 match c with
 | .fl q b=>match aK a q b with
  |some (.hole _ _ _)=>true
  |_=>false
 |_=>false
def step(K:List (aq B))(I:Bool)(d:En B.D)(h:List (Ob B.D))(w:Op)(g:cr B.D->Option R):Option R:=
 let mk (a:Nat) (l:List (B.D a)) (m:List Nat):Option R:=
  bif I then g ⟨.row a l,[],0,m⟩ else g ⟨.fl (len h) 1,[(len h,⟨1,1,.aap a l⟩)],1,m⟩
 match w with
 | .move c=>g ⟨pe d c,[],0,[]⟩
 | .assign c=>g ⟨pe d c,[],0,[]⟩
 | .pick k t b=>match pe d k with
  | .bool k=>g ⟨KP k (pe d t) (pe d b),[],0,[]⟩
  |_=>c6
 | .binOp w e c u _=>bin B P w e (pe d c) (pe d u) λv=>g ⟨v,[],0,[]⟩
 | .unOp w _ c=>HY B w (pe d c) λv=>g ⟨v,[],0,[]⟩
 | .convert S O c=>match pe d c,yi P O with
  | .int _ y,c4 t=>bif (P.underlying S).isSome then g ⟨.int t (t.wrap y),[],0,[]⟩ else c6
  |_,_=>c6
 | .extract c i=>match pe d c with
  | .bu j=>tr (nth j i) λv=>g ⟨v,[],0,[]⟩
  |_=>c6
 | .nilCheck c=>match pe d c with
  | .ptr r v i p=>g ⟨.ptr r v i p,[],0,[]⟩
  | .vp j p=>g ⟨.vp j p,[],0,[]⟩
  | .fn f j J=>g ⟨.fn f j J,[],0,[]⟩
  |_=>c6
 | .field e c f=>match pe d c,nU P e f with
  | .agg j,c4 (F,o)=>tr (piece P F j o) λv=>g ⟨v,[],0,[]⟩
  |_,_=>c6
 | .fieldAddr e c f=>match nU P e f with
  |some (F,o)=>match cH P F with
   |some (_+1)=>match pe d c with
    | .ptr r v i p=>g ⟨.ptr r v i (p+o),[],0,[]⟩
    | .vp j p=>g ⟨.vp j (p+o),[],0,[]⟩
    |_=>c6
   |_=>c6
  |none=>c6
 | .indexAddr e c i=>indexAddr B P h e (pe d c) (pe d i) g
 | .index e c i=>index B P e (pe d c) (pe d i) g
 | .load e c=>load B P h e (pe d c) g
 | .store e c u=>store B P h e (pe d c) (pe d u) g
 | .slice e c M E c6=>bif I then(match M with |none=>shrink B P d h e (pe d c) E g |some _=>c6) else slice B P d h e (pe d c) M E g
 | .slice e c c6 (c4 E) (c4 N)=>bif pP (pe d E) then bif pP (pe d N) then rowOf B h (pe d c) λa _ m=>bif kX B P e a then g ⟨.z0,[],0,m⟩ else c6 else c6 else c6
 | .box e c=>match dN (pe d c) with
  |j=>bif jj j then bif m1 0 (len j) then g ⟨.ptr (len h) 1 0 0,[(len h,⟨1,1,.box e j⟩)],1,[]⟩ else c6 else c6
 | .alloc e=>match dV P e with
  |some z=>match dN (cv z) with
   |j=>bif jj j then bif m1 0 (len j) then g ⟨.ptr (len h) 1 0 0,[(len h,⟨1,1,.box e j⟩)],1,[]⟩ else c6 else c6
  |none=>c6
 | .build e C=>match dV P e,placesOf P e with
  |some (.agg z),c4 Q=>match rq z.toList with
   |j=>bif jj j then tr (ul B d C.toList) λn=>tr (fill Q j n) λj=>g ⟨.agg j,[],0,[]⟩ else c6
  |_,_=>c6
 | .buildSlice e n C=>match dU P e with
  |some a=>bif lB (B.sz a) (cH P a) (dV P a) then bif Ix (dV P a) then bif hK (n*B.sz a) 16777216 then match rn B d a 0 C.toList with
   |some l=>bif e4 (len l) n then mk a l [] else c6
   |none=>FK B d h a C.toList n g
   else c6 else c6 else c6
  |none=>c6
 | .makeSlice e n k=>bif Cf n k then match dU P e,pe d n with
  |some a,.int _ y=>match dV P a,kB P a with
   |some z,c4 (q+1)=>bif lB (B.sz a) (cH P a) (dV P a) then bif jj (dN (cv (D:=B.D) z)) then tr (B.up a (cv z)) λz=>(gP (q+1) z y).bind λl=>mk a l [] else c6 else c6
   |_,_=>c6
  |_,_=>c6 else c6
 | .makeFunc (.func f) t k=>g ⟨.fn f (fB d t.toList) (fB d k.toList),[],0,[]⟩
 | .call k=>match k.callee with
  | .value f=>match pe d f with
   | .fn G j J=>nz B G ⟨fi 0 (aX j (aX (fB d k.args.toList) J)),h⟩ g (bif I then nf K [] else K)
   | .jC T=>T.bind λG=>sV B G ⟨fi 0 (fB d k.args.toList),h⟩ g K
   |_=>c6
  | .builtin b=>match b with
   | .len=>match fB d k.args.toList,k.argTypes.toList with
    |[c],[e]=>match dU P e with
     |some _=>(match c with
      | .bg=>g ⟨.int .i64 0,[],0,[]⟩
      | .z0=>g ⟨.int .i64 0,[],0,[]⟩
      |c=>GF B h c g)
     |none=>c6
    |_,_=>c6
   | .min=>tr (Dm B min (fB d k.args.toList)) λv=>g ⟨v,[],0,[]⟩
   | .max=>tr (Dm B max (fB d k.args.toList)) λv=>g ⟨v,[],0,[]⟩
   | .append=>match fB d k.args.toList,k.argTypes.toList with
    |[L,c],[e,H]=>bif e4 e H then match dU P e with
     |some a=>match kB P a with
      |some (q+1)=>bif lB (B.sz a) (cH P a) (dV P a) then bif SG B h c then GI B h a (q+1) L c g else CK B h a c λs m=>match L with
       | .bg=>(bj (q+1) [] s).bind λx=>mk a x m
       | .z0=>(bj (q+1) [] s).bind λx=>mk a x m
       | .fl r v=>match aK h r v with
        |some (.aap y l)=>tr (sU B y a l) λl=>(bj (q+1) l s).bind λx=>g ⟨.fl r (v+1),[(r,⟨dJ h r,v+1,.aap a x⟩)],0,r::m⟩
        |_=>c6
       |_=>c6
       else c6
      |_=>c6
     |none=>c6 else c6
    |_,_=>c6
   | .clear=>match fB d k.args.toList,k.argTypes.toList with
    |[c],[e]=>B4 B h c λr v o A a l=>bif KK (dU P e) a then bif lB (B.sz a) (cH P a) (dV P a) then match dV P a with
     |some z=>bif jj (dN (cv (D:=B.D) z)) then tr (B.up a (cv z)) λz=>g ⟨.bu [],[(r,⟨dJ h r,v,.aap a (iG z o A l)⟩)],0,[r]⟩ else c6
     |none=>c6 else c6 else c6
    |_,_=>c6
   | .copy=>match fB d k.args.toList,k.argTypes.toList with
    |[c,u],[e,H]=>bif e4 e H then B4 B h c λr v o A a l=>bif KK (dU P e) a then bif lB (B.sz a) (cH P a) (dV P a) then CK B h a u λs m=>g ⟨.int .i64 ((min A s.length:Nat):Int),[(r,⟨dJ h r,v,.aap a (mg s o A l)⟩)],0,r::m⟩ else c6 else c6 else c6
    |_,_=>c6
   |_=>c6
  |_=>c6
 |_=>c6
end
structure Hn where
 fz:List Nat
 outs:List (Nat×lD)
 lp:Option lD
abbrev h0:Hn:=⟨[],[],c6⟩
def hint:List (Nat×Hn)->Nat->Hn
 |[],_=>h0
 |p::a,n=>bif e4 p.1 n then p.2 else hint a n
structure Lg where
 rt:List Nat
 wt:List Nat
 rd:List Nat
 wr:List Nat
def tmpsOf:List Operand->List Nat
 |[]=>[]
 | .tmp b::a=>b::tmpsOf a
 |_::a=>tmpsOf a
def yI:Option Nat->List Nat
 |some a=>[a]
 |none=>[]
section
variable (L:Lp)(B:Tb)(P:Program)(G:List (aq B))(n:Nat)
def gr{a:Nat->Type}(b:En a):Option Nat->TV a->En a
 |some c,v=>(c,v)::b
 |none,_=>b
def zL(i:Nat):List Oper->Bool
 |[]=>false
 |a::r=>bif (match a.guard with |some (b,_)=>e4 i b |none=>false) then true else zL i r
def eV{a:Type}:List (Nat×a)->List Nat
 |[]=>[]
 |p::b=>p.1::eV b
def xt{a:Nat->Type}:Ob a:=⟨0,0,.dead⟩
def dx{a:Nat->Type}:Nat->List (Ob a)
 |0=>[]
 |n+1=>xt::dx n
def behind{a:Nat->Type}(b:List (Ob a))(r:cr a):List (Ob a):=b8 (aX b (dx r.nw)) r.wr
def sZ(a:List Oper)(c:Oper):List Nat:=match c.guard with
 |some (b,_)=>match nth a b with
  |some d=>yI d.dst
  |none=>[]
 |none=>[]
def gU{d:Nat->Type}(a:List (Ob d)):List Nat->List (Nat×Ob d)
 |[]=>[]
 |r::b=>match nth a r with
  |some c=>(r,⟨c.st+1,c.aF+1,.dead⟩)::gU a b
  |none=>gU a b
def G0{a:Nat->Type}(b:List (Ob a)):TV a->TV a
 | .bu d=>.bu (jS b [] d)
 |c=>kJ b [] c
def Jd{c:Nat->Type}(n:Nat)(a:List (Nat×Ob c)):List Nat->Bool
 |[]=>true
 |r::b=>bif hK n r then bif has (eV a) r then Jd n a b else false else false
def Fs{c:Nat->Type}(b:List (Ob c))(a:cr c):Option (cr c):=
 bif Jd (len b) a.wr (refs a.val) then bif zc (kY (behind b a) (refs a.val)) then c4 ⟨G0 (behind b a) a.val,aX a.wr (gU (behind b a) (refs a.val)),a.nw,a.rd⟩ else c6 else c6
def zM{d:Type}(g e:Bool)(f:En B.D)(b:List (Ob B.D))(h:Op)(a:cr B.D->Option d):Option d:=
 step B P G g f b h λc=>bif e then tr (Fs b c) a else a c
def rV{c:Nat->Type}(b:List Oper)(a:Oper)(r:cr c):Lg:=⟨aX (sZ b a) (tmpsOf a.op.operands.toList),yI a.dst,r.rd,eV r.wr⟩
def xo(b:List Oper)(a:Oper):Lg:=⟨sZ b a,yI a.dst,[],[]⟩
def Dp(n:Nat):List Nat->Bool
 |[]=>true
 |b::a=>bif m1 b n then Dp n a else false
def ops{k:Type}(f:List Nat)(c:List Oper)(g:List Lg->St B.D->Option k):Nat->List Oper->List Lg->St B.D->Option k
 |_,[],e,a=>g e a
 |i,d::r,e,a=>
  let go:=zM B P G (has f i) (has f (i+1000)) a.E a.H d.op λh=>bif Dp (len a.H) h.rd then
   let j:=behind a.H h
   let e:=rV c d h::e
   bif zL i c then match h.val with
    | .bool o=>cond o (ops f c g (i+1) r e ⟨gr a.E d.dst (.bool true),j⟩) (ops f c g (i+1) r e ⟨gr a.E d.dst (.bool false),j⟩)
    |_=>c6
   else ops f c g (i+1) r e ⟨gr a.E d.dst h.val,j⟩
   else c6
  match d.guard with
  |none=>go
  |some (p,q)=>match nth c p with
   |some m=>match m.dst with
    |some l=>match lk a.E l with
     | .bool b=>cond (Bool.xor b q) (ops f c g (i+1) r (xo c d::e) ⟨gr a.E d.dst (.bu []),a.H⟩) go
     | .bu []=>ops f c g (i+1) r (xo c d::e) ⟨gr a.E d.dst (.bu []),a.H⟩
     |_=>c6
    |none=>c6
   |none=>c6
def meets:List Nat->List Nat->Bool
 |[],_=>false
 |c::b,a=>bif has a c then true else meets b a
def iw:List Edge->List Nat
 |[]=>[]
 |b::a=>bif Region.binds .any b then b.on::iw a else iw a
def oF(p:Nat->Bool):List Nat->Bool
 |[]=>false
 |b::a=>bif p b then true else oF p a
def before(b:List Oper):Nat->Nat->Nat->Bool
 |0,_,_=>false
 |f+1,i,d=>match nth b d with
  |some a=>bif has (iw a.after.toList) i then true else oF (λc=>before b f i c) (iw a.after.toList)
  |none=>false
def mm(a b:Lg):Bool:=bif meets a.wr b.rd then true else bif meets a.wr b.wr then true else bif meets b.wr a.rd then true else bif meets a.wt b.rt then true else bif meets a.wt b.wt then true else meets b.wt a.rt
def vK(a:List Oper)(d:Lg)(c:Nat):Nat->List Lg->Bool
 |_,[]=>true
 |i,b::e=>bif (bif mm d b then before a (len a) i c else true) then vK a d c (i+1) e else false
def n4(a:List Oper):List Lg->Nat->List Lg->Bool
 |_,_,[]=>true
 |d,b,c::e=>bif vK a c b 0 d then n4 a (aX d [c]) (b+1) e else false
def m7:Nat->List Oper->Bool
 |_,[]=>true
 |i,b::c=>bif oF (λa=>hK i a) (iw b.after.toList) then false else m7 (i+1) c
def tI:List Oper->List Nat->List Nat
 |[],ws=>ws
 |a::r,ws=>match a.dst with
  |some b=>b::tI r ws
  |none=>tI r ws
def cQ:Code->List Nat->List Nat
 | .region _ c _,ws=>tI c.toList ws
 | .seq a b,ws=>cQ a (cQ b ws)
 | .cond _ a b,ws=>cQ a (cQ b ws)
 | .block _ a,ws=>cQ a ws
 | .loop a,ws=>cQ a ws
 |_,ws=>ws
def Ej(a:Nat):List Oper->Bool
 |[]=>true
 |b::r=>bif fL a b.dst then Ej a r else false
def gB(a:Nat):Code->Bool
 | .region _ d _=>Ej a d.toList
 | .seq c b=>bif gB a c then gB a b else false
 | .cond _ c b=>bif gB a c then gB a b else false
 | .block _ c=>gB a c
 | .loop c=>gB a c
 |_=>true
def qM:List (Nat×lD)->Type
 |[]=>Empty
 |[p]=>bi B.D p.2.bX
 |p::q::r=>bi B.D p.2.bX⊕qM (q::r)
variable (S0:St B.D)(ws:List Nat)
def inj{d:Type}:(e:List (Nat×lD))->Nat->St B.D->(qM B e->Option d)->Option d
 |[],_,_,_=>c6
 |[p],c,a,b=>bif e4 p.1 c then nW B n S0 ws p.2 a b else c6
 |p::q::r,c,a,b=>bif e4 p.1 c then nW B n S0 ws p.2 a (λf=>b (.inl f)) else inj (q::r) c a (λg=>b (.inr g))
def out{d:Type}:(e:List (Nat×lD))->qM B e->(Nat->St B.D->Option d)->Option d
 |[],_,_=>c6
 |[p],c,a=>a p.1 (ik B S0 ws p.2 c)
 |p::q::r,c,a=>Sum.elim (λf=>a p.1 (ik B S0 ws p.2 f)) (λb=>out (q::r) b a) c
def join{c:Type}(b:Code)(h:Hn)(d:Nat->St B.D->Option c)(e:{R':Type}->(Nat->St B.D->Option R')->Option R'):Option c:=
 match h.outs with
 |[]=>e d
 |p::a=>(e (R':=qM B (p::a)) λg f=>inj B n S0 (cQ b []) (p::a) g f c4).bind λi=>out B S0 (cQ b []) (p::a) i d
def D8{a:Type}(d:(Nat->St B.D->Option a)->St B.D->Option a)(c:St B.D->Option a)(f:Nat->St B.D->Option a):Nat->St B.D->Option a
 |0,b=>c b
 |h+1,b=>d (λe g=>bif e4 e 0 then D8 d c f h g else f e g) b
def zP:List Nat->Nat
 |[]=>0
 |a::_=>a
def exec(d:List (Nat×Hn)):Code->Nat->{R:Type}->(Nat->St B.D->Option R)->St B.D->Option R
 | .skip,_,_,c,a=>c 0 a
 | .ret,_,_,c,a=>c 1 a
 | .exit g,_,_,c,a=>c (g+2) a
 | .label _,_,_,c,a=>c 0 a
 | .region g h m,p,_,c,a=>join B n a (.region g h m) (hint d p) c λc=>ops B P G (hint d p).fz h.toList (λs a=>bif m then(bif m7 0 h.toList then bif n4 h.toList [] 0 (nf s []) then c 0 a else c6 else c6) else c 0 a) 0 h.toList [] a
 | .seq e b,p,_,c,a=>join B n a (.seq e b) (hint d p) c λc=>exec d e (2*p) (λf a=>bif e4 f 0 then exec d b (2*p+1) c a else c f a) a
 | .cond i e b,p,_,c,a=>join B n a (.cond i e b) (hint d p) c λc=>match pe a.E i with
  | .bool i=>cond i (exec d e (2*p) c a) (exec d b (2*p+1) c a)
  |_=>c6
 | .block g e,p,_,c,a=>join B n a (.block g e) (hint d p) c λc=>exec d e (2*p) (λf a=>bif e4 f (g+2) then c 0 a else c f a) a
 | .loop e,p,_,c,a=>D8 B (λr j=>exec d e (2*p) r j) (λa=>match (hint d p).lp with
  |some q=>nW B n a (cQ e []) q a λo=>(L.loop (λk=>exec d e (2*p) (R:=bi B.D q.bX⊕qM B (hint d p).outs) (λf j=>bif e4 f 0 then nW B n a (cQ e []) q j (λk=>c4 (.inl k)) else inj B n a (cQ e []) (hint d p).outs f j λl=>c4 (.inr l)) (ik B a (cQ e []) q k)) o).bind λl=>out B a (cQ e []) (hint d p).outs l c
  |none=>c6) c (zP (hint d p).fz) a
 |_,_,_,_,_=>c6
def nh{f:Type}(b:St B.D):Nat->List ResultVar->En B.D->(En B.D->Option f)->Option f
 |_,[],c,a=>a c
 |i,.tmp d::e,c,a=>nh b (i+1) e ((i,lk b.E d)::c) a
 |i,.cell g d::e,c,a=>load B P b.H d (lk b.E g) λr=>nh b (i+1) e ((i,r.val)::c) a
def gl(a:aq B)(c:List ResultVar)(code:Code)(g:List (Nat×Hn))(f:bi B.D a.par.bX):Option (bi B.D a.az.bX):=
 exec L B P G a.low g code 1 (λe b=>bif hK e 1 then nh B P b 0 c [] λd=>take B a.low a.az ⟨d,b.H⟩ c4 else c6) (cz B a.par f)
end
end Go.X
namespace Go.Bml
open Go
def VR.dH{g:Gh}{H:List aO}{w:World}{c:PV}{x:Value}(h:VR g H w c x)(k:cE 0 c):VI g.F w c x:=by
 induction h with
 |aW h=>exact h
 |ptr r v i I o a y n J=>cases k with |ptr _ _ _ _ h=>omega
 |sl r v off len o x y n B j=>cases k with |sl _ _ _ _ h=>omega
 |fl r v o x y n B j=>cases k with |fl _ _ h=>omega
 |agg m t s n u=>cases k with |agg _ l=>exact .agg m t s λi c x e j=>u i c x e j (l c (dT e))
 |bu m t s n u=>cases k with |bu _ l=>exact .bu m t s λi c x e j=>u i c x e j (l c (dT e))
 |fn f m F t G s n A K u D=>
  cases k with |fn _ _ _ l C=>exact .fn f m F t G s (λi c x e j=>u i c x e j (l c (dT e))) A (λi c x e j=>D i c x e j (C c (dT e)))
def ako{i:Nat}{b:PV}(e:cE i b){h:Nat}{c:PV}(a:b.cells[h]?=c4 c):cE i c:=by
 by_cases j:∃f,b= .agg f
 .obtain⟨f,rfl⟩:=j;cases e with |agg _ l=>exact l c (dT a)
 .have k:b.cells=[b]:=by cases b <;> first |rfl |exact absurd ⟨_,rfl⟩ j
  rw[k] at a
  match h,a with
  |0,a=>simp at a;subst a;exact e
def nR{f:Nat}{es:List PV}(h:∀b,b∈es->cE f b){i j:Nat}{e:PV}(a:abk es i j=c4 e):cE f e:=by
 obtain⟨b,c,_⟩:=gw a;unfold abk at a;rw[c] at a;exact ako (h b (dT c)) a
def Ed{g:Gh}{H:List aO}{w:World}{r c len:Nat}{o:aO}{q:Value}{F:Nat->Prop}(x:qT g H w r o)(h:SL g o r c len q)(M:∀l,l∈o.es->cE 0 l)
 (D:∀b,g.F b->F b) (I:∀b m,g.β r=c4 (b,m)->F b):VI F w (.vs o.sz ((o.es.drop c).take len)) q:=by
 unfold SL at h;obtain⟨S,h⟩:=h;have v:((o.es.drop c).take len).length=len:=by simp;omega
 cases k:g.β r with
 |none=>
  rw[k] at h;obtain⟨rfl,rfl,p,rfl⟩:=h;simp only[o7];exact .eX o.sz p 0
 |some z=>
  obtain⟨b,m⟩:=z;rw[k] at h;obtain⟨cap,p,rfl,Q,B,_⟩:=h
  by_cases h0:len=0
  .subst h0;simp only[o7];exact .eX o.sz p cap
  .obtain rfl:=B h0;have s:=x.mem;rw[k] at s;obtain⟨_,cells,J,T,U,R,N⟩:=s;have O:∀i a e,abk ((o.es.drop c).take len) i a=c4 e->abk o.es (c+i) a=c4 e:=λi a e f=>by
    unfold abk at f⊢
    by_cases K:i<len
    .rw[e0 K,ea] at f;exact f
    .rw[hI (by rw[v];omega)] at f;simp at f
   have n:∀i a e,abk ((o.es.drop c).take len) i a=c4 e->cells[(c+i)*o.sz+a]?=c4 (cells.getD (c*o.sz+(i*o.sz+a)) undef)/\(cells.getD (c*o.sz+(i*o.sz+a)) undef).oneCell'=true/\VI F w e (cells.getD (c*o.sz+(i*o.sz+a)) undef):=λi a e f=>by
    have t:=O i a e f;obtain⟨C,u,A,y⟩:=N _ _ _ t;have L:(c+i)*o.sz+a=c*o.sz+(i*o.sz+a):=by rw[eo];omega
    have G:cells.getD (c*o.sz+(i*o.sz+a)) undef=C:=by rw[<-L];simp[j2,u]
    rw[G];exact⟨u,A,(y.dH (nR M t)).mono D λ_ _=>rfl⟩
   have:=VI.vs (F:=F) (w:=w) o.sz ((o.es.drop c).take len) b (c*o.sz) cap (λi a=>cells.getD (c*o.sz+(i*o.sz+a)) undef) (by omega) (I b m k)
    (λi l j=>by
     rw[h6] at j
     split at j
     .rw[ea] at j;exact x.width _ l j
     .cases j)
    (λi a e f=>by
     rw[cell_of_row w b _ cells o.ty (0,0) J];have:=(n i a e f).1;rw[<-this]
     congr 1
     rw[eo];omega)
    (λi a e f=>(n i a e f).2.1) (λi a e f=>(n i a e f).2.2)
   rw[v] at this;exact this
section
variable {g:Gh}{H:List aO}{w:World}
def Gh.plus(g:Gh)(k:Nat):Gh:=⟨λb=>g.F b\/b=k,g.β⟩
def bF.afW(h:bF g H w)(ty:Nat)(cells:Array Value):
 GStep H.length g H w (g.plus w.heap.size) H (w.alloc (.cells cells ty))/\bF (g.plus w.heap.size) H (w.alloc (.cells cells ty)):=by
 have l:GStep H.length g H w (g.plus w.heap.size) H (w.alloc (.cells cells ty)):=
  ⟨rfl,rfl,rfl,by simp,λ_ a=>.inl a,λb a=>gv w _ b (h.fb b a),λb a _=>gv w _ b a,λb a=>a.elim .inl (λe=>.inr (.inl (by omega))),λr b C a=>.inr ⟨r,C,a⟩,λr o M k=>⟨o,k,ef _,λ_=>⟨rfl,rfl,rfl⟩⟩⟩
 refine⟨l,⟨λb a=>?_,h.inj,h.m8,λr o k=>?_⟩⟩
 .rcases a with a |a
  .exact l4 (h.fb b a) l.size
  .subst a;simp
 .obtain⟨a1,A,j⟩:=h.obj r o k;refine⟨a1,A,?_⟩
  show match g.β r with
   |none=>o.es=[]
   |some (b,C)=>¬(g.F b\/b=w.heap.size)/\_
  cases a:g.β r with
  |none=>rw[a] at j;exact j
  |some p=>
   obtain⟨b,L⟩:=p;rw[a] at j;obtain⟨B,K,m,F,I,u,J⟩:=j;refine⟨λD=>D.elim B (λe=>by have:=nN m;omega),K,(gv w _ b (nN m)).trans m,F,I,u,λi s c x=>?_⟩
   obtain⟨y,t,n,G⟩:=J i s c x;exact⟨y,t,n,G.nZ l⟩
end
section
variable {P:Program}{nt:Nat}{E:Env}{H:List aO}{o:Oper}
def J5{elem b m:Nat}{e:List PV}(R:nY P E H o elem b e (λq v=>.sl q v 0 m))(Z:e.length=m)(W:∀s,s∈e->cE 0 s):
 fJ P o E H λab H1=>ab= .vs b e/\H1=H:=by
 subst Z;intro g nt aa w j ag ae z;obtain⟨cells,M,u,c,L,N,af,Q,ad,ai,ah,V,S⟩:=R g nt aa w j;unfold n0;rw[L];have ac:bF g H c/\GStep H.length g H w g H c/\c.heap.size=w.heap.size:=by
  rcases N with rfl |rfl
  .exact⟨j.m,GStep.refl _ _ _ _,rfl⟩
  .obtain⟨T,A⟩:=Ez (m:=H.length) j.m;exact⟨A,T,rfl⟩
 obtain⟨Y,l,n⟩:=ac;obtain⟨t,D⟩:=Y.afW elem cells;have U:=S ⟨λ_=>False,λq=>if q=0 then c4 (w.heap.size,M) else c6⟩ [⟨elem,b,e,0⟩] (c.alloc (.cells cells elem)) 0 0 rfl rfl;have p:=lh (o:=⟨elem,b,e,0⟩) U rfl rfl;unfold SL at p;obtain⟨_,cap,I,X,y,G,_⟩:=p;have K:(c.alloc (.cells cells elem)).heap[w.heap.size]?=c4 (.cells cells elem (0,0)):=by rw[<-n];exact heap_alloc_new c _
 have C:VI (g.plus c.heap.size).F (c.alloc (.cells cells elem)) (.vs b e) u:=by
  rw[X]
  by_cases h0:e.length=0
  .rw[e5 h0];exact .eX b I cap
  .obtain rfl:=G h0;have k:∀i a f,abk e i a=c4 f->cells[i*b+a]?=c4 (cells.getD (i*b+a) undef)/\(cells.getD (i*b+a) undef).oneCell'=true/\VI (g.plus c.heap.size).F (c.alloc (.cells cells elem)) f (cells.getD (i*b+a) undef):=λi a f h=>by
    obtain⟨J,r,B,x⟩:=V i a f h;have O:cells.getD (i*b+a) undef=J:=by simp[j2,r]
    rw[O];exact⟨r,B,((x.nZ l).nZ t).dH (nR W h)⟩
   have:=VI.vs (F:=(g.plus c.heap.size).F) (w:=c.alloc (.cells cells elem)) b e w.heap.size 0 cap (λi a=>cells.getD (i*b+a) undef) y (.inr n.symm) Q
    (λi a f h=>by
     rw[cell_of_row _ _ _ cells elem (0,0) K,gx];exact(k i a f h).1)
    (λi a f h=>(k i a f h).2.1) (λi a f h=>(k i a f h).2.2)
   simpa using this
 exact z u _ (g.plus c.heap.size) _ H ⟨rfl,rfl⟩ (.aW C) D (l.trans t)
def ab0{d:Option Nat}{ty:TypeId}{pos:String}{aft:Array Edge}{k:TypeId}{b l:Operand}{j c n:Nat}{p:PV}{f:List PV}{m:Value}(e:PE E b= .bg\/PE E b= .z0)(u:PE E l=p)(r:lE H p c f)(s:0<c)
 (x:dU P k=c4 j) (q:cH P j=c4 c) (G:kB P j=c4 n) (y:dV P j=c4 m) (F:m.cells.size=c) (I:f.length*n<=140737488355328) (D:f.length<=9223372036854775807) (J:∀t,t∈f->cE 0 t):
 fJ P ⟨d,.call {callee:=.builtin .append,args:=#[b,l],argTypes:=#[k,k]},ty,pos,aft,c6⟩ E H λK H1=>K= .vs c f/\H1=H:=by
 by_cases v:f=[]
 .subst v;have C:∀g nt (h:Act) w,Rel g nt E H h w->∃i,h.eval b= .slice i 0 0:=λg nt h w a=>by
   rcases e with e |e
   .exact⟨c6,(e▸a.e.eval b).pF⟩
   .exact(e▸a.e.eval b).rh
  intro g nt h w a O L A;obtain⟨i,B⟩:=C g nt h w a;obtain⟨_,M,N,z,_⟩:=r.real a.m (u▸a.e.eval l) s;unfold n0;rw[Ei,B,z,l0,xr (gD x) q (ef _)];exact A (.slice i 0 0) w g _ H ⟨rfl,rfl⟩ (.aW (.eX c i 0)) a.m (GStep.refl _ _ _ _)
 .exact J5 (PO e u r s x q G y F I D v) rfl J
end
section
variable {P:Program}{E:Env}{H:List aO}{d:Option Nat}{ty:TypeId}{pos:String}{aft:Array Edge}{gd:Option (Nat×Bool)}
def apw{f:FuncId}{bs cs:List Operand}:cM P ⟨d,.makeFunc (.func f) bs.toArray cs.toArray,ty,pos,aft,gd⟩ E H (.fn f (bs.map (PE E)) (cs.map (PE E))):=by
 intro g nt j w m;refine⟨.func (.func f) (bs.map j.eval).toArray (cs.map j.eval).toArray,by simp[execOp,Instr.makeFunc],?_⟩
 have k:∀(c:List Operand) (i:Nat) (e:PV) (h:Value),(c.map (PE E))[i]?=c4 e->(c.map j.eval)[i]?=c4 h->VR g H w e h:=λc i e h a b=>by
  rw[e6] at a b;cases l:c[i]? with
  |none=>rw[l] at a;cases a
  |some o=>
   rw[l] at a b;injection a with a;injection b with b
   subst a;subst b;exact m.e.eval o
 exact .fn f _ _ _ _ (by simp) (k bs) (by simp) (k cs)
end
inductive Cc:PV->PV->Prop
 |refl (c:PV):Cc c c
 |nil (sz:Nat):Cc .bg (.vs sz [])
 |z0 (sz:Nat):Cc .z0 (.vs sz [])
 |agg (cs ds:List PV) (hl:cs.length=ds.length) (h:∀(i:Nat) (c d:PV),cs[i]?=c4 c->ds[i]?=c4 d->Cc c d):Cc (.agg cs) (.agg ds)
def Cc.vi{F:Nat->Prop}{w:World}{c d:PV}(h:Cc c d):∀{x:Value},VI F w c x->VI F w d x:=by
 induction h with
 |refl c=>exact id
 |nil sz=>intro x h;cases h;exact .eX sz c6 0
 |z0 sz=>intro x h;cases h;exact .eX sz _ 0
 |agg n k u s j=>
  intro x h;cases h with
  |agg _ e t l=>
   refine .agg k e (by omega) λi c x a m=>?_
   have hi:i<n.length:=by
    have:=(c7.1 a).1;omega
   exact j i _ c (c5 hi) a (l i _ x (c5 hi) m)
def Cc.vr{g:Gh}{H:List aO}{w:World}{c d:PV}(h:Cc c d):∀{x:Value},VR g H w c x->VR g H w d x:=by
 induction h with
 |refl c=>exact id
 |nil sz=>intro x h;rw[h.pF];exact .aW (.eX sz c6 0)
 |z0 sz=>
  intro x h;obtain⟨a,rfl⟩:=h.rh;exact .aW (.eX sz _ 0)
 |agg s l y t k=>
  intro x h;obtain⟨j,rfl,u,m⟩:=h.ky;refine .agg l j (by omega) λi c x e n=>?_
  have hi:i<s.length:=by
   have:=(c7.1 e).1;omega
  exact k i _ c (c5 hi) e (m i _ x (c5 hi) n)
def Cc.cells{c d:PV}(h:Cc c d):c.cells.length=d.cells.length/\∀(i:Nat) (a b:PV),c.cells[i]?=c4 a->d.cells[i]?=c4 b->Cc a b:=by
 cases h with
 |refl=>exact⟨rfl,λi a b j e=>by rw[j] at e;injection e with e;subst e;exact .refl _⟩
 |nil sz=>exact⟨rfl,λi a b j e=>by
  match i,j,e with
  |0,j,e=>simp[PV.cells] at j e;subst j;subst e;exact .nil sz⟩
 |z0 sz=>exact⟨rfl,λi a b j e=>by
  match i,j,e with
  |0,j,e=>simp[PV.cells] at j e;subst j;subst e;exact .z0 sz⟩
 |agg m n l k=>exact⟨l,k⟩
structure jB (o o':aO):Prop where
 ty:o'.ty=o.ty
 sz:o'.sz=o.sz
 aF:o'.aF=o.aF
 len:o'.es.length=o.es.length
 wid:∀(i:Nat) (e:PV),o'.es[i]?=c4 e->e.cells.length=o'.sz
 cells:∀(i j:Nat) (c':PV),abk o'.es i j=c4 c'->∃c,abk o.es i j=c4 c/\Cc c c'
def jB.of{ty sz aF:Nat}{es j:List PV}(t:es.length=j.length)(h:∀(i:Nat) (c d:PV),es[i]?=c4 c->j[i]?=c4 d->Cc c d)(m:∀(i:Nat) (e:PV),j[i]?=c4 e->e.cells.length=sz):jB ⟨ty,sz,es,aF⟩ ⟨ty,sz,j,aF⟩:=by
 refine⟨rfl,rfl,rfl,t.symm,m,λi k n a=>?_⟩
 unfold abk at a⊢;cases he:j[i]? with
 |none=>rw[he] at a;cases a
 |some e=>
  rw[he] at a;have hi:i<es.length:=by
   have:=(c7.1 he).1;omega
  obtain⟨u,s⟩:=(h i _ e (c5 hi) he).cells;simp only[hU] at a;have l:k<es[i].cells.length:=by
   have:=(c7.1 a).1;omega
  exact⟨es[i].cells[k],by rw[c5 hi];exact c5 l,s k _ n (c5 l) a⟩
section
variable {g:Gh}{H:List aO}{w:World}{r:Nat}{o o':aO}
def SL.cv(h:jB o o'){q off len:Nat}{x:Value}(a:SL g o q off len x):SL g o' q off len x:=by
 unfold SL at*;rw[h.len,h.sz];exact a
def VR.qN(G:H[r]?=c4 o)(h:jB o o'){c:PV}{x:Value}(j:VR g H w c x):VR g (H.set r o') w c x:=by
 have P:r<H.length:=(c7.1 G).1;have D:∀q p,H[q]?=c4 p->∃d,(H.set r o')[q]?=c4 d/\d.aF=p.aF/\d.sz=p.sz/\d.es.length=p.es.length/\∀{s off len x},SL g p s off len x->SL g d s off len x:=λq p k=>by
  by_cases e:r=q
  .subst e;rw[G] at k;injection k with k
   subst k;exact⟨o',ee P,h.aF,h.sz,h.len,λL=>L.cv h⟩
  .exact⟨p,by rw[ey e];exact k,rfl,rfl,rfl,id⟩
 induction j with
 |aW h=>exact .aW h
 |ptr q v i K p a y j O=>
  obtain⟨d,m,I,F,B,A⟩:=D q p y;exact .ptr q v i K d a m (by omega) λe=>by rw[F,B];exact O (by omega)
 |sl q v off len p x y j C E=>
  obtain⟨d,m,I,F,B,A⟩:=D q p y;exact .sl q v off len d x m (by omega) C λe=>A (E (by omega))
 |fl q v p x y j C E=>
  obtain⟨d,m,I,F,B,A⟩:=D q p y;exact .fl q v d x m (by omega) C λe=>by rw[B];exact A (E (by omega))
 |agg l t n j u=>exact .agg l t n u
 |bu l t n j u=>exact .bu l t n u
 |fn f l N t Q n j J R u M=>exact .fn f l N t Q n u J M
def bF.qN(k:bF g H w)(l:H[r]?=c4 o)(h:jB o o'):bF g (H.set r o') w:=by
 have M:r<H.length:=(c7.1 l).1;refine⟨k.fb,k.inj,λq b C d=>by rw[o3];exact k.m8 q b C d,λq p j=>?_⟩
 by_cases e:r=q
 .subst e;rw[ee M] at j;injection j with j
  subst j;obtain⟨a1,I,a⟩:=k.obj r o l;refine⟨by rw[h.sz];exact a1,h.wid,?_⟩
  cases d:g.β r with
  |none=>
   rw[d] at a;have:o'.es.length=0:=by rw[h.len,a];rfl
   exact e5 this
  |some s=>
   obtain⟨b,C⟩:=s;rw[d] at a;obtain⟨y,cells,A,B,E,u,G⟩:=a;refine⟨y,cells,by rw[h.ty];exact A,by rw[h.sz];exact B,E,by rw[h.len];exact u,λi m c F=>?_⟩
   obtain⟨J,L,K⟩:=h.cells i m c F;obtain⟨x,t,n,D⟩:=G i m J L;exact⟨x,by rw[h.sz];exact t,n,(K.vr D).qN l h⟩
 .rw[ey e] at j;obtain⟨a1,I,a⟩:=k.obj q p j;refine⟨a1,I,?_⟩
  cases d:g.β q with
  |none=>rw[d] at a;exact a
  |some s=>
   obtain⟨b,C⟩:=s;rw[d] at a;obtain⟨y,cells,A,B,E,u,G⟩:=a;exact⟨y,cells,A,B,E,u,λi m c F=>let ⟨x,t,n,D⟩:=G i m c F;⟨x,t,n,D.qN l h⟩⟩
def GStep.qN{n:Nat}{m:Gh}{H0:List aO}{d:World}(a:GStep n m H0 d g H w)(l:H[r]?=c4 o)(h:jB o o'):GStep n m H0 d g (H.set r o') w:=by
 have u:r<H.length:=(c7.1 l).1;refine⟨a.os,a.tape,a.output,a.size,a.F,a.jh,a.rest,a.oY,a.oZ,λq p s t=>?_⟩
 obtain⟨x,c,j,k⟩:=a.dF q p s t
 by_cases e:r=q
 .subst e;rw[l] at c;injection c with c
  subst c;exact⟨o',ee u,by rw[h.aF];exact j,λe=>by rw[h.sz,h.len];exact k (by rw[<-h.aF];exact e)⟩
 .exact⟨x,by rw[ey e];exact c,j,k⟩
end
def tu{i:Program}{j:Oper}{f:Env}{H:List aO}{h c:PV}{r:Nat}{o o':aO}(q:fJ i j f H λv b=>v=h/\b=H.set r o)(u:r<H.length)(e:jB o o')(z:Cc h c):fJ i j f H λv b=>v=c/\b=H.set r o':=by
 intro g n C w k t l m;refine q g n C w k t l ?_
 rintro y A x v D ⟨rfl,rfl⟩ s B p;have a:(H.set r o)[r]?=c4 o:=ee u;have d:(H.set r o).set r o'=H.set r o':=by rw[List.set_set]
 refine m y A x c (H.set r o') ⟨rfl,rfl⟩ (z.vr ?_) ?_ ?_
 .have:=s.qN a e;rwa [d] at this
 .have:=B.qN a e;rwa [d] at this
 .have:=p.qN a e;rwa [d] at this
def ZN{l:Nat->Prop}{w:World}{d:Nat}{k f:List PV}{n:Value}(c:VI l w (.vs d k) n)(j:jB ⟨0,d,k,0⟩ ⟨0,d,f,0⟩):VI l w (.vs d f) n:=by
 have m:f.length=k.length:=j.len;cases c with
 |eX _ y cap=>
  have:f=[]:=e5 (by rw[m];rfl);subst this;exact .eX d y cap
 |vs _ _ b x cap s z u A t q v=>
  rw[<-m];refine .vs d f b x cap s (by omega) u j.wid (λi a h c=>?_) (λi a h c=>?_) (λi a h c=>?_)
  .obtain⟨e,h0,_⟩:=j.cells i a h c;exact t i a e h0
  .obtain⟨e,h0,_⟩:=j.cells i a h c;exact q i a e h0
  .obtain⟨e,h0,p⟩:=j.cells i a h c;exact p.vi (v i a e h0)
def Pf{h:Program}{i:Oper}{f:Env}{H:List aO}{a:Nat}{d e:List PV}(p:fJ h i f H λv b=>v= .vs a d/\b=H)(s:jB ⟨0,a,d,0⟩ ⟨0,a,e,0⟩):fJ h i f H λv b=>v= .vs a e/\b=H:=by
 intro g m z w j q k l;refine p g m z w j q k ?_
 rintro u x t v A ⟨rfl,rfl⟩ c y n;refine l u x t _ _ ⟨rfl,rfl⟩ ?_ y n
 cases c with
 |aW c=>exact .aW (ZN c s)
def qX{e:Program}{f:Oper}{d:Env}{H H1:List aO}{q v c:Nat}{o:aO}(n:fJ e f d H λa b=>a= .sl q v 0 c/\b=H1)(i:ek H1 q o)(u:c=o.es.length):fJ e f d H λa b=>a= .fl q v/\b=H1:=by
 intro g l z w h s j k;refine n g l z w h s j ?_
 rintro a x t B A ⟨rfl,rfl⟩ p y m;exact k a x t _ _ ⟨rfl,rfl⟩ (p.aa1 i u) y m
def P6{e c:Nat}(v:PV):jB ⟨e,v.cells.length,[v],c⟩ ⟨e,v.cells.length,[.agg v.cells],c⟩:=by
 refine⟨rfl,rfl,rfl,rfl,λi f a=>?_,λi h d b=>?_⟩
 .match i,a with
  |0,a=>simp at a;subst a;rfl
 .match i,b with
  |0,b=>exact⟨d,b,.refl d⟩
end Go.Bml
namespace Go.X
open Go Go.Aml Go.Bml
section
variable {α:Type}
def cJ:∀(a:List α) (i:Nat),nth a i=a[i]?
 |[],_=>by simp[nth]
 |_::_,0=>rfl
 |_::a,i+1=>by simpa[nth] using cJ a i
def bK:∀(b a:List α),aX b a=b++a
 |[],_=>rfl
 |c::b,a=>by simp[aX,bK b a]
def eu:∀(a:List α),len a=a.length
 |[]=>rfl
 |_::a=>by simp[len,eu a]
def iL:∀(a:List α) (i:Nat) (b:α),me a i b=a.set i b
 |[],_,_=>rfl
 |_::_,0,_=>rfl
 |c::a,i+1,b=>by simp[me,iL a i b]
def kK:∀(b:Nat) (a:List α),tk b a=a.take b
 |0,_=>by simp[tk]
 |_+1,[]=>rfl
 |b+1,c::a=>by simp[tk,kK b a]
def drop_eq:∀(b:Nat) (a:List α),drop b a=a.drop b
 |0,_=>rfl
 |_+1,[]=>rfl
 |b+1,c::a=>by simpa[drop] using drop_eq b a
def oO:∀(b:List Nat) (a:Nat),has b a=true↔a∈b
 |[],a=>by simp[has]
 |d::b,a=>by
  simp only[has,mb];cases c:e4 d a with
  |true=>simp[(h5 c).symm]
  |false=>
   have:a≠d:=λe=>by rw[e,k7] at c;cases c
   simp[this,oO b a]
def nA{a:List Nat}{b:Nat}(c:has a b=false):b∉a:=λd=>by rw[(oO a b).2 d] at c;cases c
def tw:∀(a:List Nat),rj a=true↔a.Nodup
 |[]=>by simp[rj]
 |c::a=>by
  simp only[rj,List.nodup_cons];cases b:has a c with
  |true=>simp[(oO a c).1 b]
  |false=>simp[nA b,tw a]
def beq_eq{a b:Nat}(c:e4 a b=true):a=b:=h5 c
def fq{f d:Type}{b:Option f}{c:f->Option d}{r:d}(e:tr b c=c4 r):∃a,b=c4 a/\c a=c4 r:=by
 cases b with
 |none=>cases e
 |some a=>exact⟨a,rfl,e⟩
def a8{a:Bool}{b:Option α}{r:α}(c:(bif a then b else c6)=c4 r):a=true/\b=c4 r:=by
 cases a with
 |true=>exact⟨rfl,c⟩
 |false=>cases c
def qy:∀(a:List (Nat×α)) (H:List α),(b8 H a).length=H.length
 |[],_=>rfl
 |p::a,H=>by rw[b8,qy a,iL,o3]
def qV{b:Nat->Type}:∀a,(dx a:List (Ob b)).length=a
 |0=>rfl
 |a+1=>by simp[dx,qV a]
def qh{a b:IntKind}(c:fV a b=true):a=b:=of_decide_eq_true c
end
section
variable (B:Tb)
mutual
def pv:TV B.D->PV
 | .any=>.any
 | .z0=>.z0
 | .fS=>.fS
 | .bg=>.bg
 | .dB=>.dB
 | .int g c=>.int g c
 | .bool b=>.bool b
 | .str j=>.str j
 | .row c h=>.vs (B.sz c) (h.map (B.ty c).enc)
 | .rv c e=>.vs (B.sz c) (aP e)
 | .ptr r v i d=>.ptr r v i d
 | .fl r v=>.fl r v
 | .sl r v l len=>.sl r v l len
 | .vp a d=>.dw (aP a) d
 | .agg a=>.agg (aP a)
 | .bu a=>.bu (aP a)
 | .fn f a k=>.fn f (aP a) (aP k)
 | .jC c6=>.dB
 | .jC (c4 f)=>.fn f [] []
def aP:List (TV B.D)->List PV
 |[]=>[]
 |b::a=>pv b::aP a
end
def db:∀a,aP B a=a.map (pv B)
 |[]=>rfl
 |b::a=>by simp[aP,db a]
def aU:En B.D->Env
 |[]=>[]
 |p::r=>(p.1,pv B p.2)::aU r
def aY(b:Ob B.D):aO:=
 match b.bd with
 | .aap a c=>⟨a,B.sz a,c.map (B.ty a).enc,b.aF⟩
 | .box e d=>⟨e,d.length,[.agg (aP B d)],b.aF⟩
 | .dead=>⟨0,1,[],b.aF⟩
 | .hole a c f=>⟨a,B.sz a,c.map (B.ty a).enc++aP B f,b.aF⟩
def av(H:List (Ob B.D)):List aO:=H.map (aY B)
def ep:∀(b:En B.D) (a:Nat),Bml.look (aU B b) a=pv B (lk b a)
 |[],a=>by simp[aU,Bml.look,lk,pv]
 |p::r,a=>by
  simp only[aU,Bml.look,lk];cases e4 p.1 a with
  |true=>rfl
  |false=>exact ep r a
def OD(v:Value):pv B (Cs v)=jq v:=by
 unfold Cs jq
 split <;> simp[pv]
def r8:∀a:List Value,aP B (rq a)=a.map jq
 |[]=>rfl
 |v::a=>by simp[rq,aP,OD,r8 a]
def DK(v:Value):pv B (cv v)=kP v:=by
 cases v <;> first
  |(simp only[cv,kP];exact OD B _)
  |simp[cv,kP,pv,r8]
def Bw(a:En B.D)(c:Operand):PE (aU B a) c=pv B (pe a c):=by
 cases c with
 |tmp d=>exact ep B a d
 |const v=>exact(DK B v).symm
 |global b=>simp[PE,pe,pv]
 |func f=>simp[PE,pe,pv,aP]
def sx(b:En B.D)(a:Option Nat)(v:TV B.D):aU B (gr b a v)=li (aU B b) a (pv B v):=by
 cases a <;> rfl
def nB(a:TV B.D):(pv B a).cells=(dN a).map (pv B):=by
 cases a <;> first
  |rfl
  |(rename_i b;cases b <;> rfl;done)
  |simp[pv,PV.cells,dN,db]
end
structure cU (P:Program) (B:Tb):Prop where
 row:∀(n m:Nat) (xs:List (B.D m)) (x:B.D n),B.up n (.row m xs)=c4 x->B.tv n x= .row m xs
 el:∀(n:Nat) (x:B.D n) (m:Nat) (xs:List (B.D m)),B.tv n x= .row m xs->m=B.el n
 tv:∀(n:Nat) (x:B.D n),pv B (B.tv n x)=(B.ty n).enc x
 lt:∀(n:Nat) (x:B.D n),cE 0 ((B.ty n).enc x)
 up:∀(n:Nat) (t:TV B.D) (x:B.D n),B.up n t=c4 x->cE 0 (pv B t)/\Cc (pv B t) ((B.ty n).enc x)
 wid:∀(n:Nat) (x:B.D n),((B.ty n).enc x).cells.length=B.sz n
 one:∀(n:Nat) (x:B.D n),((B.ty n).enc x).cells.all PV.one=true
 pos:∀(n:Nat),0<B.sz n
 xw:∀(n:Nat) (x:B.D n) (vs:List PV),(B.ty n).enc x≠ .bu vs
 ic:∀(n:Nat),B.D n->cH P n=c4 (B.sz n)
 flat:∀(n:Nat) (x:B.D n),B.flat n=true->∀(j:Nat) (c:PV),((B.ty n).enc x).cells[j]?=c4 c->∀(F F':Nat->Prop) (w w':World) (v:Value),VI F w c v->VI F' w' c v
def cU.aqv{u:Program}{B:Tb}(A:cU u B)(n:Nat)(x:B.D n)(t:B.flat n=true)(F k:Nat->Prop)(a d:World)(v:Value)(h:VI F a ((B.ty n).enc x) v):VI k d ((B.ty n).enc x) v:=by
 have key:=A.flat n x t;generalize (B.ty n).enc x=e at key h
 by_cases m:∃j,e= .agg j
 .obtain⟨j,rfl⟩:=m;cases h with
  |agg _ s C w=>exact .agg j s C λi c x l y=>key i c l F k a d x (w i c x l y)
 .have o:e.cells=[e]:=by cases e <;> first |rfl |exact absurd ⟨_,rfl⟩ m
  exact key 0 e (by rw[o];rfl) F k a d v h
section
variable {B:Tb}{H:List (Ob B.D)}
def fx{r v:Nat}{b:Bd B.D}(a:aK H r v=c4 b):∃c,nth H r=c4 ⟨c,v,b⟩:=by
 unfold aK at a
 split at a
 .rename_i f g;obtain⟨c,e,h⟩:=f;cases d:e4 e v with
  |true=>
   simp only[d,cond_true,m4] at a;subst a;exact⟨c,by rw[g,beq_eq d]⟩
  |false=>simp[d] at a
 .cases a
def df{r:Nat}{a:Ob B.D}(b:nth H r=c4 a):ek (av B H) r (aY B a):=by
 unfold ek av;rw[cJ] at b;rw[e6,b]
 rfl
def qL:(av B H).length=H.length:=by simp[av]
def Zc{r:Nat}{a:Ob B.D}:av B (me H r a)=(av B H).set r (aY B a):=by
 unfold av;rw[iL,r0]
end
def ajP{c:Program}{d:Oper}{b:Env}{H:List aO}{v:PV}(l:cM c d b H v):fJ c d b H λi f=>i=v/\f=H:=by
 intro g h n a e p q o;obtain⟨k,m,j⟩:=l g h n a e;unfold n0;rw[m];exact o k a g v H ⟨rfl,rfl⟩ j e.m (GStep.refl _ _ _ _)
def lI{d:Program}{e:Oper}{c:Env}{H:List aO}{b a:PV->List aO->Prop}(n:fJ d e c H b)(f:∀v H,b v H->a v H):fJ d e c H a:=
 λg j t m p o h i=>n g j t m p o h λr s q v l k=>i r s q v l (f _ _ k)
section
variable {P:Program}{B:Tb}{R:Type}{r:R}
structure Ag (op:Op) (l:List Nat) (E E':En B.D) (X H':List (Ob B.D)):Prop where
 e:∀x,x∈op.operands->pe E' x=pe E x
 h:∀i,i∈l->nth H' i=nth X i
 le:X.length<=H'.length
def gY(P:Program)(d:Op)(f:En B.D)(e:List (Ob B.D))(a:cr B.D):Prop:=
 ∀h g j k c b,Ag d (aX a.rd (eV a.wr)) f c (aX e (dx a.nw)) b->
  fJ P ⟨h,d,g,j,k,c6⟩ (aU B c) (av B b) λv i=>v=pv B a.val/\i=av B (b8 b a.wr)
def fW(P:Program)(e:Op)(h:En B.D)(f:List (Ob B.D))(g:List Nat)(v:TV B.D):Prop:=
 ∀k j l m c b,(∀a,a∈e.operands->PE (aU B c) a=pv B (pe h a))->(∀i d,i∈g->nth f i=c4 d->nth b i=c4 d)->cM P ⟨k,e,j,l,m,c6⟩ (aU B c) (av B b) (pv B v)
def Dy{c:List (Ob B.D)}{n i:Nat}{b:Ob B.D}(a:nth c i=c4 b):nth (aX c (dx n)) i=c4 b:=by
 rw[cJ] at a⊢;rw[bK,dv (c7.1 a).1];exact a
def fW.sound{a:Op}{E:En B.D}{H:List (Ob B.D)}{rd:List Nat}{v:TV B.D}(h:fW P a E H rd v):gY P a E H ⟨v,[],0,rd⟩:=by
 intro d ty pos m j e c;refine ajP (h d ty pos m j e (λx k=>?_) λi n hi l=>?_)
 .rw[Bw,c.e x k]
 .rw[c.h i (by simp[bK,hi])];exact Dy l
def anB{a:Operand}{b:En B.D}{d:List (Ob B.D)}:fW P (.move a) b d [] (pe b a):=
 λ_ _ _ _ _ _ c _=>aik (c a (by simp[dd]))
def aqt{a:Operand}{b:En B.D}{d:List (Ob B.D)}:fW P (.assign a) b d [] (pe b a):=
 λ_ _ _ _ _ _ c _=>ak6 (c a (by simp[dd]))
def Ra{g:Gh}{q:List aO}{s:World}{u:TypeId}{d:List (TV B.D)}{c:List Value}{b:Nat}{w:TV B.D}(t:d.length=c.length)(p:∀(i:Nat) (h:PV) (j:Value),(aP B d)[i]?=c4 h->c[i]?=c4 j->VR g q s h j)(a:piece P u d b=c4 w):
 ∃v,(∀l,(part u c.toArray b).run P l= .ok v l)/\VR g q s (pv B w) v:=by
 unfold piece at a
 split at a
 .rename_i n
  split at a
  .rename_i m y;obtain⟨z,f⟩:=a8 a;rw[kK,drop_eq] at f;injection f with f
   subst f;refine⟨.agg ((c.drop b).take m).toArray,λl=>?_,?_⟩
   .simp[part,o5 n,Go.Bml.run_sizeOf y,m0,k6]
   .have:pv B (.agg ((d.drop b).take m))= .agg (aP B ((d.drop b).take m)):=rfl;rw[this];refine .agg _ _ (by rw[db];simp[t]) λi h j e k=>?_
    rw[db,e6,h6] at e;rw[h6] at k
    split at e
    .rename_i x;rw[if_pos x] at k;rw[ea] at e k;exact p _ h j (by rw[db,e6];exact e) k
    .simp at e
  .cases a
 .rename_i n;rw[cJ] at a;have o:b<c.length:=by rw[<-t];exact(c7.1 a).1
  refine⟨c[b],λl=>by simp[part,o5 n,o],p b _ _ ?_ (c5 o)⟩
  rw[db,e6,a]
  rfl
 .cases a
def Q1{g:Gh}{j:List aO}{d:World}{D:TypeId->TV B.D->TV B.D->Option Bool}{w:Nat}{l m:List (TV B.D)}{n o:List Value}(z:l.length=n.length)(t:∀(i:Nat) (e:PV) (c:Value),(aP B l)[i]?=c4 e->n[i]?=c4 c->VR g j d e c)
 (s:m.length=o.length) (u:∀(i:Nat) (e:PV) (c:Value),(aP B m)[i]?=c4 e->o[i]?=c4 c->VR g j d e c)
 (y:∀(A:Nat) (C c:TV B.D) (b:Bool),D A C c=c4 b->∀(x v:Value),VR g j d (pv B C) x->VR g j d (pv B c) v->(j9 w A x v).run P d= .ok b d):
 ∀(h:List Field) (b:Bool),A6 P D l m h=c4 b->(q2 w n.toArray o.toArray h).run P d= .ok b d
 |[],b,a=>by
  injection a with a
  subst a;simp[q2]
 |f::h,b,a=>by
  unfold A6 at a;obtain⟨k,a⟩:=a8 a
  split at a
  .rename_i T S J K
   split at a
   .rename_i p q N E;injection a with a
    subst a;obtain⟨Q,F,G⟩:=Ra z t J;obtain⟨O,I,H⟩:=Ra s u K;have L:=y _ _ _ _ N _ _ G H;have M:=Q1 z t s u y h q E;have k:f.name≠ "_":=by simpa using k
    simp only[q2,if_pos k,gb,F,I,ez,L];cases p with
    |true=>simpa using M
    |false=>simp
   .cases a
  .cases a
def Hq{g:Gh}{q:List aO}{w:World}:∀(d c:Nat) (h f:TV B.D) (b:Bool),yq P d c h f=c4 b->∀(j v:Value),VR g q w (pv B h) j->VR g q w (pv B f) v->(j9 d c j v).run P w= .ok b w
 |0,_,_,_,_,a=>by cases a
 |d+1,c,h,f,b,a=>by
  intro j v k l;unfold yq at a
  split at a
  .rename_i e
   split at a
   .rename_i A u;injection a with a
    subst a;rw[VR.n5 k,VR.n5 l];exact run_equalIn_bool' w d c _ _ e
   .cases a
  .rename_i F e
   split at a
   .rename_i G A C u;obtain⟨t,m⟩:=a8 a;obtain rfl:=qh t;injection m with m
    subst m;rw[VR.fQ k,VR.fQ l];exact run_equalIn_int w d c _ _ _ _ e
   .cases a
  .rename_i n e;cases i:P.stoodInHeld c with
   |true=>rw[i] at a;cases a
   |false=>
    rw[i] at a;simp only[cond_false] at a
    split at a
    .rename_i D E;obtain⟨H,rfl,s,x⟩:=VR.ky k;obtain⟨I,rfl,o,y⟩:=VR.ky l;have p:P.fieldsOf c=n:=by unfold Program.fieldsOf;rw[e]
     rw[run_equalIn_struct w d c _ _ (by rw[p];exact e) i,p];rw[db,dk] at s o;exact Q1 s x o y (λc h f b z=>Hq d c h f b z) n.toList b a
    .cases a
  .cases a
def Et{w:World}{a:TypeId}{l j:Array TypeId}{i:Bool}(g:P.underlying a=c4 (.func l j i)):
 ((binOp .eql a .nilFunc .nilFunc).run P w= .ok (.bool true) w/\∀f b v,(binOp .eql a (.func f b v) .nilFunc).run P w= .ok (.bool false) w)/\
 ((binOp .neq a .nilFunc .nilFunc).run P w= .ok (.bool false) w/\∀f b v,(binOp .neq a (.func f b v) .nilFunc).run P w= .ok (.bool true) w):=by
 have h:∀c,(j9 (c+1) a .nilFunc .nilFunc).run P w= .ok true w:=λc=>by simp[j9,run_underlying g]
 have k:∀c f b v,(j9 (c+1) a (.func f b v) .nilFunc).run P w= .ok false w:=λc f b v=>by simp[j9,run_underlying g]
 have d:(mx a .nilFunc .nilFunc).run P w= .ok true w:=h 9999;have e:∀f b v,(mx a (.func f b v) .nilFunc).run P w= .ok false w:=k 9999;refine⟨⟨?_,λf b v=>?_⟩,?_,λf b v=>?_⟩
 .show(do pure (.bool (<-mx a .nilFunc .nilFunc)):Sem Value).run P w=_
  simp[d]
 .show(do pure (.bool (<-mx a (.func f b v) .nilFunc)):Sem Value).run P w=_
  simp[e]
 .show(do pure (.bool !(<-mx a .nilFunc .nilFunc)):Sem Value).run P w=_
  simp[d]
 .show(do pure (.bool !(<-mx a (.func f b v) .nilFunc)):Sem Value).run P w=_
  simp[e]
def afA{n:BinOp}{m yt:TypeId}{e j:Operand}{s:En B.D}{H:List (Ob B.D)}{ag:TV B.D->Option R}(k:bin B P n m (pe s e) (pe s j) ag=c4 r):
 ∃v,ag v=c4 r/\fW P (.binOp n m e j yt) s H [] v:=by
 unfold bin at k
 split at k
 .rename_i l am b ai C D;have h:∀{c:En B.D},(∀z,z∈(la n m e j yt).operands->PE (aU B c) z=pv B (pe s z))->PE (aU B c) e= .int l am:=λa=>by rw[a e (by simp[dd]),C];rfl
  have i:∀{c:En B.D},(∀z,z∈(la n m e j yt).operands->PE (aU B c) z=pv B (pe s z))->PE (aU B c) j= .int b ai:=λa=>by rw[a j (by simp[dd]),D];rfl
  cases n <;> simp only at k
  case shl=>
   obtain⟨q,u,d⟩:=ec.1 k;obtain⟨h0,A⟩:=alN u;exact⟨_,d,λ_ _ _ _ _ _ a _=>apg (h a) (i a) h0 A⟩
  case shr=>
   obtain⟨q,u,d⟩:=ec.1 k;obtain⟨h0,A⟩:=adR u;exact⟨_,d,λ_ _ _ _ _ _ a _=>abz (h a) (i a) h0 A⟩
  all_goals
   obtain⟨ah,d⟩:=a8 k;obtain rfl:=qh ah
  case add=>exact⟨_,d,λ_ _ _ _ _ _ a _=>Vz (h a) (i a) rfl⟩
  case sub=>exact⟨_,d,λ_ _ _ _ _ _ a _=>Zh (h a) (i a) rfl⟩
  case mul=>exact⟨_,d,λ_ _ _ _ _ _ a _=>acd (h a) (i a) rfl⟩
  case quo=>
   obtain⟨q,u,d⟩:=ec.1 d;obtain⟨h0,A⟩:=agK u;exact⟨_,d,λ_ _ _ _ _ _ a _=>ae6 (h a) (i a) h0 A⟩
  case rem=>
   obtain⟨q,u,d⟩:=ec.1 d;obtain⟨h0,A⟩:=Yg u;exact⟨_,d,λ_ _ _ _ _ _ a _=>ahN (h a) (i a) h0 A⟩
  case and=>exact⟨_,d,λ_ _ _ _ _ _ a _=>akz (h a) (i a) rfl⟩
  case or=>exact⟨_,d,λ_ _ _ _ _ _ a _=>YI (h a) (i a) rfl⟩
  case xor=>exact⟨_,d,λ_ _ _ _ _ _ a _=>abR (h a) (i a) rfl⟩
  case andNot=>exact⟨_,d,λ_ _ _ _ _ _ a _=>aeA (h a) (i a) rfl⟩
  case eql=>exact⟨_,d,λ_ _ _ _ _ _ a _=>aea (h a) (i a)⟩
  case neq=>exact⟨_,d,λ_ _ _ _ _ _ a _=>ajI (h a) (i a)⟩
  case lss=>exact⟨_,d,λ_ _ _ _ _ _ a _=>ahs (h a) (i a)⟩
  case leq=>exact⟨_,d,λ_ _ _ _ _ _ a _=>aj5 (h a) (i a)⟩
  case gtr=>exact⟨_,d,λ_ _ _ _ _ _ a _=>amQ (h a) (i a)⟩
  case geq=>exact⟨_,d,λ_ _ _ _ _ _ a _=>abe (h a) (i a)⟩
 .rename_i l b C D;have h:∀{c:En B.D},(∀z,z∈(la n m e j yt).operands->PE (aU B c) z=pv B (pe s z))->PE (aU B c) e= .bool l:=λa=>by rw[a e (by simp[dd]),C];rfl
  have i:∀{c:En B.D},(∀z,z∈(la n m e j yt).operands->PE (aU B c) z=pv B (pe s z))->PE (aU B c) j= .bool b:=λa=>by rw[a j (by simp[dd]),D];rfl
  cases n <;> simp only at k <;> first |cases k |skip
  case eql=>
   obtain⟨ad,d⟩:=a8 k;exact⟨_,d,λ_ _ _ _ _ _ a _=>abj (h a) (i a) ad⟩
  case neq=>
   obtain⟨ad,d⟩:=a8 k;exact⟨_,d,λ_ _ _ _ _ _ a _=>ai2 (h a) (i a) ad⟩
 .rename_i ak al C D;have h:∀{c:En B.D},(∀z,z∈(la n m e j yt).operands->PE (aU B c) z=pv B (pe s z))->PE (aU B c) e=pv B (.agg ak):=λa=>by rw[a e (by simp[dd]),C]
  have i:∀{c:En B.D},(∀z,z∈(la n m e j yt).operands->PE (aU B c) z=pv B (pe s z))->PE (aU B c) j=pv B (.agg al):=λa=>by rw[a j (by simp[dd]),D]
  cases n <;> simp only at k <;> first |cases k |skip
  case eql=>
   cases y:P.eqGuardType P.depth m with
   |true=>rw[y] at k;cases k
   |false=>
    rw[y] at k;obtain⟨b,W,d⟩:=fq k;refine⟨_,d,λQ ab T af c V a _=>?_⟩
    intro g F l w p;have o:=h a▸p.e.eval e;have x:=i a▸p.e.eval j;obtain⟨Z,K,_⟩:=VR.ky o;obtain⟨ac,L,_⟩:=VR.ky x;have J:=Hq (w:=w) 10000 m _ _ b W _ _ o x;refine⟨.bool b,?_,.aW (.bool b)⟩
    rw[K,L] at J;simp only[execOp,K,L];simp[run_eqGuard_agg w .eql m e j Z.toArray ac.toArray y,run_eql_struct,J]
  case neq=>
   cases y:P.eqGuardType P.depth m with
   |true=>rw[y] at k;cases k
   |false=>
    rw[y] at k;obtain⟨b,W,d⟩:=fq k;refine⟨_,d,λQ ab T af c V a _=>?_⟩
    intro g F l w p;have o:=h a▸p.e.eval e;have x:=i a▸p.e.eval j;obtain⟨Z,K,_⟩:=VR.ky o;obtain⟨ac,L,_⟩:=VR.ky x;have J:=Hq (w:=w) 10000 m _ _ b W _ _ o x;refine⟨.bool (!b),?_,.aW (.bool _)⟩
    rw[K,L] at J;simp only[execOp,K,L];simp[run_eqGuard_agg w .neq m e j Z.toArray ac.toArray y,run_neq_struct,J]
 .rename_i E C D;obtain⟨aa,o⟩:=a8 k;have G:∃l b aj,P.underlying m=c4 (.func l b aj):=by
   unfold LM at aa
   split at aa
   .exact⟨_,_,_,by assumption⟩
   .cases aa
  obtain⟨an,ao,ap,G⟩:=G;have h:∀{c:En B.D},(∀z,z∈(la n m e j yt).operands->PE (aU B c) z=pv B (pe s z))->PE (aU B c) e=pv B (.jC E):=λa=>by rw[a e (by simp[dd]),C]
  have i:∀{c:En B.D},(∀z,z∈(la n m e j yt).operands->PE (aU B c) z=pv B (pe s z))->PE (aU B c) j= .dB:=λa=>by rw[a j (by simp[dd]),D];rfl
  have run:∀{c:En B.D} {S:List aO} {g:Gh} {w:World} {l:Act} {F:Nat},Rel g F (aU B c) S l w->PE (aU B c) e=pv B (.jC E)->PE (aU B c) j= .dB->l.eval j= .nilFunc/\((E=c6/\l.eval e= .nilFunc)\/∃f,E=c4 f/\l.eval e= .func (.func f) #[] #[]):=λ{c S g w l F} p o x=>by
   have M:=x▸p.e.eval j;refine⟨by generalize l.eval j=U at M;cases M with |aW M=>cases M;rfl,?_⟩
   have I:=o▸p.e.eval e;cases E with
   |none=>exact .inl ⟨rfl,by generalize l.eval e=U at I;cases I with |aW I=>cases I;rfl⟩
   |some f=>
    refine .inr ⟨f,rfl,?_⟩
    generalize l.eval e=U at I;have ae:VR g S w (.fn f [] []) U:=I;cases ae with
    |aW ae=>
     cases ae with
     |fn _ _ _ O vs Y _ N _=>
      obtain rfl:O=[]:=e5 Y.symm;obtain rfl:vs=[]:=e5 N.symm
      rfl
    |fn _ _ _ O vs Y _ N _=>
     obtain rfl:O=[]:=e5 Y.symm;obtain rfl:vs=[]:=e5 N.symm
     rfl
  cases n <;> simp only at o <;> first |cases o |skip
  case eql=>
   refine⟨_,o,λQ ab T af c V a _=>?_⟩
   intro g F l w p;obtain⟨X,t⟩:=run p (h a) (i a);refine⟨.bool E.isNone,?_,.aW (.bool _)⟩
   rcases t with⟨rfl,t⟩ |⟨f,rfl,t⟩ <;> simp[execOp,X,t,eqGuard,(Et (w:=w) G).1,(Et (w:=w) G).2]
  case neq=>
   refine⟨_,o,λQ ab T af c V a _=>?_⟩
   intro g F l w p;obtain⟨X,t⟩:=run p (h a) (i a);refine⟨.bool (!E.isNone),?_,.aW (.bool _)⟩
   rcases t with⟨rfl,t⟩ |⟨f,rfl,t⟩ <;> simp[execOp,X,t,eqGuard,(Et (w:=w) G).1,(Et (w:=w) G).2]
 .cases k
def amY{h:UnOp}{t:TypeId}{c:Operand}{g:En B.D}{H:List (Ob B.D)}{f:TV B.D->Option R}(a:HY B h (pe g c) f=c4 r):
 ∃v,f v=c4 r/\fW P (.unOp h t c) g H [] v:=by
 unfold HY at a
 split at a
 .rename_i i j e;exact⟨_,a,λ_ _ _ _ _ _ d _=>ajc (by rw[d c (by simp[dd]),e];rfl) rfl⟩
 .rename_i b e;exact⟨_,a,λ_ _ _ _ _ _ d _=>rd_not (by rw[d c (by simp[dd]),e];rfl)⟩
 .cases a
def afz(a:Bool)(c b:TV B.D):pv B (cond a c b)=(bif a then pv B c else pv B b):=by cases a <;> rfl
def akp{z x y:Operand}{E:En B.D}{H:List (Ob B.D)}{a:Bool}(f:pe E z= .bool a):fW P (.pick z x y) E H [] (KP a (pe E x) (pe E y)):=by
 intro d ty pos aft g e c _;have:=Zu (P:=P) (E:=aU B g) (H:=av B e) (d:=d) (ty:=ty) (pos:=pos) (aft:=aft) (gd:=c6) (z:=z) (x:=x) (y:=y) (b:=a) (by rw[c z (by simp[dd]),f];rfl);rw[c x (by simp[dd]),c y (by simp[dd])] at this;unfold KP
 split
 .rename_i j b h i;rw[h,i] at this;cases a <;> exact this
 .rw[afz];exact this
def ahW{a:Operand}{i:Nat}{b:En B.D}{f:List (Ob B.D)}{d:List (TV B.D)}{v:TV B.D}(g:pe b a= .bu d)(c:nth d i=c4 v):fW P (.extract a i) b f [] v:=by
 intro k j m n l h e _;refine aiG (by rw[e a (by simp[dd]),g];rfl) ?_
 rw[cJ] at c;rw[db,e6,c]
 rfl
def wS{f:TypeId}{c:List (TV B.D)}{d:Nat}{v:TV B.D}(a:piece P f c d=c4 v):
 (dP P f=c4 false/\c[d]?=c4 v)\/∃b,dP P f=c4 true/\cH P f=c4 b/\v= .agg ((c.drop d).take b)/\((c.drop d).take b).length=b:=by
 unfold piece at a
 split at a
 .rename_i g
  split at a
  .rename_i b i;obtain⟨h,e⟩:=a8 a;rw[kK,drop_eq] at e;injection e with e
   have j:d+b<=c.length:=by rw[eu] at h;exact ei h
   exact .inr ⟨b,g,i,e.symm,by simp;omega⟩
  .cases a
 .rename_i g;rw[cJ] at a;exact .inl ⟨g,a⟩
 .cases a
def EL{b:List (TV B.D)}{a:Nat}{v:TV B.D}(c:b[a]?=c4 v):(aP B b)[a]?=c4 (pv B v):=by
 rw[db,e6,c];rfl
def Ht(c:List (TV B.D))(b a:Nat):((aP B c).drop b).take a=aP B ((c.drop b).take a):=by
 rw[db,db, <-j7, <-j8]
def aex{i:TypeId}{b:Operand}{f:Nat}{e d:Nat}{h:En B.D}{k:List (Ob B.D)}{a:List (TV B.D)}{v:TV B.D}(p:pe h b= .agg a)(j:nU P i f=c4 (e,d))(o:piece P e a d=c4 v):
 fW P (.field i b f) h k [] v:=by
 intro t y u z l w n _;have g:PE (aU B l) b= .agg (aP B a):=by rw[n b (by simp[dd]),p];rfl
 rcases wS o with⟨c,q⟩ |⟨m,c,s,rfl,x⟩
 .exact aam g j c (EL q)
 .exact T8 g j c s (Ht a d m)
def Gw{c:Operand}{e:En B.D}{k:List (Ob B.D)}{v:TV B.D}(l:(∃r g i a,v= .ptr r g i a)\/(∃b a,v= .vp b a)\/∃f b h,v= .fn f b h)(n:pe e c=v):fW P (.nilCheck c) e k [] v:=by
 intro q p s t m o j _;have d:PE (aU B m) c=pv B v:=by rw[j c (by simp[dd]),n]
 rcases l with⟨r,g,i,a,rfl⟩ |⟨b,a,rfl⟩ |⟨f,b,h,rfl⟩
 .exact adb d
 .exact ZL d
 .exact VJ d
def R3{m:TypeId}{c:Operand}{f k j p:Nat}{e:En B.D}{o:List (Ob B.D)}{v:TV B.D}(n:nU P m f=c4 (k,j))(l:cH P k=c4 (p+1))
 (s:(∃r h i a,pe e c= .ptr r h i a/\v= .ptr r h i (a+j))\/(∃d a,pe e c= .vp d a/\v= .vp d (a+j))):fW P (.fieldAddr m c f) e o [] v:=by
 intro u y w z t x q _;have b:=q c (by simp[dd]);rcases s with⟨r,h,i,a,g,rfl⟩ |⟨d,a,g,rfl⟩
 .rw[g] at b;exact apD b n l (by omega)
 .rw[g] at b;exact Ze b n l (by omega)
def alT{a:Nat}{b:List (B.D a)}{i e:Nat}{d:B.D a}{c:PV}(g:b[i]?=c4 d)(f:((B.ty a).enc d).cells[e]?=c4 c):abk (b.map (B.ty a).enc) i e=c4 c:=by
 unfold abk;rw[e6,g];exact f
def NI{i g:Nat}{h:TV B.D->Option R}:∀{e:List (TV B.D)} {b:Nat},Es B i g h b e=c4 r->∃d c,e[d]?=c4 c/\i=g+b+d/\h c=c4 r
 |[],_,a=>by cases a
 |c::e,b,a=>by
  unfold Es at a;cases f:e4 i (g+b) with
  |true=>rw[f] at a;exact⟨0,c,rfl,beq_eq f,a⟩
  |false=>
   rw[f] at a;obtain⟨d,l,j,m,k⟩:=NI a;exact⟨d+1,l,j,by omega,k⟩
def aav{c s v b:Nat}{xs:List (B.D c)}{a:List (TV B.D)}{d:TV B.D}(e:a[b]?=c4 d):(aY B ⟨s,v,.hole c xs a⟩).es[xs.length+b]?=c4 (pv B d):=by
 show(xs.map (B.ty c).enc++aP B a)[xs.length+b]?=_
 rw[dt (by rw[dk];omega),dk,k6,db,e6,e]
 rfl
def PD(T:cU P B){t:TypeId}{x:Operand}{E:En B.D}{M:List (Ob B.D)}{N:cr B.D->Option R}(b:load B P M t (pe E x) N=c4 r):
 ∃v O,N ⟨v,[],0,O⟩=c4 r/\fW P (.load t x) E M O v:=by
 unfold load at b
 split at b
 .rename_i y o I;obtain⟨v,l,k⟩:=fq b;refine⟨v,_,k,λF J G L j H f _=>?_⟩
  have d:PE (aU B j) x= .dw (aP B y) o:=by rw[f x (by simp[dd]),I];rfl
  rcases wS l with⟨a,c⟩ |⟨p,a,n,rfl,m⟩
  .exact acR d a (EL c)
  .exact Z6 d a n (Ht y o p) (by rw[db,dk,m])
 .rename_i q v i o I;have d:∀{j:En B.D},(∀z,z∈(Op.load t x).operands->PE (aU B j) z=pv B (pe E z))->PE (aU B j) x= .ptr q v i o:=λf=>by rw[f x (by simp[dd]),I];rfl
  split at b
  .rename_i p xs c;obtain⟨s,w⟩:=fx c;obtain⟨e,f,b⟩:=ec.1 b;obtain⟨A,l,k⟩:=fq b;refine⟨A,_,k,λF J G L j H h C=>?_⟩
   have g:=df (C q _ (by simp) w);have u:(pv B (B.tv p e)).cells=(dN (B.tv p e)).map (pv B):=nB B _;rw[T.tv] at u;rcases wS l with⟨a,c⟩ |⟨K,a,n,rfl,m⟩
   .exact AT (d h) g rfl a (alT f (by rw[u,e6,c];rfl))
   .refine Ig (d h) g rfl a n (e:=(B.ty p).enc e) (by simp[aY,f]) ?_ (by rw[db,dk,m])
    rw[u, <-j7, <-j8,db]
  .rename_i V y c;obtain⟨s,w⟩:=fx c;obtain⟨D,b⟩:=a8 b;obtain rfl:=beq_eq D;obtain⟨A,l,k⟩:=fq b;refine⟨A,_,k,λF J G L j H h C=>?_⟩
   have g:=df (C q _ (by simp) w);rcases wS l with⟨a,c⟩ |⟨K,a,n,rfl,m⟩
   .exact AT (d h) g rfl a (by simp[aY,abk,PV.cells,EL c])
   .exact Ig (d h) g rfl a n (e:=.agg (aP B y)) (by simp[aY]) (by simp only[PV.cells];exact Ht y o K) (by rw[db,dk,m])
  .rename_i p xs U c;obtain⟨s,w⟩:=fx c;obtain⟨W,e,f,D,S⟩:=NI b;rw[l1] at D;subst D;obtain⟨A,l,k⟩:=fq S;refine⟨A,_,k,λF J G L j H h C=>?_⟩
   have g:=df (C q _ (by simp) w);have Q:=aav (s:=s) (v:=v) (xs:=xs) f;have u:=nB B e;rcases wS l with⟨a,c⟩ |⟨K,a,n,rfl,m⟩
   .refine AT (d h) g rfl a ?_
    unfold abk;rw[Q];show(pv B e).cells[o]?=_
    rw[u,e6,c]
    rfl
   .refine Ig (d h) g rfl a n (e:=pv B e) Q ?_ (by rw[db,dk,m])
    rw[u, <-j7, <-j8,db]
  .cases b
 .cases b
end
def kV(c:List aO)(p:PV)(b:Nat)(d:List PV):Prop:=lE c p b d\/∃r a,p= .fl r a.aF/\ek c r a/\a.sz=b/\d=a.es
def wD{c:Env}{d:Nat}{q:PV}(a:Operand)(g:a≠ .tmp d):PE ((d,q)::c) a=PE c a:=by
 cases a with
 |tmp h=>exact Ar q c λe=>g (by rw[e])
 |const v=>rfl
 |global b=>rfl
 |func f=>rfl
def akA(v:Value)(r a:Nat):kP v≠ .fl r a:=by
 cases v <;> simp[kP] <;> (try unfold jq) <;> (try split) <;> simp
def ri{e:Env}{d:Operand}{r v:Nat}(c:PE e d= .fl r v):∃a,d= .tmp a/\Bml.look e a= .fl r v:=by
 cases d with
 |tmp a=>exact⟨a,rfl,c⟩
 |const v=>exact absurd c (akA _ _ _)
 |global b=>cases c
 |func f=>cases c
def DP{b:List aO}{r:Nat}{a:aO}(c:ek b r a):lE b (.sl r a.aF 0 a.es.length) a.sz a.es:=
 .inr (.inr (.inr ⟨r,a.aF,0,a.es.length,a,rfl,c,rfl,rfl,by simp⟩))
def uL{P:Program}{k:Oper}{a:Env}{c:List aO}{x:Operand}{sz:Nat}{ys:List PV}{l:PV->List aO->Prop}(g:kV c (PE a x) sz ys)
 (d:∀f,lE c (PE f x) sz ys->(∀e p,PE a e=p->(∀r v,p≠ .fl r v)->PE f e=p)->fJ P k f c l):fJ P k a c l:=by
 rcases g with g |⟨r,b,q,j,rfl,rfl⟩
 .exact d a g λ_ _ d _=>d
 .obtain⟨h,rfl,i⟩:=ri q;refine yP i j rfl (d _ ?_ λe p m o=>?_)
  .rw[show PE ((h,PV.sl r b.aF 0 b.es.length)::a) (.tmp h)= .sl r b.aF 0 b.es.length from ni _ _ _];exact DP j
  .rw[wD e λn=>o r b.aF (by rw[<-m,n];exact i)];exact m
def amo{P:Program}{m:Oper}{a:Env}{c:List aO}{x:Operand}{j:Nat}{k:List PV}{v:PV}(g:kV c (PE a x) j k)
 (d:∀f,lE c (PE f x) j k->(∀e p,PE a e=p->(∀r v,p≠ .fl r v)->PE f e=p)->cM P m f c v):cM P m a c v:=by
 rcases g with g |⟨r,b,s,l,rfl,rfl⟩
 .exact d a g λ_ _ d _=>d
 .obtain⟨h,rfl,i⟩:=ri s;refine RO i l rfl (d _ ?_ λe p n q=>?_)
  .rw[show PE ((h,PV.sl r b.aF 0 b.es.length)::a) (.tmp h)= .sl r b.aF 0 b.es.length from ni _ _ _];exact DP l
  .rw[wD e λo=>q r b.aF (by rw[<-n,o];exact i)];exact n
def JM{e:Env}{f:List aO}{x:Operand}{j c r:Nat}{k:List PV}{b:aO}(g:kV f (PE e x) j k)(m:Bml.look e c= .fl r b.aF)(h:ek f r b):kV f (PE ((c,.sl r b.aF 0 b.es.length)::e) x) j k:=by
 by_cases i:x= .tmp c
 .subst i;rw[show PE ((c,PV.sl r b.aF 0 b.es.length)::e) (.tmp c)= .sl r b.aF 0 b.es.length from ni _ _ _];have l:PE e (.tmp c)= .fl r b.aF:=m;rw[l] at g;rcases g with(a |⟨a,_⟩ |⟨a,_⟩ |⟨_,_,_,_,_,a,_⟩) |⟨o,n,a,d,rfl,rfl⟩
  .cases a
  .cases a
  .cases a
  .cases a
  .injection a with h1 h2
   subst h1;unfold ek at h d;rw[h] at d;injection d with d
   subst d;exact .inl (DP h)
 .rw[wD x i];exact g
section
variable {P:Program}{B:Tb}{R:Type}{r:R}
def yd(B:Tb)(d:List (Ob B.D))(g:TV B.D)(a:Nat)(f:List (B.D a))(e:List Nat):Prop:=
 ∀b:List (Ob B.D),(∀i c,i∈e->nth d i=c4 c->nth b i=c4 c)->kV (av B b) (pv B g) (B.sz a) (f.map (B.ty a).enc)
def Hd{h:List (Ob B.D)}{j:TV B.D}{f:(b:Nat)->List (B.D b)->List Nat->Option R}(a:rowOf B h j f=c4 r):
 ∃b i g,f b i g=c4 r/\yd B h j b i g:=by
 unfold rowOf at a
 split at a
 .exact⟨_,_,_,a,λ_ _=>.inl (.inl rfl)⟩
 .rename_i q v
  split at a
  .rename_i b k c;obtain⟨m,e⟩:=fx c;refine⟨_,_,_,a,λl d=>.inr ⟨q,_,?_,df (d q _ (by simp) e),rfl,rfl⟩⟩
   rfl
  .cases a
 .rename_i q v n len
  split at a
  .rename_i b k c;obtain⟨m,e⟩:=fx c;refine⟨_,_,_,a,λl d=>.inl (.inr (.inr (.inr ⟨q,v,n,len,_,rfl,df (d q _ (by simp) e),rfl,rfl,?_⟩)))⟩
   simp[aY,j8,j7]
  .cases a
 .cases a
def AG{c d:Nat}{e:List (B.D c)}{f:List (B.D d)}(a:sU B c d e=c4 f):∃b:c=d,b▸e=f:=by
 unfold sU at a
 split at a
 .rename_i b;injection a with a
  exact⟨b,a⟩
 .cases a
def Rz{f:List (Ob B.D)}{d:Nat}{g:TV B.D}{e:List (B.D d)->List Nat->Option R}(a:CK B f d g e=c4 r):
 ∃c b,e c b=c4 r/\yd B f g d c b:=by
 unfold CK at a
 split at a
 .exact⟨_,_,a,λ_ _=>.inl (.inr (.inl ⟨rfl,rfl⟩))⟩
 .exact⟨_,_,a,λ_ _=>.inl (.inr (.inr (.inl ⟨rfl,rfl⟩)))⟩
 .obtain⟨l,k,b,a,i⟩:=Hd a;obtain⟨c,h,j⟩:=fq a;obtain⟨rfl,rfl⟩:=AG h;exact⟨_,_,j,i⟩
def mh{e:TypeId}{c:Nat}(b:kX B P e c=true):dU P e=c4 c/\cH P c=c4 (B.sz c):=by
 unfold kX at b
 split at b
 .rename_i h g f i;cases d:e4 h c with
  |true=>
   rw[d] at b;rw[f,i,beq_eq d,beq_eq (a:=g) b];exact⟨rfl,rfl⟩
  |false=>rw[d] at b;cases b
 .cases b
def D9{b:TypeId}{a:Nat}(c:kX B P b a=true):dU P b=c4 a:=(mh c).1
def KT{h:Oper}{d:Env}{c:List aO}{g:Operand}{q:Nat}{a:aO}{v:PV}(m:PE d g= .fl q a.aF)(n:ek c q a)
 (k:∀e,PE e g= .sl q a.aF 0 a.es.length->(∀b p,PE d b=p->(∀r v,p≠ .fl r v)->PE e b=p)->cM P h e c v):cM P h d c v:=by
 obtain⟨o,rfl,i⟩:=ri m;refine RO i n rfl (k _ (ni _ _ _) λb p f l=>?_)
 rw[wD b λj=>l q a.aF (by rw[<-f,j];exact i)];exact f
def Qj{g:Int}{d:Nat}{h:Nat->Option R}:∀{e:List (TV B.D)} {a:Nat},AK B g d h a e=c4 r->∃c,c<e.length/\g=((d+a+c:Nat):Int)/\h (d+a+c)=c4 r
 |[],_,b=>by cases b
 |l::e,a,b=>by
  unfold AK at b;cases f:c3 (g=((d+a:Nat):Int)) with
  |true=>rw[f] at b;exact⟨0,by simp,of_decide_eq_true f,b⟩
  |false=>
   rw[f] at b;obtain⟨c,k,i,j⟩:=Qj b;rw[show d+(a+1)+c=d+a+(c+1) by omega] at i j;exact⟨c+1,by simpa using k,i,j⟩
def amg(w:cU P B){t:TypeId}{x ix:Operand}{E:En B.D}{H:List (Ob B.D)}{I:cr B.D->Option R}(a:indexAddr B P H t (pe E x) (pe E ix) I=c4 r):
 ∃v J,I ⟨v,[],0,J⟩=c4 r/\fW P (.indexAddr t x ix) E H J v:=by
 unfold indexAddr at a
 split at a
 .rename_i L S O;have p:∀{h:En B.D},(∀z,z∈(Op.indexAddr t x ix).operands->PE (aU B h) z=pv B (pe E z))->PE (aU B h) ix= .int L S:=λc=>by rw[c ix (by simp[dd]),O];rfl
  split at a
  .rename_i g y j;obtain⟨k,a⟩:=a8 a;obtain⟨e,c,f⟩:=ec.1 a;obtain⟨l,c⟩:=xd c;refine⟨_,_,f,λd ty pos aft h m b _=>?_⟩
   have:=Zx (P:=P) (E:=aU B h) (H:=av B m) (d:=d) (ty:=ty) (pos:=pos) (aft:=aft) (gd:=c6) (t:=t) (x:=x) (ix:=ix) (e:=(B.ty g).enc e) (by rw[b x (by simp[dd]),j];rfl) (p b) l (by rw[e6,c];rfl) (D9 k) (w.ic g e);rw[<-w.tv g e,nB, <-db] at this;exact this
  .rename_i q v j
   split at a
   .rename_i g y s;obtain⟨F,o⟩:=fx s;obtain⟨k,a⟩:=a8 a;obtain⟨e,c,f⟩:=ec.1 a;obtain⟨l,c⟩:=xd c;refine⟨_,_,f,λd ty pos aft h m b u=>?_⟩
    have n:=df (u q _ (by simp) o);refine KT (by rw[b x (by simp[dd]),j];rfl) n λD A C=>?_
    have:=Hm (P:=P) (E:=D) (H:=av B m) (d:=d) (ty:=ty) (pos:=pos) (aft:=aft) (gd:=c6) (t:=t) (x:=x) (ix:=ix) A (C ix _ (p b) (by simp)) l (by simpa[aY] using(c7.1 c).1) n rfl (D9 k) (w.ic g e);rw[gx] at this;exact this
   .rename_i g y T s;obtain⟨F,o⟩:=fx s;obtain⟨k,a⟩:=a8 a;obtain⟨G,W,l,f⟩:=Qj a;rw[l1] at l f;refine⟨_,_,f,λd ty pos aft h m b u=>?_⟩
    have n:=df (u q _ (by simp) o);refine KT (by rw[b x (by simp[dd]),j];rfl) n λD A C=>?_
    have:=Hm (P:=P) (E:=D) (H:=av B m) (d:=d) (ty:=ty) (pos:=pos) (aft:=aft) (gd:=c6) (t:=t) (x:=x) (ix:=ix) A (C ix _ (p b) (by simp)) (i:=y.length+G) (by simpa using l) (by simp[aY,db];omega) n rfl (D9 k) (mh k).2;rw[gx] at this;exact this
   .cases a
  .rename_i q v V len j
   split at a
   .rename_i g y s;obtain⟨F,o⟩:=fx s;obtain⟨k,a⟩:=a8 a;obtain⟨e,c,f⟩:=ec.1 a;obtain⟨l,c⟩:=xd c;refine⟨_,_,f,λd ty pos aft h m b u=>?_⟩
    have n:=df (u q _ (by simp) o);have Q:=(c7.1 c).1;simp only[ft] at Q;exact Hm (by rw[b x (by simp[dd]),j];rfl) (p b) l (by omega) n rfl (D9 k) (w.ic g e)
   .cases a
  .rename_i q v i G j
   split at a
   .rename_i X
    split at a
    .rename_i g Y N
     split at a
     .rename_i U M;obtain⟨K,f⟩:=a8 a;refine⟨_,_,f,λd ty pos aft h m b _=>?_⟩
      exact aqx (by rw[b x (by simp[dd]),j];rfl) (p b) rfl (ei K) N M
     .cases a
    .cases a
   .cases a
  .cases a
 .cases a
def Li{f:IntKind}:∀{d:List (TV B.D)} {e:List Int},ints f d=c4 e->aP B d=e.map (PV.int f)
 |[],e,a=>by simp[ints] at a;subst a;rfl
 | .int b i::d,e,a=>by
  simp only[ints] at a;obtain⟨h,c⟩:=a8 a;clear a;obtain rfl:=qh h;cases g:ints f d with
  |none=>rw[g] at c;cases c
  |some r=>
   rw[g] at c;injection c with c
   subst c;simp[aP,pv,Li g]
 | .any::_,_,a=>by simp[ints] at a
 | .z0::_,_,a=>by simp[ints] at a
 | .fS::_,_,a=>by simp[ints] at a
 | .bg::_,_,a=>by simp[ints] at a
 | .dB::_,_,a=>by simp[ints] at a
 | .bool _::_,_,a=>by simp[ints] at a
 | .str _::_,_,a=>by simp[ints] at a
 | .row .. ::_,_,a=>by simp[ints] at a
 | .ptr .. ::_,_,a=>by simp[ints] at a
 | .fl .. ::_,_,a=>by simp[ints] at a
 | .sl .. ::_,_,a=>by simp[ints] at a
 | .vp .. ::_,_,a=>by simp[ints] at a
 | .agg _::_,_,a=>by simp[ints] at a
 | .bu _::_,_,a=>by simp[ints] at a
 | .fn .. ::_,_,a=>by simp[ints] at a
 | .jC _::_,_,a=>by simp[ints] at a
def Qx:∀{d:List (TV B.D)} {c:List Bool},gS d=c4 c->aP B d=c.map PV.bool
 |[],c,a=>by simp[gS] at a;subst a;rfl
 | .bool b::d,c,a=>by
  simp only[gS] at a;cases e:gS d with
  |none=>rw[e] at a;cases a
  |some r=>
   rw[e] at a;injection a with a
   subst a;simp[aP,pv,Qx e]
 | .any::_,_,a=>by simp[gS] at a
 | .z0::_,_,a=>by simp[gS] at a
 | .fS::_,_,a=>by simp[gS] at a
 | .bg::_,_,a=>by simp[gS] at a
 | .dB::_,_,a=>by simp[gS] at a
 | .int .. ::_,_,a=>by simp[gS] at a
 | .str _::_,_,a=>by simp[gS] at a
 | .row .. ::_,_,a=>by simp[gS] at a
 | .ptr .. ::_,_,a=>by simp[gS] at a
 | .fl .. ::_,_,a=>by simp[gS] at a
 | .sl .. ::_,_,a=>by simp[gS] at a
 | .vp .. ::_,_,a=>by simp[gS] at a
 | .agg _::_,_,a=>by simp[gS] at a
 | .bu _::_,_,a=>by simp[gS] at a
 | .fn .. ::_,_,a=>by simp[gS] at a
 | .jC _::_,_,a=>by simp[gS] at a
def aeo{f:TypeId}{e:Nat}(b:Gx P f e=true):∃c,pk P f=c4 (e,c)/\cH P c=c4 1/\dP P c=c4 false:=by
 unfold Gx at b
 split at b
 .rename_i j c k
  split at b
  .rename_i h i g;cases d:e4 j e with
   |true=>
    rw[d] at b;obtain rfl:=beq_eq d;obtain rfl:=beq_eq (a:=h) b;exact⟨c,k,i,g⟩
   |false=>rw[d] at b;cases b
  .cases b
 .cases b
def ame{l:TypeId}{h g:Operand}{e:En B.D}{m:List (Ob B.D)}{n:cr B.D->Option R}(a:index B P l (pe e h) (pe e g) n=c4 r):
 ∃v s,n ⟨v,[],0,s⟩=c4 r/\fW P (.index l h g) e m s v:=by
 unfold index at a
 split at a
 .rename_i H F p A z;obtain⟨y,a⟩:=a8 a;obtain⟨M,C,w,D⟩:=aeo y;have o:∀{k:Type} (b:List k) (f:k->PV) (v:k) (j:TV B.D),aP B p=b.map f->pv B j=f v->aj b F=c4 v->fW P (.index l h g) e m [] j:=λb f v j t x c I L J N G K u _=>by
   obtain⟨E,q⟩:=xd c;have d:len p=b.length:=by
    have:=congrArg List.length t;rw[db,dk,dk] at this;rw[eu,this]
   rw[x];refine ac0 (by rw[u h (by simp[dd]),z];rfl) (by rw[u g (by simp[dd]),A];rfl) E ?_ C w D ?_
   .rw[d];exact(c7.1 q).1
   .rw[t,e6,q];rfl
  split at a
  .obtain⟨b,d,a⟩:=fq a;obtain⟨v,c,i⟩:=ec.1 a;exact⟨_,_,i,o b _ v _ (Li d) rfl c⟩
  .obtain⟨b,d,a⟩:=fq a;obtain⟨v,c,i⟩:=ec.1 a;exact⟨_,_,i,o b _ v _ (Qx d) rfl c⟩
  .cases a
 .cases a
def wk{g:En B.D}{h:Env}{dflt:Nat}{e:Option Operand}{d:Int}(a:rE B g (dflt:Int) e=c4 d)(h0:0<=d)(j:∀b,e=c4 b->∀f c,pe g b= .int f c->PE h b= .int f c):mU h dflt e d.toNat:=by
 unfold rE at a
 split at a
 .injection a with a
  show d.toNat=dflt
  omega
 .rename_i b
  split at a
  .rename_i i c k;injection a with a
   subst a;exact⟨i,c,j b rfl i c k,by omega⟩
  .cases a
def NN{e:En B.D}{f:Env}{c:Option Operand}(a:Bx B e c=true)(i:∀b,c=c4 b->∀d h,pe e b= .int d h->PE f b= .int d h):mU f 0 c 0:=by
 unfold Bx at a
 split at a
 .rfl
 .rename_i b;unfold pP at a
  split at a
  .rename_i g j;exact⟨g,0,i b rfl g 0 j,rfl⟩
  .cases a
def NF{b:TV B.D}(a:pP b=true):∃c,b= .int c 0:=by
 unfold pP at a
 split at a
 .exact⟨_,rfl⟩
 .cases a
def aqA{t:TypeId}{x:Operand}{lo hi:Option Operand}{E:En B.D}{H:List (Ob B.D)}{e:cr B.D->Option R}(h:slice B P E H t (pe E x) lo hi e=c4 r):
 ∃v D,e ⟨v,[],0,D⟩=c4 r/\fW P (.slice t x lo hi c6) E H D v:=by
 have ops:∀{k:En B.D},(∀z,z∈(Op.slice t x lo hi c6).operands->PE (aU B k) z=pv B (pe E z))->∀{j:Option Operand},j=lo\/j=hi->∀a,j=c4 a->∀e c,pe E a= .int e c->PE (aU B k) a= .int e c:=λL j m a g e c o=>by
  rw[L a ?_,o];rfl;rcases m with rfl |rfl
  .subst g;simp[dd]
  .subst g;simp[dd]
 unfold slice at h
 split at h
 .rename_i c N n;obtain⟨i,h⟩:=a8 h;obtain⟨y,s,h⟩:=fq h;obtain⟨b,w,h⟩:=fq h;obtain⟨Q,g,p⟩:=ec.1 h;obtain⟨h0,G,M,rfl⟩:=Kt g;refine⟨_,_,p,λd ty pos aft k u f _=>?_⟩
  refine aaK (l:=y.toNat) (h:=b.toNat) (by rw[f x (by simp[dd]),n];rfl) (mh i).1 (mh i).2 (wk (dflt:=0) s h0 (ops f (.inl rfl))) (wk (by rw[dk];exact w) (by omega) (ops f (.inr rfl))) (by omega) (by rw[dk];omega) ?_
  simp[j8,j7]
 .rename_i q v n
  split at h
  .rename_i c N O;obtain⟨T,m⟩:=fx O;obtain⟨i,h⟩:=a8 h;obtain⟨y,s,h⟩:=fq h;obtain⟨b,w,h⟩:=fq h;obtain⟨Q,g,p⟩:=ec.1 h;obtain⟨h0,G,M,_⟩:=Kt g;refine⟨_,_,p,λd ty pos aft k u f S=>?_⟩
   have C:=df (S q _ (by simp) m);refine KT (by rw[f x (by simp[dd]),n];rfl) C λF I K=>?_
   have A:∀{j:Option Operand},j=lo\/j=hi->∀a,j=c4 a->∀e c,pe E a= .int e c->PE F a= .int e c:=λm a g e c o=>K a _ (ops f m a g e c o) (by simp)
   have:=SC (P:=P) (E:=F) (H:=av B u) (d:=d) (ty:=ty) (pos:=pos) (aft:=aft) (gd:=c6) (t:=t) (x:=x) (lo:=lo) (hi:=hi) (l:=y.toNat) (h:=b.toNat) I C rfl (mh i).1 (mh i).2 (wk (dflt:=0) s h0 (A (.inl rfl))) (wk (by simpa[aY] using w) (by omega) (A (.inr rfl))) (by omega) (by simp[aY];omega);rw[gx] at this;exact this
  .cases h
 .rename_i n;obtain⟨h0,h⟩:=a8 h;obtain⟨J,h⟩:=a8 h
  split at h
  .rename_i c o;obtain⟨i,h⟩:=a8 h;exact⟨_,_,h,λd ty pos aft k u f _=>acJ (by rw[f x (by simp[dd]),n];rfl) (mh i).1 (mh i).2 (NN h0 (ops f (.inl rfl))) (NN J (ops f (.inr rfl)))⟩
  .cases h
 .cases h
def VT(u:cU P B){m:TypeId}{x e c:Operand}{d:En B.D}{j:List (Ob B.D)}{k:cr B.D->Option R}
 (a:(bif pP (pe d e) then bif pP (pe d c) then rowOf B j (pe d x) λg _ b=>bif kX B P m g then k ⟨.z0,[],0,b⟩ else c6 else c6 else c6)=c4 r):
 ∃v b,k ⟨v,[],0,b⟩=c4 r/\fW P (.slice m x c6 (c4 e) (c4 c)) d j b v:=by
 obtain⟨h,a⟩:=a8 a;obtain⟨f,a⟩:=a8 a;obtain⟨w,h⟩:=NF h;obtain⟨q,f⟩:=NF f;obtain⟨g,F,b,a,s⟩:=Hd a;obtain⟨n,o⟩:=a8 a;refine⟨_,_,o,λA E C G z t i y=>?_⟩
 refine amo (x:=x) (by rw[i x (by simp[dd])];exact s t y) λD p l=>?_
 exact Zm p (u.pos g) (mh n).1 (mh n).2 (l e (.int w 0) (by rw[i e (by simp[dd]),h];rfl) (by simp)) (l c (.int q 0) (by rw[i c (by simp[dd]),f];rfl) (by simp))
def kV.len{H:List aO}{p:PV}{sz:Nat}{e:List PV}{g:Gh}{d:World}{v:Value}(c:kV H p sz e)(l:bF g H d)(h:VR g H d p v)(j:0<sz):∃a cap,v= .slice a e.length cap:=by
 rcases c with c |⟨q,m,rfl,k,rfl,rfl⟩
 .obtain⟨_,a,cap,h,_⟩:=c.real l h j;exact⟨a,cap,h⟩
 .obtain⟨_,a,cap,h,_⟩:=(DP k).real l (h.ub k rfl) j;exact⟨a,cap,h⟩
def apb{c:List (Ob B.D)}{q v g a:Nat}{b:List (B.D a)}{e:List (TV B.D)}(j:nth c q=c4 ⟨g,v,.hole a b e⟩){d:List (Ob B.D)}(h:∀i f,i∈[q]->nth c i=c4 f->nth d i=c4 f):kV (av B d) (.fl q v) (B.sz a) (b.map (B.ty a).enc++aP B e):=
 .inr ⟨q,_,rfl,df (h q _ (by simp) j),rfl,rfl⟩
def Vw(u:cU P B){x:Operand}{t n:TypeId}{E:En B.D}{H:List (Ob B.D)}{l:cr B.D->Option R}(A:dU P t=c4 n)
 (b:(match pe E x with
  | .bg=>l ⟨.int .i64 0,[],0,[]⟩
  | .z0=>l ⟨.int .i64 0,[],0,[]⟩
  |x=>GF B H x l)=c4 r):
 ∃v e,l ⟨v,[],0,e⟩=c4 r/\fW P (.call {callee:=.builtin .len,args:=#[x],argTypes:=#[t]}) E H e v:=by
 have s:x∈(o8 {callee:=.builtin .len,args:=#[x],argTypes:=#[t]}).operands:=by simp[dd,hP]
 split at b
 .rename_i h;exact⟨_,_,b,λd ty pos aft o a j _=>ap9 (by rw[j x s,h];rfl) rfl A⟩
 .rename_i h;exact⟨_,_,b,λd ty pos aft o a j _=>acm (by rw[j x s,h];rfl) rfl A⟩
 .unfold GF at b;have C:∀(z:Nat) (e:List Nat) (m:Nat) (k:List PV),0<m->k.length=z->(∀a:List (Ob B.D),(∀i G,i∈e->nth H i=c4 G->nth a i=c4 G)->kV (av B a) (pv B (pe E x)) m k)->fW P (.call {callee:=.builtin .len,args:=#[x],argTypes:=#[t]}) E H e (.int .i64 (z:Int)):=λz e m k M L q d ty pos aft o a j f=>by
   subst L;exact Gi (P:=P) (E:=aU B o) (H:=av B a) (d:=d) (ty:=ty) (pos:=pos) (aft:=aft) (gd:=c6) (x:=x) (t:=t) (ci:=#[t]) (n:=k.length) ⟨n,A⟩ rfl λg N Q O F=>by
    have D:=F.e.eval x;rw[j x s] at D;exact(q a f).len F.m D M
  split at b
  .rename_i h
   split at b
   .rename_i c w y;obtain⟨J,p⟩:=fx y;refine⟨_,_,b,C _ _ (B.sz c) (List.map (B.ty c).enc w) (u.pos c) (by rw[dk]) λa f=>?_⟩
    rw[h];exact .inr ⟨_,_,rfl,df (f _ _ (by simp) p),rfl,rfl⟩
   .rename_i c w I y;obtain⟨J,p⟩:=fx y;refine⟨_,_,b,C _ _ (B.sz c) (w.map (B.ty c).enc++aP B I) (u.pos c) (by rw[eH,dk,db,dk,eu]) λa f=>?_⟩
    rw[h];exact apb p f
   .cases b
  .obtain⟨c,k,e,K,q⟩:=Hd b;exact⟨_,_,K,C _ _ _ _ (u.pos c) (by rw[dk]) λa f=>q a f⟩
def adE{a:Call}{e c:Operand}{d:En B.D}{j:List (Ob B.D)}{f b:IntKind}{i g:Int}(o:a.callee= .builtin .min)(l:a.args=#[e,c])(m:pe d e= .int f i)(n:pe d c= .int b g)(k:fV f b=true):
 fW P (.call a) d j [] (.int f (min i g)):=by
 obtain rfl:=qh k;obtain⟨callee,args,p⟩:=a;subst o;subst l;exact λs v t w q u h _=>akg (by rw[h e (by simp[dd,hP]),m];rfl) (by rw[h c (by simp[dd,hP]),n];rfl)
def alY{a:Call}{e c:Operand}{d:En B.D}{j:List (Ob B.D)}{f b:IntKind}{i g:Int}(o:a.callee= .builtin .max)(l:a.args=#[e,c])(m:pe d e= .int f i)(n:pe d c= .int b g)(k:fV f b=true):
 fW P (.call a) d j [] (.int f (max i g)):=by
 obtain rfl:=qh k;obtain⟨callee,args,p⟩:=a;subst o;subst l;exact λs v t w q u h _=>ae4 (by rw[h e (by simp[dd,hP]),m];rfl) (by rw[h c (by simp[dd,hP]),n];rfl)
def DE{E d:En B.D}:∀{b:List Operand},(∀a,a∈b->PE (aU B d) a=pv B (pe E a))->aP B (fB E b)=b.map (PE (aU B d))
 |[],_=>rfl
 |a::b,c=>by rw[fB,aP,DE λe f=>c e (km _ f),ma,c a (by simp)]
def W8{f:FuncId}{bs cs:Array Operand}{E:En B.D}{H:List (Ob B.D)}:fW P (.makeFunc (.func f) bs cs) E H [] (.fn f (fB E bs.toList) (fB E cs.toList)):=by
 intro d ty pos aft g e c _;have:=apw (P:=P) (E:=aU B g) (H:=av B e) (d:=d) (ty:=ty) (pos:=pos) (aft:=aft) (gd:=c6) (f:=f) (bs:=bs.toList) (cs:=cs.toList);rw[<-DE (E:=E) λa b=>c a (by simp[dd,hM.1 b]), <-DE (E:=E) λa b=>c a (by simp[dd,hM.1 b])] at this;exact this
def aip{f e:TypeId}{a:Operand}{d:En B.D}{h:List (Ob B.D)}{c b:IntKind}{g:Int}(j:pe d a= .int b g)(k:yi P e=c4 c)(l:(P.underlying f).isSome=true):fW P (.convert f e a) d h [] (.int c (c.wrap g)):=
 λ_ _ _ _ _ _ i _=>aoQ (by rw[i a (by simp[dd]),j];rfl) l k rfl
end
section
variable {P:Program}{B:Tb}{R:Type}{r:R}
def iZ{c:Nat->Type}(b:List (Ob c))(d:cr c):Prop:=
 ∀i a,(i,a)∈d.wr->i<b.length+d.nw/\∀e,nth b i=c4 e->e.st<a.st
def S6{a:Nat->Type}{b:List (Ob a)}{v:TV a}{e:Nat}{c:List Nat}:iZ b ⟨v,[],e,c⟩:=λi f d=>by cases d
def pz{c:Nat->Type}{a:List (Ob c)}{v:TV c}{q e:Nat}{b:Bd c}{h:List Nat}{k:Ob c}(f:nth a q=c4 k):iZ a ⟨v,[(q,⟨dJ a q,e,b⟩)],0,h⟩:=λi g d=>by
 have d:(i,g)=(q,(⟨dJ a q,e,b⟩:Ob c)):=k0.1 d;injection d with h1 h2
 subst h1;subst h2;refine⟨?_,λj l=>?_⟩
 .rw[cJ] at f;exact(c7.1 f).1
 .show j.st<dJ a i
  unfold dJ;rw[l];exact p7 _
def xO{b:Nat->Type}{a:List (Ob b)}{v:TV b}{d:Ob b}{g:List Nat}:iZ a ⟨v,[(len a,d)],1,g⟩:=λi f c=>by
 have c:(i,f)=(len a,d):=k0.1 c;injection c with h1 h2
 subst h1;subst h2;rw[eu];refine⟨p7 _,λh e=>?_⟩
 rw[cJ,hI (ef _)] at e;cases e
def alQ{a:TV B.D}(c:yH a=true):(pv B a).one=true:=by
 cases a <;> first
  |rfl
  |(rename_i b;cases b <;> rfl;done)
  |(simp[yH] at c;done)
def oK:∀{cs:List (TV B.D)},jj cs=true->(aP B cs).all PV.one=true
 |[],_=>rfl
 |c::cs,a=>by
  simp only[jj] at a;cases b:yH c with
  |false=>rw[b] at a;cases a
  |true=>
   rw[b] at a;simp[aP,alQ b,oK (cs:=cs) a]
def zk{a:TV B.D}(d:tF a=true)(vs:List PV):pv B a≠ .bu vs:=by
 cases a <;> first
  |(intro b;cases b;done)
  |(rename_i c;cases c <;> (intro b;cases b);done)
  |(simp[tF] at d;done)
def PC{a:TV B.D}(b:jj (dN a)=true):tF a=true:=by
 cases a <;> first
  |rfl
  |(simp[dN,jj,yH] at b;done)
def l5(a:TV B.D):(pv B a).cells=aP B (dN a):=by rw[nB,db]
def aoA{a i:Nat}(c:i<a):(dx a:List (Ob B.D))[i]?=c4 xt:=by
 induction a generalizing i with
 |zero=>omega
 |succ a b=>
  cases i with
  |zero=>rfl
  |succ i=>simpa[dx] using b (by omega)
def PK{b:List (Ob B.D)}{a i:Nat}(c:i<a):nth (aX b (dx a)) (len b+i)=c4 xt:=by
 rw[cJ,bK,eu,dt (by omega)];simpa using aoA c
def mc(b:List (Ob B.D))(q:Nat)(a:Ob B.D):av B (b8 b [(q,a)])=(av B b).set q (aY B a):=Zc
def Ag.ov{e:Op}{rd:List Nat}{E c:En B.D}{H a:List (Ob B.D)}{d:Ob B.D}(j:Ag e (aX rd (eV [(len H,d)])) E c (aX H (dx 1)) a):(av B a)[len H]?=c4 ⟨0,1,[],0⟩:=by
 have h:=j.h (len H) (by simp[bK,eV]);rw[show len H=len H+0 from rfl,PK (by omega)] at h;exact df h
def Ag.pe{c:Op}{l:List Nat}{E a:En B.D}{d e:List (Ob B.D)}(j:Ag c l E a d e){x:Operand}(h:x∈c.operands):PE (aU B a) x=pv B (pe E x):=by rw[Bw,j.e x h]
def Ag.lN{h:Op}{rd wr:List Nat}{E d:En B.D}{H a:List (Ob B.D)}{n i:Nat}{c:Ob B.D}(j:Ag h (aX rd wr) E d (aX H (dx n)) a)(hi:i∈rd\/i∈wr)(e:nth H i=c4 c):nth a i=c4 c:=by
 rw[j.h i (by rw[bK,List.mem_append];exact hi)];exact Dy e
def c9{a:Type}{b:List a}{i:Nat}{d:a}(c:b[i]?=c4 d):i<b.length:=(c7.1 c).1
def W5{a:TypeId}{x:Operand}{E:En B.D}{H:List (Ob B.D)}(c:jj (dN (pe E x))=true)(g:m1 0 (len (dN (pe E x)))=true):
 gY P (.box a x) E H ⟨.ptr (len H) 1 0 0,[(len H,⟨1,1,.box a (dN (pe E x))⟩)],1,[]⟩:=by
 intro d ty pos aft h f b;have j:0<(pv B (pe E x)).cells.length:=by rw[nB,dk, <-eu];exact ei g
 have k:=b.pe (x:=x) (by simp[dd]);have i:=alO (P:=P) (E:=aU B h) (H:=av B f) (d:=d) (ty:=ty) (pos:=pos) (aft:=aft) (elem:=a) k rfl j (by rw[l5];exact oK c) (zk (PC c));have e:=tu (sX b.ov i) (c9 b.ov) (P6 _) (.refl _);rw[l5] at e;refine lI e ?_
 rintro v l ⟨rfl,rfl⟩;refine⟨rfl,?_⟩
 rw[mc];simp[aY,db]
def ac4{a:TypeId}{z:Value}{E:En B.D}{H:List (Ob B.D)}(h:dV P a=c4 z)(g:jj (dN (cv (D:=B.D) z))=true)(f:m1 0 (len (dN (cv (D:=B.D) z)))=true):
 gY P (.alloc a) E H ⟨.ptr (len H) 1 0 0,[(len H,⟨1,1,.box a (dN (cv z))⟩)],1,[]⟩:=by
 intro d ty pos aft i e c;have k:0<(pv B (cv z)).cells.length:=by rw[nB,dk, <-eu];exact ei f
 have j:=Ug (P:=P) (E:=aU B i) (H:=av B e) (d:=d) (ty:=ty) (pos:=pos) (aft:=aft) (elem:=a) h (DK B z).symm rfl k (by rw[l5];exact oK g);have b:=tu (sX c.ov j) (c9 c.ov) (P6 _) (.refl _);rw[l5] at b;refine lI b ?_
 rintro v l ⟨rfl,rfl⟩;refine⟨rfl,?_⟩
 rw[mc];simp[aY,db]
def Jh(c a:List (TV B.D))(b:Nat):aP B (oJ c b a)=(aP B c).take b++aP B a++(aP B c).drop (b+a.length):=by
 unfold oJ;rw[bK,bK,kK,drop_eq,eu];simp[db,j8,j7]
def ap2{a b:List (TV B.D)}{c:Nat}(d:c+b.length<=a.length):(oJ a c b).length=a.length:=by
 unfold oJ;rw[bK,bK,kK,drop_eq,eu];simp;omega
def acV{a l i:Nat}{g:List (B.D a)}{k:B.D a}{f:PV}(n:cU P B)(t:i<g.length)(u:∀(e:Nat) (q b:PV),f.cells[e]?=c4 q->((B.ty a).enc k).cells[e]?=c4 b->Cc q b)(v:f.cells.length=B.sz a):
 jB ⟨a,B.sz a,(g.map (B.ty a).enc).set i f,l⟩ ⟨a,B.sz a,(g.set i k).map (B.ty a).enc,l⟩:=by
 refine⟨rfl,rfl,rfl,by simp,λh j d=>?_,λh e o c=>?_⟩
 .rw[e6] at d;cases m:(g.set i k)[h]? with
  |none=>rw[m] at d;cases d
  |some s=>
   rw[m] at d;injection d with d
   subst d;exact n.wid a s
 .unfold abk at c⊢;rw[r0] at c
  by_cases j:i=h
  .subst j;rw[ee (by simpa using t)] at c⊢;simp only[hU] at c⊢;have p:e<f.cells.length:=by
    have:=c9 c;rw[n.wid] at this;omega
   exact⟨f.cells[e],c5 p,u e _ o (c5 p) c⟩
  .rw[ey j] at c⊢;exact⟨o,c,.refl _⟩
def amr(h:cU P B){w:TypeId}{x c:Operand}{E:En B.D}{H:List (Ob B.D)}{M:cr B.D->Option R}(a:store B P H w (pe E x) (pe E c) M=c4 r):
 ∃G,M G=c4 r/\iZ H G/\gY P (.store w x c) E H G:=by
 unfold store at a
 split at a
 .rename_i W af;obtain⟨X,a⟩:=a8 a;obtain⟨I,a⟩:=a8 a;have ad:(pv B (pe E c)).cells.length=W:=by rw[nB,dk, <-eu];exact beq_eq X
  have S:(pv B (pe E c)).cells.all PV.one=true:=by rw[l5];exact oK I
  have T:=zk (B:=B) (PC I);have L:cH P w=c4 (pv B (pe E c)).cells.length:=by rw[ad];exact af
  split at a
  .rename_i q v i f Q
   split at a
   .rename_i g ae F;obtain⟨U,m⟩:=fx F;obtain⟨e,N,a⟩:=ec.1 a;have Y:=c9 N;have fin:∀(j:B.D g) (e':PV),e'.cells=((B.ty g).enc e).cells.take f++(pv B (pe E c)).cells++((B.ty g).enc e).cells.drop (f+(pv B (pe E c)).cells.length)->f+(pv B (pe E c)).cells.length<=B.sz g->
     (∀(f:Nat) (o b:PV),e'.cells[f]?=c4 o->((B.ty g).enc j).cells[f]?=c4 b->Cc o b)->gY P (.store w x c) E H ⟨.any,[(q,⟨dJ H q,v,.aap g (ae.set i j)⟩)],0,[q]⟩:=λj e' J k t d ty pos aft K O l=>by
     have u:=df (l.lN (.inl (by simp)) m);have V:=QH (P:=P) (E:=aU B K) (H:=av B O) (d:=d) (ty:=ty) (pos:=pos) (aft:=aft) (e:=(B.ty g).enc e) (e':=e') (by rw[l.pe (x:=x) (by simp[dd]),Q];rfl) u rfl (l.pe (x:=c) (by simp[dd])) L S T (by simp[aY,N]) (by rw[h.wid];exact k) J;have ab:e'.cells.length=B.sz g:=by
      rw[J,eH,eH,ft,j5,h.wid];omega
     refine lI (tu V (c9 u) (acV h Y t ab) (.refl _)) ?_
     rintro v Z ⟨rfl,rfl⟩;exact⟨rfl,by rw[mc];rfl⟩
    have y:((B.ty g).enc e).cells=aP B (dN (B.tv g e)):=by rw[<-h.tv,l5]
    split at a
    .rename_i n aa;obtain⟨k,a⟩:=a8 a;obtain⟨j,A,p⟩:=fq a;have s:=ei k;rw[eu,eu] at s;rw[aa] at y;refine⟨_,p,pz m,fin j (.agg (aP B (oJ n f (dN (pe E c))))) ?_ ?_ λf o b C D=>((h.up g _ j A).2.cells).2 f o b C D⟩
     .rw[y,l5];show aP B _=_
      rw[Jh];simp[dN,db]
     .have:=h.wid g e;rw[y,db,dk] at this;rw[nB,dk];simp only[dN] at this;omega
    .obtain⟨k,z⟩:=a8 a;clear a;obtain rfl:=beq_eq k;obtain⟨j,A,p⟩:=fq z;have t:=(h.up g _ j A).2.cells;have ag:(pv B (pe E c)).cells.length=B.sz g:=by rw[t.1,h.wid]
     refine⟨_,p,pz m,fin j (.agg (pv B (pe E c)).cells) ?_ (by omega) λf o b C D=>t.2 f o b C D⟩
     rw[List.drop_eq_nil_of_le (by rw[h.wid];omega)];simp[PV.cells]
   .rename_i ah n F;obtain⟨U,m⟩:=fx F;obtain⟨ac,z⟩:=a8 a;clear a;obtain rfl:=beq_eq ac;obtain⟨k,p⟩:=a8 z;have s:=ei k;rw[eu,eu] at s;refine⟨_,p,pz m,λd ty pos aft K O l=>?_⟩
    have u:=df (l.lN (.inl (by simp)) m);refine lI (QH (P:=P) (e:=.agg (aP B n)) (e':=.agg (aP B (oJ n f (dN (pe E c))))) (by rw[l.pe (x:=x) (by simp[dd]),Q];rfl) u rfl (l.pe (x:=c) (by simp[dd])) L S T (by simp[aY]) ?_ ?_) ?_
    .rw[show(pv B (pe E c)).cells.length=(dN (pe E c)).length by rw[nB,dk]];simp only[PV.cells,db,dk];exact s
    .rw[l5];show aP B _=(aP B n).take f++aP B (dN (pe E c))++(aP B n).drop (f+(aP B (dN (pe E c))).length)
     rw[Jh];simp[db]
    .rintro v Z ⟨rfl,rfl⟩;refine⟨rfl,?_⟩
     rw[mc];simp[aY,ap2 s]
   .cases a
  .cases a
 .cases a
structure vF (P:Program) (B:Tb) (op:Op) (E:En B.D) (H:List (Ob B.D)) (n:Nat) (xs:List (B.D n)) (rd:List Nat):Prop where
 fz:∀d ty pos aft E' H',Ag op (aX rd []) E E' H H'->fJ P ⟨d,op,ty,pos,aft,c6⟩ (aU B E') (av B H') λv K=>v= .vs (B.sz n) (xs.map (B.ty n).enc)/\K=av B H'
 own:∀d ty pos aft E' H' q,(∀x,x∈op.operands->PE (aU B E') x=pv B (pe E x))->(∀i o,i∈rd->nth H i=c4 o->nth H' i=c4 o)->(av B H')[q]?=c4 ⟨0,1,[],0⟩->
  fJ P ⟨d,op,ty,pos,aft,c6⟩ (aU B E') (av B H') λv K=>v= .fl q 1/\K=(av B H').set q ⟨n,B.sz n,xs.map (B.ty n).enc,1⟩
def vF.sound{m:Op}{E:En B.D}{H:List (Ob B.D)}{n:Nat}{e:List (B.D n)}{rd:List Nat}{fz:Bool}{k:cr B.D->Option R}(o:vF P B m E H n e rd)
 (h:(bif fz then k ⟨.row n e,[],0,rd⟩ else k ⟨.fl (len H) 1,[(len H,⟨1,1,.aap n e⟩)],1,rd⟩)=c4 r):∃az,k az=c4 r/\iZ H az/\gY P m E H az:=by
 cases fz with
 |true=>
  refine⟨_,h,S6,λd ty pos l j c a=>?_⟩
  refine o.fz d ty pos l j c ⟨a.e,λi hi=>?_,?_⟩
  .rw[a.h i hi];show nth (aX H []) i=_;rw[bK,q4]
  .have:=a.le;simpa[bK,dx] using this
 |false=>
  refine⟨_,h,xO,λd ty pos l j c a=>?_⟩
  refine lI (o.own d ty pos l j c (len H) (λx s=>a.pe s) (λi u hi t=>a.lN (.inl hi) t) a.ov) ?_
  rintro v w ⟨rfl,rfl⟩;exact⟨rfl,by rw[mc];rfl⟩
def qY{b:Nat}{d:Option Nat}{z:Option Value}(a:lB b d z=true):d=c4 b/\∃v,z=c4 v/\v.cells.size=b:=by
 unfold lB at a
 split at a
 .rename_i e v;cases c:e4 b e with
  |true=>rw[c] at a;exact⟨by rw[beq_eq c],v,rfl,beq_eq a⟩
  |false=>rw[c] at a;cases a
 .cases a
def J2(f:cU P B){b:Nat}{d:List (B.D b)}:∀a,a∈d.map (B.ty b).enc->cE 0 a:=λa c=>by
 obtain⟨e,_,rfl⟩:=ng.1 c;exact f.lt b e
def MY(p:cU P B){c b h:Nat}{a x:Operand}{f:En B.D}{u:List (Ob B.D)}{g M:List (B.D b)}{F:List Nat}(C:pe f a= .bg\/pe f a= .z0)(J:yd B u (pe f x) b g F)
 (K:dU P c=c4 b) (I:kB P b=c4 (h+1)) (T:lB (B.sz b) (cH P b) (dV P b)=true) (N:bj (h+1) [] g=c4 M):
 vF P B (.call {callee:=.builtin .append,args:=#[a,x],argTypes:=#[c,c]}) f u b M F:=by
 obtain⟨H,rfl⟩:=AN N;obtain⟨y,X,w,D⟩:=qY T;simp only[l0,gx,o2] at H⊢;have A:(g.map (B.ty b).enc).length<=9223372036854775807:=by
  rw[dk];have:=ga g.length (l3 h);simp only[hS] at this;omega
 have G:(g.map (B.ty b).enc).length*(h+1)<=140737488355328:=by rw[dk];exact H
 have k:a∈(o8 {callee:=.builtin .append,args:=#[a,x],argTypes:=#[c,c]}).operands/\x∈(o8 {callee:=.builtin .append,args:=#[a,x],argTypes:=#[c,c]}).operands:=by simp[dd,hP]
 have z:∀{l:Env},PE l a=pv B (pe f a)->PE l a= .bg\/PE l a= .z0:=λj=>C.imp (λe=>by rw[j,e];rfl) (λe=>by rw[j,e];rfl)
 have L:∀r v,pv B (pe f a)≠ .fl r v:=λr v=>by rcases C with e |e <;> rw[e] <;> simp[pv]
 refine⟨λd ty pos aft O o s=>?_,λd ty pos aft O o q E S t=>?_⟩
 .have W:=s.pe k.1;refine uL (x:=x) (by rw[s.pe k.2];exact J o λi Y U Q=>by rw[s.h i (by rw[bK];simp[U])];exact Q) λV m n=>?_
  exact ab0 (z (n a _ W L)) rfl m (p.pos b) K y I w D G A (J2 p)
 .refine uL (x:=x) (by rw[E x k.2];exact J o S) λV m n=>?_
  have j:=Oh (P:=P) (d:=d) (ty:=ty) (pos:=pos) (aft:=aft) t (z (n a _ (E a k.1) L)) rfl m (p.pos b) K y I w D G A;exact qX j (by unfold ek;rw[ee (c9 t)]) rfl
def YX(W:cU P B){t a c q v n:Nat}{s x:Operand}{E:En B.D}{H:List (Ob B.D)}{b f w:List (B.D a)}{m:List Nat}(F:pe E s= .fl q v)(h:nth H q=c4 ⟨n,v,.aap a b⟩)(N:yd B H (pe E x) a f m)
 (T:dU P t=c4 a) (M:kB P a=c4 (c+1)) (O:lB (B.sz a) (cH P a) (dV P a)=true) (z:bj (c+1) b f=c4 w):
 gY P (.call {callee:=.builtin .append,args:=#[s,x],argTypes:=#[t,t]}) E H ⟨.fl q (v+1),[(q,⟨dJ H q,v+1,.aap a w⟩)],0,q::m⟩:=by
 obtain⟨K,rfl⟩:=AN z;obtain⟨C,U,y,J⟩:=qY O;have D:b.length+f.length<=9223372036854775807:=by
  have:=ga (b.length+f.length) (l3 c);simp only[hS] at this;omega
 have u:s∈(o8 {callee:=.builtin .append,args:=#[s,x],argTypes:=#[t,t]}).operands/\x∈(o8 {callee:=.builtin .append,args:=#[s,x],argTypes:=#[t,t]}).operands:=by simp[dd,hP]
 intro d ty pos aft A l g;have e:=df (g.lN (.inl (by simp)) h);have I:PE (aU B A) s= .fl q v:=by rw[g.pe u.1,F];rfl
 obtain⟨j,rfl,p⟩:=ri I;refine yP p e rfl ?_
 have k:=JM (x:=x) (by rw[g.pe u.2];exact N l λi o Q h=>g.lN (.inl (by simp[Q])) h) p e;refine uL (x:=x) k λS k G=>?_
 have L:=Pb (P:=P) (E:=S) (H:=av B l) (d:=d) (ty:=ty) (pos:=pos) (aft:=aft) (s:=.tmp j) (r:=q) (v:=v) (len:=b.length) (by_:=c+1) (t:=t) (x:=x) (o:=aY B ⟨n,v,.aap a b⟩) (G (.tmp j) (.sl q v 0 b.length) (by show Bml.look _ j=_;rw[ni];simp[aY]) (by simp)) e rfl rfl k T C M y J (by rw[dk];exact K) (by rw[dk];exact D);refine lI (qX L (by unfold ek;rw[ee (c9 e)]) (by simp[aY])) ?_
 rintro v V ⟨rfl,rfl⟩;refine⟨rfl,?_⟩
 rw[mc];simp[aY,hY]
def OL{f:List (Ob B.D)}{q b e c:Nat}{a:List (TV B.D)}(h:nth f q=c4 ⟨e,b,.hole c [] a⟩){d:List (Ob B.D)}(g:nth d q=c4 ⟨e,b,.hole c [] a⟩):kV (av B d) (.fl q b) (B.sz c) (aP B a):=
 .inr ⟨q,_,rfl,df g,rfl,by simp[aY]⟩
def agG(aj:cU P B){t n m:Nat}{s x:Operand}{E:En B.D}{H:List (Ob B.D)}{W:cr B.D->Option R}(a:GI B H n (m+1) (pe E s) (pe E x) W=c4 r)
 (ad:dU P t=c4 n) (aa:kB P n=c4 (m+1)) (ak:lB (B.sz n) (cH P n) (dV P n)=true):
 ∃O,W O=c4 r/\iZ H O/\gY P (.call {callee:=.builtin .append,args:=#[s,x],argTypes:=#[t,t]}) E H O:=by
 obtain⟨V,ao,S,X⟩:=qY ak;have C:s∈(o8 {callee:=.builtin .append,args:=#[s,x],argTypes:=#[t,t]}).operands/\x∈(o8 {callee:=.builtin .append,args:=#[s,x],argTypes:=#[t,t]}).operands:=by simp[dd,hP]
 unfold GI at a
 split at a
 .rename_i q aq ab
  split at a
  .rename_i j f al;obtain⟨ap,A⟩:=fx al;obtain⟨ae,a⟩:=a8 a;obtain rfl:=beq_eq ae;have Z:(aP B f).length=len f:=by rw[db,dk,eu]
   split at a
   .rename_i I;obtain⟨c,u⟩:=a8 a;have c:=ei c;refine⟨_,u,xO,λd ty pos aft U Y e=>?_⟩
    have am:=e.lN (.inl (by simp)) A;refine uL (x:=x) (sz:=B.sz j) (ys:=aP B f) (by rw[e.pe C.2,ab];exact OL A am) λN w K=>?_
    have J:(aP B f).length<=9223372036854775807:=by
     have:=ga (len f) (l3 m);simp only[hS] at this;omega
    have a:=Oh (P:=P) (E:=N) (d:=d) (ty:=ty) (pos:=pos) (aft:=aft) (s:=s) e.ov (.inl (K s .bg (by rw[e.pe C.1,I];rfl) (by simp))) rfl w (aj.pos j) ad V aa S X (by rw[Z];exact c) J;refine lI (qX a (by unfold ek;rw[ee (c9 e.ov)]) rfl) ?_
    rintro v af ⟨rfl,rfl⟩;exact⟨rfl,by rw[mc];rfl⟩
   .rename_i h l I;have go:∀(p:Nat) (b M:Bd B.D) (g:List PV),nth H h=c4 ⟨p,l,b⟩->(∀s v,aY B ⟨s,v,b⟩=⟨j,B.sz j,g,v⟩)->(∀s v,aY B ⟨s,v,M⟩=⟨j,B.sz j,g++aP B f,v⟩)->(g.length+len f)*(m+1)<=140737488355328->
     gY P (.call {callee:=.builtin .append,args:=#[s,x],argTypes:=#[t,t]}) E H ⟨.fl h (l+1),[(h,⟨dJ H h,l+1,M⟩)],0,[h,q]⟩:=λp b M g k an ah c=>by
     have J:g.length+(aP B f).length<=9223372036854775807:=by
      have:=ga (g.length+len f) (l3 m);simp only[hS] at this;omega
     intro d ty pos aft U Y e;have y:=df (e.lN (.inl (by simp)) k);have ai:=e.lN (i:=q) (.inl (by simp)) A;rw[an] at y;have ag:PE (aU B U) s= .fl h l:=by rw[e.pe C.1,I];rfl
     obtain⟨G,rfl,ac⟩:=ri ag;refine yP ac y rfl ?_
     have w:=JM (x:=x) (by rw[e.pe C.2,ab];exact OL A ai) ac y;refine uL (x:=x) w λN w K=>?_
     have a:=Pb (P:=P) (E:=N) (H:=av B Y) (d:=d) (ty:=ty) (pos:=pos) (aft:=aft) (s:=.tmp G) (r:=h) (v:=l) (len:=g.length) (by_:=m+1) (t:=t) (x:=x) (o:=⟨j,B.sz j,g,l⟩) (K (.tmp G) (.sl h l 0 g.length) (by show Bml.look _ G=_;rw[ni]) (by simp)) y rfl rfl w ad V aa S X (by rw[Z];exact c) J;refine lI (qX a (by unfold ek;rw[ee (c9 y)]) (by simp)) ?_
     rintro v af ⟨rfl,rfl⟩;refine⟨rfl,?_⟩
     rw[mc,ah];simp[hY]
    split at a
    .rename_i Q z T L;obtain⟨p,k⟩:=fx L;obtain⟨ys,D,a⟩:=fq a;obtain⟨rfl,F⟩:=AG D;obtain rfl:z=ys:=F;obtain⟨c,u⟩:=a8 a;have c:=ei c;refine⟨_,u,pz k,go p _ _ (z.map (B.ty Q).enc++aP B T) k (λs v=>rfl) (λs v=>by simp[aY,bK,db]) ?_⟩
     rw[eH,dk,db,dk, <-eu T];exact c
    .rename_i Q z L;obtain⟨p,k⟩:=fx L;obtain⟨ys,D,a⟩:=fq a;obtain⟨rfl,F⟩:=AG D;obtain rfl:z=ys:=F;obtain⟨c,u⟩:=a8 a;have c:=ei c;refine⟨_,u,pz k,go p _ _ (z.map (B.ty Q).enc) k (λs v=>rfl) (λs v=>rfl) ?_⟩
     rw[dk];exact c
    .cases a
   .cases a
  .cases a
 .cases a
end
def am7{b c:PV}(d:Cc b c)(a:c.one=true):b.one=true:=by
 cases d with
 |refl=>exact a
 |nil=>rfl
 |z0=>rfl
 |agg=>cases a
def ahf{vs:List PV}{a:PV}(b:Cc (.bu vs) a):a= .bu vs:=by
 cases b;rfl
def ajW{b a:PV}(f:Cc b a)(h:a.cells.all PV.one=true):b.cells.all PV.one=true:=by
 obtain⟨k,e⟩:=f.cells;refine h7.2 λj i=>?_
 obtain⟨c,g,rfl⟩:=ej i;have d:c<a.cells.length:=by omega
 exact am7 (e c _ _ (c5 g) (c5 d)) (h7.1 h _ (List.getElem_mem d))
section
variable {P:Program}{B:Tb}{R:Type}{r:R}
def acz{e:En B.D}{f d:Operand}(a:Cf f d=true):pe e d=pe e f:=by
 unfold Cf at a
 split at a
 .rw[beq_eq a]
 .rename_i g h b i;cases c:fV g b with
  |false=>rw[c] at a;cases a
  |true=>
   rw[c] at a;obtain rfl:=qh c;have:h=i:=of_decide_eq_true a;rw[this]
 .cases a
def aoF(p:cU P B){s a v:Nat}{j o:Operand}{w:En B.D}{K:List (Ob B.D)}{Q:IntKind}{e:Int}{z:Value}{n:B.D a}{H:List (B.D a)}(N:Cf j o=true)(G:pe w j= .int Q e)
 (ac:dU P s=c4 a) (L:dV P a=c4 z) (aa:kB P a=c4 (v+1)) (ab:lB (B.sz a) (cH P a) (dV P a)=true) (S:jj (dN (cv (D:=B.D) z))=true) (V:B.up a (cv z)=c4 n) (x:gP (v+1) n e=c4 H):
 vF P B (.makeSlice s j o) w K a H []:=by
 obtain⟨J,F,rfl⟩:=SF x;obtain⟨M,ae,af,ag⟩:=qY ab;obtain⟨O,I⟩:=p.up a _ n V;have U:e.toNat<=9223372036854775807:=by
  have:=ga e.toNat (l3 v);simp only[hS] at this;omega
 have X:(pv B (cv z)).cells.length=B.sz a:=by rw[I.cells.1,p.wid]
 have A:∀g c h l f k,(∀t,t∈(Op.makeSlice s j o).operands->PE (aU B f) t=pv B (pe w t))->nY P (aU B f) (av B k) ⟨g,.makeSlice s j o,c,h,l,c6⟩ a (B.sz a) (hB e.toNat (pv B (cv z))) (λq m=>.sl q m 0 e.toNat):=λg c h l f k d=>
  aax (by rw[d j (by simp[dd]),G];rfl) (by rw[d o (by simp[dd]),acz N,G];rfl) J J ac M aa (by omega) U L (DK B z).symm X (p.pos a) (by rw[l5];exact oK S)
 have C:∀c m,jB ⟨c,B.sz a,hB e.toNat (pv B (cv z)),m⟩ ⟨c,B.sz a,(hB e.toNat n).map (B.ty a).enc,m⟩:=λc m=>by
  refine jB.of (by simp) (λi ah b W F=>?_) λi Y d=>?_
  .have T:=dT W;have E:=dT F;rw[oo] at E;rw[hQ T,hQ E];exact I
  .have y:=dT d;rw[oo] at y;rw[hQ y];exact p.wid a n
 refine⟨λg c h l f k ad=>?_,λg c h l f k q d _ u=>?_⟩
 .exact Pf (J5 (A g c h l f k λt x=>ad.pe x) (by simp) λY d=>by rw[hQ d];exact O) (C 0 0)
 .have Z:=tu (sX u (A g c h l f k d)) (c9 u) (C a 1) (.refl _);exact qX Z (by unfold ek;rw[ee (c9 u)]) (by simp)
def NO(o:cU P B){e:En B.D}{h:Nat}:∀{b:List (Nat×Operand)} {i:Nat} {f:List (B.D h)},rn B e h i b=c4 f->
 f.length=b.length/\(∀g:En B.D,(∀p,p∈b->PE (aU B g) p.2=pv B (pe e p.2))->qn (aU B g) b (mY i (b.map λp=>pv B (pe e p.2))))/\
 (∀(c:Nat) (j k:PV),(b.map λp=>pv B (pe e p.2))[c]?=c4 j->(f.map (B.ty h).enc)[c]?=c4 k->Cc j k)/\∀l,l∈(b.map λp=>pv B (pe e p.2))->cE 0 l
 |[],i,f,a=>by
  simp only[rn,m4] at a;subst a;exact⟨rfl,λ_ _=>trivial,by simp,by simp⟩
 |p::b,i,f,a=>by
  simp only[rn] at a;obtain⟨v,a⟩:=a8 a
  split at a
  .rename_i y C u x;injection a with a
   subst a;obtain⟨w,t,z,A⟩:=NO o x;obtain⟨u1,u2⟩:=o.up h _ y u;refine⟨by simp[w],λg d=>⟨beq_eq v,d p (by simp),t g λq s=>d q (km _ s)⟩,λc j k n m=>?_,λl d=>?_⟩
   .cases c with
    |zero=>simp at n m;subst n;subst m;exact u2
    |succ c=>exact z c j k (by simpa using n) (by simpa using m)
   .rcases mb.1 d with rfl |d
    .exact u1
    .exact A l d
  .cases a
def Js:∀{l:List Value},Ax l=true->l.all (·.oneCell')=true
 |[],_=>rfl
 |v::l,a=>by
  simp only[Ax] at a;cases b:v.oneCell' with
  |false=>rw[b] at a;cases a
  |true=>rw[b] at a;simp[b,Js (l:=l) a]
def aaJ(j:cU P B){t n e:Nat}{ps:Array (Nat×Operand)}{E:En B.D}{H:List (Ob B.D)}{h:List (B.D n)}(S:dU P t=c4 n)(u:rn B E n 0 ps.toList=c4 h)(O:e4 (len h) e=true)
 (M:lB (B.sz n) (cH P n) (dV P n)=true) (w:Ix (dV P n)=true) (L:hK (e*B.sz n) 16777216=true):vF P B (.buildSlice t e ps) E H n h []:=by
 obtain⟨D,zv,v,J⟩:=qY M;obtain⟨W,I,A,T⟩:=NO j u;have V:h.length=e:=by rw[<-eu];exact beq_eq O
 rw[v] at w;have K:=Js w;have C:∀f,f∈(ps.toList.map λp=>pv B (pe E p.2))->∃a:B.D n,Cc f ((B.ty n).enc a):=λf b=>by
  obtain⟨s,x,rfl⟩:=ej b;have G:s<h.length:=by rw[dk] at x;omega
  exact⟨h[s],A s _ _ (c5 x) (by rw[e6,c5 G];rfl)⟩
 have y:∀d ty pos aft c g,(∀a,a∈(Op.buildSlice t e ps).operands->PE (aU B c) a=pv B (pe E a))->nY P (aU B c) (av B g) ⟨d,.buildSlice t e ps,ty,pos,aft,c6⟩ n (B.sz n) (ps.toList.map λp=>pv B (pe E p.2)) (λq k=>.sl q k 0 e):=λd ty pos aft c g b=>by
  have l:=Pn (P:=P) (E:=aU B c) (H:=av B g) (d:=d) (ty:=ty) (pos:=pos) (aft:=aft) (t:=t) (te:=n) (sz:=B.sz n) (n:=e) (zv:=zv) (ps:=ps.toList) (es:=ps.toList.map λp=>pv B (pe E p.2))
   (I c λp Q=>b p.2 (by simp[dd];exact⟨p.1,hM.1 Q⟩)) (by rw[dk];omega)
   (h7.2 λf b=>by
    obtain⟨a,m⟩:=C f b;rw[m.cells.1,j.wid,ajW m (j.one n a),k7];rfl)
   (λf b N F=>by
    obtain⟨a,m⟩:=C f b;subst F;exact j.xw n a N (ahf m)) S D v J K (j.pos n) (ei L)
  rw[j4] at l;exact l
 have z:∀ty k,jB ⟨ty,B.sz n,ps.toList.map λp=>pv B (pe E p.2),k⟩ ⟨ty,B.sz n,h.map (B.ty n).enc,k⟩:=λty k=>
  jB.of (by rw[dk,dk];omega) A λi f b=>by
   obtain⟨a,_,rfl⟩:=ng.1 (dT b);exact j.wid n a
 refine⟨λd ty pos aft c g U=>?_,λd ty pos aft c g q b _ o=>?_⟩
 .exact Pf (J5 (y d ty pos aft c g λa u=>U.pe u) (by rw[dk];omega) T) (z 0 0)
 .have l:=tu (sX o (y d ty pos aft c g b)) (c9 o) (z n 1) (.refl _);exact qX l (by unfold ek;rw[ee (c9 o)]) (by rw[dk];omega)
def aco(G:cU P B){t n c:Nat}{ps:Array (Nat×Operand)}{E:En B.D}{H:List (Ob B.D)}{k:cr B.D->Option R}(a:FK B E H n ps.toList c k=c4 r)(M:dU P t=c4 n)
 (I:lB (B.sz n) (cH P n) (dV P n)=true) (i:Ix (dV P n)=true) (F:hK (c*B.sz n) 16777216=true):∃f,k f=c4 r/\iZ H f/\gY P (.buildSlice t c ps) E H f:=by
 obtain⟨u,zv,h,z⟩:=qY I;rw[h] at i;have D:=Js i;unfold FK at a
 split at a
 .rename_i p m;obtain⟨h0,a⟩:=a8 a;obtain⟨y,a⟩:=a8 a;obtain⟨s,a⟩:=a8 a;obtain⟨J,a⟩:=a8 a;obtain⟨N,w⟩:=a8 a;obtain rfl:=beq_eq y;refine⟨_,w,xO,λd ty pos aft b l g=>?_⟩
  have A:PE (aU B b) p.2=pv B (pe E p.2):=g.pe (by simp[dd];exact⟨p.1,hM.1 (by rw[m];simp)⟩);have L:(pv B (pe E p.2)).cells.length=B.sz n:=by rw[nB,dk, <-eu];exact beq_eq s
  have x:nY P (aU B b) (av B l) ⟨d,.buildSlice t 1 ps,ty,pos,aft,c6⟩ n (B.sz n) [pv B (pe E p.2)] (λq o=>.sl q o 0 1):=by
   have a:=Pn (P:=P) (E:=aU B b) (H:=av B l) (d:=d) (ty:=ty) (pos:=pos) (aft:=aft) (t:=t) (te:=n) (sz:=B.sz n) (n:=1) (zv:=zv) (ps:=ps.toList) (es:=[pv B (pe E p.2)])
    (by rw[m];exact⟨beq_eq h0,A,trivial⟩) rfl
    (h7.2 λC e=>by
     rw[k0.1 e,L,l5,oK J,k7];rfl)
    (λC e K j=>by
     rw[k0.1 e] at j;exact zk N K j) M u h z D (G.pos n) (ei F)
   rw[j4] at a;exact a
  have a:=sX g.ov x;refine lI (qX a (by unfold ek;rw[ee (c9 g.ov)]) rfl) ?_
  rintro v O ⟨rfl,rfl⟩;exact⟨rfl,by rw[mc];rfl⟩
 .cases a
def M4{e:En B.D}:∀{b:List (Nat×Operand)} {c:List (Nat×List (TV B.D))},ul B e b=c4 c->c=b.map (λp=>(p.1,dN (pe e p.2)))/\∀p,p∈b->tF (pe e p.2)=true
 |[],c,a=>by simp[ul] at a;subst a;exact⟨rfl,by simp⟩
 |p::b,c,a=>by
  simp only[ul] at a;obtain⟨f,a⟩:=a8 a
  split at a
  .rename_i j i;injection a with a
   subst a;obtain⟨h,g⟩:=M4 i;refine⟨by rw[h];rfl,λq d=>?_⟩
   rcases mb.1 d with rfl |d
   .exact f
   .exact g q d
  .cases a
def Ko{c:En B.D}{place:Nat->Option (Nat×Nat)}{j:List (Nat×Nat)}(k:∀i p,nth j i=c4 p->place i=c4 p):∀{e:List (Nat×Operand)} {b d:List (TV B.D)},fill j b (e.map λp=>(p.1,dN (pe c p.2)))=c4 d->
 mE place (aP B b) (e.map λp=>(p.1,pv B (pe c p.2)))=c4 (aP B d)
 |[],b,d,a=>by simp[fill] at a;subst a;rfl
 |p::e,b,d,a=>by
  simp only[ma,fill] at a
  split at a
  .rename_i q size o;obtain⟨l,a⟩:=a8 a;obtain⟨g,a⟩:=a8 a;obtain⟨n,a⟩:=a8 a;have f:=beq_eq l;rw[eu] at f g;have h:=Ko k a;rw[Jh,f] at h;simp only[ma,mE,k _ _ o];have m:(pv B (pe c p.2)).cells=aP B (dN (pe c p.2)):=l5 _;rw[m,oK n];rw[show(aP B (dN (pe c p.2))).length=size by rw[db,dk];exact f,show(aP B b).length=b.length by rw[db,dk],g,k7];exact h
  .cases a
def RI{b:Nat}:∀{n i k:Nat} {p:Nat×Nat},nth (AA b n i) k=c4 p->p=((i+k)*b,b)
 |0,_,_,_,a=>by cases a
 |n+1,i,0,p,a=>by simp[AA,nth] at a;exact a.symm
 |n+1,i,k+1,p,a=>by
  have:=RI (n:=n) (i:=i+1) (k:=k) (p:=p) a;rw[this]
  congr 2
  omega
def agn{t:TypeId}{f:Array (Nat×Operand)}{E:En B.D}{H:List (Ob B.D)}{z:Array Value}{l:List (Nat×Nat)}{o:List (Nat×List (TV B.D))}{m:List (TV B.D)}(k:dV P t=c4 (.agg z))(a:placesOf P t=c4 l)
 (A:jj (rq (D:=B.D) z.toList)=true) (I:ul B E f.toList=c4 o) (w:fill l (rq z.toList) o=c4 m):fW P (.build t f) E H [] (.agg m):=by
 intro d ty pos aft g s L _;obtain⟨rfl,J⟩:=M4 I;have n:∀{e:List (Nat×Operand)},(∀p,p∈e->p∈f.toList)->qn (aU B g) e (e.map λp=>(p.1,pv B (pe E p.2))):=λ{e}=>by
  induction e with
  |nil=>intro _;trivial
  |cons p e M=>
   intro c;exact⟨rfl,L p.2 (by simp[dd];exact⟨p.1,hM.1 (c p (by simp))⟩),M λq y=>c q (km _ y)⟩
 have x:∀i v,(i,v)∈(f.toList.map λp=>(p.1,pv B (pe E p.2)))->∀j,v≠ .bu j:=λi v G j=>by
  obtain⟨p,b,h⟩:=ng.1 G;injection h with _ h
  rw[<-h];exact zk (J p b) j
 have u:(z.toList.map jq).all PV.one=true:=by rw[<-r8 B];exact oK A
 unfold placesOf at a
 split at a
 .rename_i O K;injection a with a
  subst a;have c:=ahR (P:=P) (E:=aU B g) (H:=av B s) (d:=d) (ty:=ty) (pos:=pos) (aft:=aft) (gd:=c6) (t:=t) (zs:=z.toList) (by simpa using k) (r8 B _).symm (by rw[r8];exact u) K (n λp b=>b) x
   (Ko (λi p b=>by rw[cJ] at b;simpa using b) w)
  rw[j4] at c;exact c
 .split at a
  .rename_i Q S F
   split at a
   .rename_i N C;injection a with a
    subst a;have c:=VH (P:=P) (E:=aU B g) (H:=av B s) (d:=d) (ty:=ty) (pos:=pos) (aft:=aft) (gd:=c6) (t:=t) (zs:=z.toList) (by simpa using k) (r8 B _).symm (by rw[r8];exact u) F C (n λp b=>b) x
     (Ko (λi p b=>by rw[RI b,gx]) w)
    rw[j4] at c;exact c
   .cases a
  .cases a
end
end Go.X
namespace Go.Bml
open Go
inductive Wf (f:Nat->Nat->Prop):PV->Prop
 |any:Wf f .any
 |bool (b:Bool):Wf f (.bool b)
 |int (k:IntKind) (m:Int):Wf f (.int k m)
 |str (s:ByteArray):Wf f (.str s)
 |fS:Wf f .fS
 |bg:Wf f .bg
 |z0:Wf f .z0
 |dB:Wf f .dB
 |dw (cs:List PV) (j:Nat):Wf f (.dw cs j)
 |vs (sz:Nat) (es:List PV):Wf f (.vs sz es)
 |ptr (r v i j:Nat) (h:f r v):Wf f (.ptr r v i j)
 |sl (r v off len:Nat) (h:f r v):Wf f (.sl r v off len)
 |fl (r v:Nat) (h:f r v):Wf f (.fl r v)
 |agg (cs:List PV) (h:∀c,c∈cs->Wf f c):Wf f (.agg cs)
 |bu (cs:List PV) (h:∀c,c∈cs->Wf f c):Wf f (.bu cs)
 |fn (g:Nat) (cs ds:List PV) (h:∀c,c∈cs->Wf f c) (h2:∀c,c∈ds->Wf f c):Wf f (.fn g cs ds)
section
variable {g g':Gh}{H H':List aO}{w w':World}
def qB{p:PV->Prop}{b:List PV}{c:List Value}(j:b.length=c.length)(e:∀(i:Nat) (a:PV) (f:Value),b[i]?=c4 a->c[i]?=c4 f->p a):∀a,a∈b->p a:=λa d=>by
 obtain⟨i,h,rfl⟩:=ej d;exact e i _ _ (c5 h) (c5 (by omega))
def VI.wf{F:Nat->Prop}{f:Nat->Nat->Prop}{c:PV}{x:Value}(h:VI F w c x):Wf f c:=by
 induction h with
 |any x=>exact .any
 |bool b=>exact .bool b
 |int k n=>exact .int k n
 |str s=>exact .str s
 |fS=>exact .fS
 |bg=>exact .bg
 |z0 a=>exact .z0
 |dB=>exact .dB
 |dw e A b off C u t o l d=>exact .dw e A
 |eX sz a cap=>exact .vs sz []
 |vs sz es b off cap C j u G t o l d=>exact .vs sz es
 |agg e m j l d=>exact .agg e (qB j d)
 |bu e m j l d=>exact .bu e (qB j d)
 |fn f e D m I j l y E d B=>exact .fn f e D (qB j d) (qB y B)
def VR.wf{c:PV}{x:Value}(h:VR g H w c x):Wf (λr v=>∃e,H[r]?=c4 e/\v<=e.aF) c:=by
 induction h with
 |aW h=>exact h.wf
 |ptr r v i t e a k d D=>exact .ptr r v i t ⟨e,k,d⟩
 |sl r v off len e x k d o y=>exact .sl r v off len ⟨e,k,d⟩
 |fl r v e x k d o y=>exact .fl r v ⟨e,k,d⟩
 |agg l n m d j=>exact .agg l (qB m j)
 |bu l n m d j=>exact .bu l (qB m j)
 |fn f l A n C m d s B j u=>exact .fn f l A (qB m j) (qB s u)
def VR.uz{f:Nat->Nat->Prop}(T:∀b,g.F b->g'.F b)(O:∀b,g.F b->w'.heap[b]?=w.heap[b]?)
 (L:∀r v l,f r v->H[r]?=c4 l->v<=l.aF->∃d,H'[r]?=c4 d/\v<=d.aF/\(v=d.aF->v=l.aF/\d.sz=l.sz/\d.es.length=l.es.length/\g'.β r=g.β r))
 {c:PV} {x:Value} (h:VR g H w c x) (n:Wf f c):VR g' H' w' c x:=by
 induction h with
 |aW h=>exact .aW (h.mono T O)
 |ptr r v i N l a s m S=>
  cases n with
  |ptr _ _ _ _ C=>
   obtain⟨d,D,u,J⟩:=L r v l C s m;refine .ptr r v i N d a D u λe=>?_
   obtain⟨A,B,o,F⟩:=J e;rw[B,o,F];exact S A
 |sl r v off len l x s m K j=>
  cases n with
  |sl _ _ _ _ C=>
   obtain⟨d,D,u,J⟩:=L r v l C s m;refine .sl r v off len d x D u K λe=>?_
   obtain⟨A,B,o,F⟩:=J e;exact(j A).step B o F
 |fl r v l x s m K j=>
  cases n with
  |fl _ _ C=>
   obtain⟨d,D,u,J⟩:=L r v l C s m;refine .fl r v d x D u K λe=>?_
   obtain⟨A,B,o,F⟩:=J e;rw[o];exact(j A).step B o F
 |agg y G E m I=>cases n with |agg _ t=>exact .agg y G E λi c x k j=>I i c x k j (t c (dT k))
 |bu y G E m I=>cases n with |bu _ t=>exact .bu y G E λi c x k j=>I i c x k j (t c (dT k))
 |fn f y R G U E m M V I Q=>
  cases n with
  |fn _ _ _ t P=>exact .fn f y R G U E (λi c x k j=>I i c x k j (t c (dT k))) M (λi c x k j=>Q i c x k j (P c (dT k)))
def VR.re{f:Nat->Nat->Prop}(e:∀b,g.F b->g'.F b)
 (k:∀r v d,f r v->H[r]?=c4 d->v<=d.aF->∃a,H'[r]?=c4 a/\v<=a.aF/\(v=a.aF->v=d.aF/\a.sz=d.sz/\a.es.length=d.es.length/\g'.β r=g.β r))
 {c:PV} {x:Value} (h:VR g H w c x) (j:Wf f c):VR g' H' w c x:=VR.uz e (λ_ _=>rfl) k h j
def dj(g:Gh)(d:Nat->Option Nat)(c:Nat->Prop):Gh:={F:=λb=>g.F b\/∃r a,c r/\g.β r=c4 (b,a),β:=λq=>(d q).bind g.β}
def bF.re(s:bF g H w){a:Nat->Option Nat}{fz:Nat->Prop}(S:∀r,fz r->∀q,a q≠c4 r)(inj:∀q t r,a q=c4 r->a t=c4 r->q=t)(m8:∀q r,a q=c4 r->q<H'.length)
 (obj:∀q d,H'[q]?=c4 d->0<d.sz/\(∀(i:Nat) (e:PV),d.es[i]?=c4 e->e.cells.length=d.sz)/\(a q=c6->d.es=[])/\
  ∀r,a q=c4 r->∃l,H[r]?=c4 l/\d.ty=l.ty/\d.sz=l.sz/\d.es.length=l.es.length/\∀i n x,abk d.es i n=c4 x->∃c,abk l.es i n=c4 c/\∀o,VR g H w c o->VR (dj g a fz) H' w x o):
 bF (dj g a fz) H' w:=by
 have A:∀{q b C},(dj g a fz).β q=c4 (b,C)->∃r,a q=c4 r/\g.β r=c4 (b,C):=λ{q b C} h=>by
  show ∃r,a q=c4 r/\_
  have m:(a q).bind g.β=c4 (b,C):=h;cases k:a q with
  |none=>rw[k] at m;cases m
  |some r=>rw[k] at m;exact⟨r,rfl,m⟩
 refine⟨λb j=>?_,λq t b C P h m=>?_,λq b C h=>?_,λq d L=>?_⟩
 .rcases j with j |⟨r,C,_,j⟩
  .exact s.fb b j
  .exact s.qD j
 .obtain⟨r,y,F⟩:=A h;obtain⟨R,G,N⟩:=A m;obtain rfl:=s.inj r R b C P F N;exact inj q t r y G
 .obtain⟨r,y,_⟩:=A h;exact m8 q r y
 .obtain⟨Z,O,ad,af⟩:=obj q d L;refine⟨Z,O,?_⟩
  cases k:a q with
  |none=>
   have:(dj g a fz).β q=c6:=by show(a q).bind g.β=c6;rw[k];rfl
   rw[this];exact ad k
  |some r=>
   have E:(dj g a fz).β q=g.β r:=by show(a q).bind g.β=_;rw[k];rfl
   rw[E];obtain⟨l,I,Q,B,D,aa⟩:=af r k;have u:=(s.obj r l I).mem;cases j:g.β r with
   |none=>
    rw[j] at u;exact e5 (by rw[D,u];rfl)
   |some J=>
    obtain⟨b,C⟩:=J;rw[j] at u;obtain⟨T,cells,U,K,X,ag,ac⟩:=u;refine⟨?_,cells,by rw[Q];exact U,by rw[B];exact K,X,by rw[D];exact ag,λi n x ab=>?_⟩
    .rintro(V |⟨r2,C2,ae,W⟩)
     .exact T V
     .obtain rfl:=s.inj r r2 b C C2 j W;exact S _ ae q k
    .obtain⟨c,Y,M⟩:=aa i n x ab;obtain⟨o,u1,u2,u3⟩:=ac i n c Y;exact⟨o,by rw[B];exact u1,u2,M o u3⟩
def GStep.re{n:Nat}{j:Nat->Option Nat}{fz:Nat->Prop}(m:∀r d,r<n->H[r]?=c4 d->∃a,H'[r]?=c4 a/\d.aF<=a.aF/\(a.aF=d.aF->j r=c4 r/\a.sz=d.sz/\a.es.length=d.es.length)):GStep n g H w (dj g j fz) H' w:=by
 refine⟨rfl,rfl,rfl,ef _,λ_ h=>.inl h,λ_ _=>rfl,λ_ _ _=>rfl,λb c=>?_,λq b C c=>?_,λr d A t=>?_⟩
 .rcases c with c |⟨r,C,_,c⟩
  .exact .inl c
  .exact .inr (.inr ⟨r,C,c⟩)
 .have k:(j q).bind g.β=c4 (b,C):=c;cases l:j q with
  |none=>rw[l] at k;cases k
  |some r=>rw[l] at k;exact .inr ⟨r,C,k⟩
 .obtain⟨a,B,s,y⟩:=m r d A t;refine⟨a,B,s,λe=>?_⟩
  obtain⟨o,u,x⟩:=y e;exact⟨u,x,by show(j r).bind g.β=_;rw[o];rfl⟩
end
end Go.Bml
