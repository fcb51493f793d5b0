/- For TopSmokeWays, part 1. -/
import Derived.WalkKit
import Derived.Maps.AppendAt
import Derived.Orders
import Derived.Deep.LoopGhost
import Derived.Laws.MakeOwn
import Derived.Laws.BytesArg
import Derived.Laws.StructEq
import Derived.Laws.Slices
open Decidable renaming decide → c3
open Option renaming some → c4, none → c6, bind_eq_some_iff → dd, bind_some → g4, map_none → g7
open List renaming getElem?_eq_getElem → c5, getElem?_eq_some_iff → c7, length_map → d1, getElem?_append_right → d2, getElem?_append_left → d3, mem_of_getElem? → d4, getElem?_take_of_lt → d5, eq_nil_of_length_eq_zero → d7, getElem?_map → d8, getElem?_drop → d9, getElem?_set_self → dk, getElem_of_mem → dT, getElem?_set_ne → e5, append_assoc → ea, length_append → ec, length_take → ef, getElem?_take → eE, all_eq_true → eH, getElem?_range → f2, replicate → f6, getElem?_eq_none → f8, eq_of_mem_replicate → g0, take_of_length_le → g6, length_drop → ge, map_drop → gv, map_take → gx, mem_singleton → h5, size_toArray → h9, getElem?_toArray → hq, mem_cons_of_mem → hB, length_nil → hD, flatMap_cons → hY, map_cons → i3, mem_cons → i4, range → i8, mem_map → i9
open Go.Op renaming operands → d0, equalIn → gy, binOp → hP, equal → i5
open Nat renaming beq → d6, le_refl → dt, le_of_ble_eq_true → dv, add_mul → e0, mul_le_mul_right → e4, le_mul_of_pos_right → ei, zero_add → ev, eq_of_beq_eq_true → ez, le_trans → f4, ble → f9, succ_eq_add_one → g3, one_mul → g5, add_assoc → g9, add_sub_cancel_left → h6, beq_refl → h7, add_zero → hI, mul_comm → hK, succ_pos → hL, lt_of_lt_of_le → hM, blt → hQ
open Go.Result renaming andThen_ok → e6
open Array renaming getElem?_toList → ee, length_toList → ey, mem_toList_iff → fe, getD_eq_getD_getElem? → ga, toArray_toList → gc, getElem?_eq_none → h8
open Go.Sem renaming run_bind → ej, run_pure → f5
open Go.RowKit.Below renaming heap_alloc → eo
open Go.Addr renaming add_lit → f1
open Go.Instr renaming sureAddr → f7, sliceBounds → gb, sliceAt → gt, sliceBound → hu, fill → hz, slice → hU, loadAt → i7
open Go.Builtin renaming append_ → fd, zeroCells → hS
open Go.Call renaming operands → ft
open Go.Region renaming wanted → g8
open Option.some renaming injEq → hX
open Go.Oper renaming wp → i6
namespace Go.Aml
open Go
theorem qQ{b c:Type}{a:Option b}{d:b->Option c}{r:c}(f:a.bind d=c4 r):∃e,a=c4 e/\d e=c4 r:=dd.1 f
def aj{a:Type}(b:List a)(i:Int):Option a:=if 0<=i then b[i.toNat]? else c6
theorem xd{c:Type}{b:List c}{i:Int}{d:c}(a:aj b i=c4 d):i=(i.toNat:Int)/\b[i.toNat]? =c4 d:=by
 unfold aj at a
 split at a
 ·exact⟨by omega,a⟩
 ·cases a
def eG{c:Type}(d:List c)(a b:Int):Option (List c):=if 0<=a/\a<=b/\b<=(d.length:Int) then c4 ((d.take b.toNat).drop a.toNat) else c6
theorem Kt{e:Type}{l:List e}{a b:Int}{d:List e}(h:eG l a b=c4 d):0<=a/\a<=b/\b<=(l.length:Int)/\(l.take b.toNat).drop a.toNat=d:=by
 unfold eG at h
 split at h
 ·rename_i c;exact⟨c.1,c.2.1,c.2.2,by injection h⟩
 ·cases h
def ph(a:IntKind)(c b:Int):Option Int:=if b=0 then c6 else c4 (a.wrap (c.tdiv b))
theorem agK{c:IntKind}{d b r:Int}(a:ph c d b=c4 r):b≠0/\c.wrap (d.tdiv b)=r:=by
 unfold ph at a
 split at a
 ·cases a
 ·rename_i e;exact⟨e,by injection a⟩
def nG(a b:Int):Option Int:=if b=0 then c6 else c4 (a.tmod b)
theorem Yg{c b r:Int}(a:nG c b=c4 r):b≠0/\c.tmod b=r:=by
 unfold nG at a
 split at a
 ·cases a
 ·rename_i d;exact⟨d,by injection a⟩
def uU(a:IntKind)(c b:Int):Option Int:=if 0<=b then c4 (a.wrap (c*2^ (min b.toNat a.bits))) else c6
theorem alN{c:IntKind}{d b r:Int}(a:uU c d b=c4 r):0<=b/\c.wrap (d*2^ (min b.toNat c.bits))=r:=by
 unfold uU at a
 split at a
 ·rename_i e;exact⟨e,by injection a⟩
 ·cases a
def iN(a:IntKind)(c b:Int):Option Int:=if 0<=b then c4 (c.fdiv (2^ (min b.toNat a.bits))) else c6
theorem adR{c:IntKind}{d b r:Int}(a:iN c d b=c4 r):0<=b/\d.fdiv (2^ (min b.toNat c.bits))=r:=by
 unfold iN at a
 split at a
 ·rename_i e;exact⟨e,by injection a⟩
 ·cases a
def bj{c:Type}(d:Nat)(a b:List c):Option (List c):=if(a.length+b.length)*d<=140737488355328 then c4 (a++b) else c6
theorem AN{g:Type}{d:Nat}{c b e:List g}(a:bj d c b=c4 e):(c.length+b.length)*d<=140737488355328/\c++b=e:=by
 unfold bj at a
 split at a
 ·rename_i f;exact⟨f,by injection a⟩
 ·cases a
def gP{b:Type}(c:Nat)(z:b)(a:Int):Option (List b):=if 0<=a/\a.toNat*c<=140737488355328 then c4 (f6 a.toNat z) else c6
theorem SF{e:Type}{d:Nat}{z:e}{a:Int}{c:List e}(b:gP d z a=c4 c):a=(a.toNat:Int)/\a.toNat*d<=140737488355328/\f6 a.toNat z=c:=by
 unfold gP at b
 split at b
 ·rename_i f;exact⟨by omega,f.2,by injection b⟩
 ·cases b
def fY{a b:Type}(f:a->Option (a⊕b)):Nat->a->Option b
 |0,_=>c6
 |e+1,c=>(f c).bind λd=>d.elim (fY f e) c4
theorem RC{d g:Type}{f:d->Option (d⊕g)}:∀{n:Nat} {c:d} {b:g},fY f n c=c4 b->fY f (n+1) c=c4 b
 |0,_,_,a=>by simp[fY] at a
 |n+1,c,b,a=>by
  unfold fY at a⊢;obtain⟨h,i,e⟩:=qQ a;rw[i];cases h with
  |inl k=>exact RC (n:=n) e
  |inr j=>exact e
theorem Sn{a e:Type}{f:a->Option (a⊕e)}{g c:Nat}{d:a}{b:e}(h:fY f g d=c4 b)(i:g<=c):fY f c d=c4 b:=by
 induction i with
 |refl=>exact h
 |step _ j=>exact RC j
noncomputable def bO{a c:Type}(f:a->Option (a⊕c))(b:a):Option c:=
 open Classical in if d:∃e,(fY f e b).isSome then fY f d.choose b else c6
theorem Cd{d i:Type}{f:d->Option (d⊕i)}{n:Nat}{c:d}{b:i}(g:fY f n c=c4 b):bO f c=c4 b:=by
 have a:∃n,(fY f n c).isSome:=⟨n,by rw[g];rfl⟩;unfold bO;rw[dif_pos a];obtain⟨k,e⟩:=Option.isSome_iff_exists.1 a.choose_spec;rw[e];have j:=Sn g (Nat.le_max_left n a.choose);have h:=Sn e (Nat.le_max_right n a.choose);rw[j] at h;exact h.symm
theorem zR{c e:Type}{f:c->Option (c⊕e)}{d:c}{b:e}(a:bO f d=c4 b):∃g,fY f g d=c4 b:=by
 unfold bO at a
 split at a
 ·exact⟨_,a⟩
 ·cases a
theorem Qk{i m:Type}(f:i->Option (i⊕m))(e:i):bO f e=(f e).bind λa=>a.elim (bO f) c4:=by
 have k:∀b,bO f e=c4 b↔((f e).bind λa=>a.elim (bO f) c4)=c4 b:=by
  intro b
  constructor
  ·intro c;obtain⟨n,g⟩:=zR c;cases n with
   |zero=>simp[fY] at g
   |succ n=>
    unfold fY at g;obtain⟨a,h,d⟩:=qQ g;rw[h];cases a with
    |inl j=>exact Cd (n:=n) d
    |inr l=>exact d
  ·intro c;obtain⟨a,h,d⟩:=qQ c;cases a with
   |inl j=>
    obtain⟨n,g⟩:=zR (show bO f j=c4 b from d);refine Cd (n:=n+1) ?_
    unfold fY;rw[h];exact g
   |inr l=>
    refine Cd (n:=1) ?_
    unfold fY;rw[h];exact d
 cases c:bO f e with
 |none=>
  cases d:(f e).bind λa=>a.elim (bO f) c4 with
  |none=>rfl
  |some b=>rw[(k b).2 d] at c;cases c
 |some b=>exact((k b).1 c).symm
structure Lp where
 loop:{α β:Type}->(α->Option (α⊕β))->α->Option β
 ok:∀{α β:Type} (f:α->Option (α⊕β)) (a:α) (b:β),loop f a=c4 b->∃n,fY f n a=c4 b
@[reducible] noncomputable def LC:Lp:=⟨bO,λ_ _ _ a=>zR a⟩
@[reducible] def LN(a:Nat):Lp:=⟨λf c=>fY f a c,λ_ _ _ b=>⟨a,b⟩⟩
end Go.Aml
namespace Go.Bml
open Go
inductive PV:Type where
 |any
 |bool (b:Bool)
 |int (k:IntKind) (n:Int)
 |str (s:ByteArray)
 |fS
 |ptr (r v i j:Nat)
 |dw (cs:List PV) (j:Nat)
 |bg
 |z0
 |vs (sz:Nat) (es:List PV)
 |sl (r v off len:Nat)
 |fl (r v:Nat)
 |agg (cs:List PV)
 |bu (vs:List PV)
 |fn (f:Nat) (first cap:List PV)
 |dB
 deriving Inhabited
def PV.cells:PV->List PV
 | .agg a=>a
 |v=>[v]
def cellOf(a:List PV)(i b:Nat):Option PV:=(a[i]?).bind λc=>c.cells[b]?
structure aO where
 ty:Nat
 sz:Nat
 es:List PV
 aF:Nat
structure Gh where
 F:Nat->Prop
 β:Nat->Option (Nat×Nat)
inductive VI (F:Nat->Prop) (w:World):PV->Value->Prop
 |any (x:Value):VI F w .any x
 |bool (b:Bool):VI F w (.bool b) (.bool b)
 |int (k:IntKind) (n:Int):VI F w (.int k n) (.int k n)
 |str (s:ByteArray):VI F w (.str s) (.string s)
 |fS:VI F w .fS (.pointer c6)
 |bg:VI F w .bg (.slice c6 0 0)
 |z0 (a:Option Addr):VI F w .z0 (.slice a 0 0)
 |dB:VI F w .dB .nilFunc
 |dw (cs:List PV) (j b off:Nat) (u:Nat->Value) (hF:F b)
  (hc:∀(i:Nat) (c:PV),cs[i]? =c4 c->w.cell? ⟨b,off+i,c6⟩=c4 (u i))
  (h1:∀(i:Nat) (c:PV),cs[i]? =c4 c->(u i).oneCell'=true)
  (hv:∀(i:Nat) (c:PV),cs[i]? =c4 c->VI F w c (u i)):VI F w (.dw cs j) (.pointer (c4 ⟨b,off+j,c6⟩))
 |eX (sz:Nat) (a:Option Addr) (cap:Nat):VI F w (.vs sz []) (.slice a 0 cap)
 |vs (sz:Nat) (es:List PV) (b off cap:Nat) (u:Nat->Nat->Value) (hl:es.length<=cap) (hF:F b)
  (hsz:∀(i:Nat) (e:PV),es[i]? =c4 e->e.cells.length=sz)
  (hc:∀(i j:Nat) (c:PV),cellOf es i j=c4 c->w.cell? ⟨b,off+(i*sz+j),c6⟩=c4 (u i j))
  (h1:∀(i j:Nat) (c:PV),cellOf es i j=c4 c->(u i j).oneCell'=true)
  (hv:∀(i j:Nat) (c:PV),cellOf es i j=c4 c->VI F w c (u i j)):VI F w (.vs sz es) (.slice (c4 ⟨b,off,c6⟩) es.length cap)
 |agg (cs:List PV) (xs:List Value) (hl:cs.length=xs.length) (hv:∀(i:Nat) (c:PV) (x:Value),cs[i]? =c4 c->xs[i]? =c4 x->VI F w c x):VI F w (.agg cs) (.agg xs.toArray)
 |bu (cs:List PV) (xs:List Value) (hl:cs.length=xs.length) (hv:∀(i:Nat) (c:PV) (x:Value),cs[i]? =c4 c->xs[i]? =c4 x->VI F w c x):VI F w (.bu cs) (.tuple xs.toArray)
 |fn (f:Nat) (cs ds:List PV) (xs ys:List Value) (hl:cs.length=xs.length) (hv:∀(i:Nat) (c:PV) (x:Value),cs[i]? =c4 c->xs[i]? =c4 x->VI F w c x)
  (hl2:ds.length=ys.length) (hv2:∀(i:Nat) (c:PV) (x:Value),ds[i]? =c4 c->ys[i]? =c4 x->VI F w c x):VI F w (.fn f cs ds) (.func (.func f) xs.toArray ys.toArray)
def SL(g:Gh)(d:aO)(r c len:Nat)(e:Value):Prop:=
 c+len<=d.es.length/\
 match g.β r with
 |none=>c=0/\len=0/\∃a,e= .slice a 0 0
 |some (b,f)=>∃cap a,e= .slice a len cap/\len<=cap/\(len≠0->a=c4 ⟨b,c*d.sz,c6⟩)/\(c=0->a=c4 ⟨b,0,c6⟩/\cap=f)
inductive VR (g:Gh) (H:List aO) (w:World):PV->Value->Prop
 |aW {c:PV} {x:Value} (h:VI g.F w c x):VR g H w c x
 |ptr (r v i j:Nat) (o:aO) (a:Addr) (ho:H[r]? =c4 o) (hv:v<=o.aF)
  (ha:v=o.aF->i<o.es.length/\∃b C,g.β r=c4 (b,C)/\a=⟨b,i*o.sz+j,c6⟩):VR g H w (.ptr r v i j) (.pointer (c4 a))
 |sl (r v off len:Nat) (o:aO) (x:Value) (ho:H[r]? =c4 o) (hv:v<=o.aF) (h1:x.oneCell'=true) (hx:v=o.aF->SL g o r off len x):VR g H w (.sl r v off len) x
 |fl (r v:Nat) (o:aO) (x:Value) (ho:H[r]? =c4 o) (hv:v<=o.aF) (h1:x.oneCell'=true) (hx:v=o.aF->SL g o r 0 o.es.length x):VR g H w (.fl r v) x
 |agg (cs:List PV) (xs:List Value) (hl:cs.length=xs.length) (hv:∀(i:Nat) (c:PV) (x:Value),cs[i]? =c4 c->xs[i]? =c4 x->VR g H w c x):VR g H w (.agg cs) (.agg xs.toArray)
 |bu (cs:List PV) (xs:List Value) (hl:cs.length=xs.length) (hv:∀(i:Nat) (c:PV) (x:Value),cs[i]? =c4 c->xs[i]? =c4 x->VR g H w c x):VR g H w (.bu cs) (.tuple xs.toArray)
 |fn (f:Nat) (cs ds:List PV) (xs ys:List Value) (hl:cs.length=xs.length) (hv:∀(i:Nat) (c:PV) (x:Value),cs[i]? =c4 c->xs[i]? =c4 x->VR g H w c x)
  (hl2:ds.length=ys.length) (hv2:∀(i:Nat) (c:PV) (x:Value),ds[i]? =c4 c->ys[i]? =c4 x->VR g H w c x):VR g H w (.fn f cs ds) (.func (.func f) xs.toArray ys.toArray)
inductive cE (n:Nat):PV->Prop
 |any:cE n .any
 |bool (b:Bool):cE n (.bool b)
 |int (k:IntKind) (m:Int):cE n (.int k m)
 |str (s:ByteArray):cE n (.str s)
 |fS:cE n .fS
 |bg:cE n .bg
 |z0:cE n .z0
 |dB:cE n .dB
 |dw (cs:List PV) (j:Nat):cE n (.dw cs j)
 |vs (sz:Nat) (es:List PV):cE n (.vs sz es)
 |ptr (r v i j:Nat) (h:r<n):cE n (.ptr r v i j)
 |sl (r v off len:Nat) (h:r<n):cE n (.sl r v off len)
 |fl (r v:Nat) (h:r<n):cE n (.fl r v)
 |agg (cs:List PV) (h:∀c,c∈cs->cE n c):cE n (.agg cs)
 |bu (cs:List PV) (h:∀c,c∈cs->cE n c):cE n (.bu cs)
 |fn (f:Nat) (cs ds:List PV) (h:∀c,c∈cs->cE n c) (h2:∀c,c∈ds->cE n c):cE n (.fn f cs ds)
structure qT (g:Gh) (H:List aO) (w:World) (r:Nat) (o:aO):Prop where
 pos:0<o.sz
 width:∀(i:Nat) (e:PV),o.es[i]? =c4 e->e.cells.length=o.sz
 mem:match g.β r with
  |none=>o.es=[]
  |some (b,C)=>¬g.F b/\∃cells,w.heap[b]? =c4 (.cells cells o.ty (0,0))/\cells.size=C*o.sz/\C<=maxLen/\o.es.length<=C/\
   ∀(i j:Nat) (c:PV),cellOf o.es i j=c4 c->∃u,cells[i*o.sz+j]? =c4 u/\u.oneCell'=true/\VR g H w c u
structure bF (g:Gh) (H:List aO) (w:World):Prop where
 fb:∀b,g.F b->b<w.heap.size
 inj:∀r r' b C C',g.β r=c4 (b,C)->g.β r'=c4 (b,C')->r=r'
 m8:∀r b C,g.β r=c4 (b,C)->r<H.length
 obj:∀r o,H[r]? =c4 o->qT g H w r o
abbrev Env:=List (Nat×PV)
def look:Env->Nat->PV
 |[],_=>.any
 |(b,v)::r,a=>bif d6 b a then v else look r a
def jq:Value->PV
 | .bool b=>.bool b
 | .int d c=>.int d c
 | .string a=>.str a
 | .pointer c6=>.fS
 | .slice c6 0 0=>.bg
 | .nilFunc=>.dB
 |_=>.any
def kP:Value->PV
 | .agg a=>.agg (a.toList.map jq)
 |v=>jq v
def PE(b:Env):Operand->PV
 | .tmp a=>look b a
 | .const v=>kP v
 | .global _=>.any
 | .func f=>.fn f [] []
structure fI (g:Gh) (H:List aO) (w:World) (nt:Nat) (E:Env) (a:Act):Prop where
 defers:a.defers=[]
 size:a.tmps.size=nt
 at_:∀t,VR g H w (look E t) (a.tmps.getD t undef)
structure Rel (g:Gh) (nt:Nat) (E:Env) (H:List aO) (a:Act) (w:World):Prop where
 m:bF g H w
 e:fI g H w nt E a
structure GStep (n:Nat) (g:Gh) (H:List aO) (w:World) (g':Gh) (H':List aO) (w':World):Prop where
 os:w'.os=w.os
 tape:w'.tape=w.tape
 output:w'.output=w.output
 size:w.heap.size<=w'.heap.size
 F:∀b,g.F b->g'.F b
 jh:∀b,g.F b->w'.heap[b]? =w.heap[b]?
 rest:∀b,b<w.heap.size->(∀r C,g.β r≠c4 (b,C))->w'.heap[b]? =w.heap[b]?
 oY:∀b,g'.F b->g.F b\/w.heap.size<=b\/∃r C,g.β r=c4 (b,C)
 oZ:∀r b C,g'.β r=c4 (b,C)->w.heap.size<=b\/∃r' C',g.β r'=c4 (b,C')
 dF:∀r o,r<n->H[r]? =c4 o->∃o',H'[r]? =c4 o'/\o.aF<=o'.aF/\(o'.aF=o.aF->o'.sz=o.sz/\o'.es.length=o.es.length/\g'.β r=g.β r)
theorem GStep.refl(n:Nat)(g:Gh)(H:List aO)(a:World):GStep n g H a g H a:=
 ⟨rfl,rfl,rfl,dt _,λ_ h=>h,λ_ _=>rfl,λ_ _ _=>rfl,λ_ h=>.inl h,λr _ C h=>.inr ⟨r,C,h⟩,λ_ c _ h=>⟨c,h,dt _,λ_=>⟨rfl,rfl,rfl⟩⟩⟩
theorem GStep.trans{n:Nat}{g j A:Gh}{H m u:List aO}{x w' y:World}(h:GStep n g H x j m w')(k:GStep n j m w' A u y):GStep n g H x A u y:=by
 refine⟨k.os.trans h.os,k.tape.trans h.tape,k.output.trans h.output,f4 h.size k.size,λb c=>k.F b (h.F b c),λb c=>(k.jh b (h.F b c)).trans (h.jh b c),λb c l=>?_,λb c=>?_,λr b C c=>?_,?_⟩
 ·refine(k.rest b (hM c h.size) λr C R=>?_).trans (h.rest b c l)
  rcases h.oZ r b C R with a |⟨e,w,a⟩
  ·omega
  ·exact l _ _ a
 ·rcases k.oY b c with a |a |⟨r,C,a⟩
  ·exact h.oY b a
  ·exact .inr (.inl (f4 h.size a))
  ·exact .inr (h.oZ r b C a)
 ·rcases k.oZ r b C c with a |⟨e,w,a⟩
  ·exact .inl (f4 h.size a)
  ·exact h.oZ e b w a
 intro r t s F;obtain⟨d,E,G,J⟩:=h.dF r t s F;obtain⟨o,O,K,N⟩:=k.dF r d s E;refine⟨o,O,f4 G K,λhe=>?_⟩
 have M:d.aF=t.aF:=by omega
 have B:o.aF=d.aF:=by omega
 obtain⟨a1,P,Q⟩:=J M;obtain⟨L,D,I⟩:=N B;exact⟨L.trans a1,D.trans P,I.trans Q⟩
theorem GStep.less{n m:Nat}{g a:Gh}{H d:List aO}{c w':World}(h:GStep n g H c a d w')(l:m<=n):GStep m g H c a d w':=
 ⟨h.os,h.tape,h.output,h.size,h.F,h.jh,h.rest,h.oY,h.oZ,λr j k e=>h.dF r j (by omega) e⟩
theorem GStep.every{n:Nat}{g a:Gh}{H e:List aO}{c w':World}(h:GStep H.length g H c a e w'):GStep n g H c a e w':=
 ⟨h.os,h.tape,h.output,h.size,h.F,h.jh,h.rest,h.oY,h.oZ,λr j _ d=>h.dF r j (c7.1 d).1 d⟩
theorem oW{f:Nat->Prop}{e d:World}(g:∀b,f b->d.heap[b]? =e.heap[b]?){b c:Nat}(h:f b):d.cell? ⟨b,c,c6⟩=e.cell? ⟨b,c,c6⟩:=
 World.cell?_of_block (a:=⟨b,c,c6⟩) (g b h)
theorem VI.mono{F G:Nat->Prop}{w C:World}(D:∀b,F b->G b)(E:∀b,F b->C.heap[b]? =w.heap[b]?){c:PV}{x:Value}(h:VI F w c x):VI G C c x:=by
 induction h with
 |any x=>exact .any x
 |bool b=>exact .bool b
 |int k n=>exact .int k n
 |str s=>exact .str s
 |fS=>exact .fS
 |bg=>exact .bg
 |z0 a=>exact .z0 a
 |dB=>exact .dB
 |dw j y b off A m B u o d=>exact .dw j y b off A (D b m) (λi c t=>(oW E m).trans (B i c t)) u d
 |eX sz a cap=>exact .eX sz a cap
 |vs sz es b off cap A e m J B u o d=>exact .vs sz es b off cap A e (D b m) J (λi y c t=>(oW E m).trans (B i y c t)) u d
 |agg j l e o d=>exact .agg j l e d
 |bu j l e o d=>exact .bu j l e d
 |fn f j I l K e o H M d L=>exact .fn f j I l K e d H L
theorem SL.step{g d:Gh}{c a:aO}{r off len:Nat}{x:Value}(h:SL g c r off len x)(k:a.sz=c.sz)(j:a.es.length=c.es.length)(e:d.β r=g.β r):SL d a r off len x:=by
 unfold SL at*;rw[k,j,e];exact h
theorem VR.step{n:Nat}{g g':Gh}{H O:List aO}{w N:World}(B:GStep n g H w g' O N){c:PV}{x:Value}(h:VR g H w c x)(l:cE n c):VR g' O N c x:=by
 induction h with
 |aW h=>exact .aW (h.mono B.F B.jh)
 |ptr r v i T o a y k U=>
  cases l with
  |ptr _ _ _ _ G=>
   obtain⟨m,u,D,t⟩:=B.dF r o G y;refine .ptr r v i T m a u (f4 k D) λe=>?_
   have W:m.aF=o.aF:=by omega
   obtain⟨F,K,A⟩:=t W;obtain⟨Y,b,C,S,rfl⟩:=U (by omega);exact⟨by omega,b,C,A.trans S,by rw[F]⟩
 |sl r v off len o x y k M d=>
  cases l with
  |sl _ _ _ _ G=>
   obtain⟨m,u,D,t⟩:=B.dF r o G y;refine .sl r v off len m x u (f4 k D) M λe=>?_
   obtain⟨F,K,A⟩:=t (by omega);exact(d (by omega)).step F K A
 |fl r v o x y k M d=>
  cases l with
  |fl _ _ G=>
   obtain⟨m,u,D,t⟩:=B.dF r o G y;refine .fl r v m x u (f4 k D) M λe=>?_
   obtain⟨F,K,A⟩:=t (by omega);rw[K];exact(d (by omega)).step F K A
 |agg I s E k J=>
  cases l with
  |agg _ L=>exact .agg I s E λi c x j d=>J i c x j d (L c (d4 j))
 |bu I s E k J=>
  cases l with
  |bu _ L=>exact .bu I s E λi c x j d=>J i c x j d (L c (d4 j))
 |fn f I R s V E k Q Z J X=>
  cases l with
  |fn _ _ _ L P=>exact .fn f I R s V E (λi c x j d=>J i c x j d (L c (d4 j))) Q (λi c x j d=>X i c x j d (P c (d4 j)))
theorem VR.ltN{g:Gh}{H:List aO}{w:World}{c:PV}{x:Value}(h:VR g H w c x):cE H.length c:=by
 induction h with
 |aW h=>
  induction h with
  |any x=>exact .any
  |bool b=>exact .bool b
  |int k n=>exact .int k n
  |str s=>exact .str s
  |fS=>exact .fS
  |bg=>exact .bg
  |z0 a=>exact .z0
  |dB=>exact .dB
  |dw j B b off J G d A m l=>exact .dw j B
  |eX sz a cap=>exact .vs sz []
  |vs sz es b off cap J o G L d A m l=>exact .vs sz es
  |agg j t o m l=>
   refine .agg j λc d=>?_
   obtain⟨i,e,rfl⟩:=dT d;exact l i _ _ (c5 e) (c5 (by omega))
  |bu j t o m l=>
   refine .bu j λc d=>?_
   obtain⟨i,e,rfl⟩:=dT d;exact l i _ _ (c5 e) (c5 (by omega))
  |fn f j y t I o m E F l C=>
   refine .fn f j y (λc d=>?_) (λc d=>?_)
   ·obtain⟨i,e,rfl⟩:=dT d;exact l i _ _ (c5 e) (c5 (by omega))
   ·obtain⟨i,e,rfl⟩:=dT d;exact C i _ _ (c5 e) (c5 (by omega))
 |ptr r v i B D a u m M=>exact .ptr r v i B (c7.1 u).1
 |sl r v off len D x u m A K=>exact .sl r v off len (c7.1 u).1
 |fl r v D x u m A K=>exact .fl r v (c7.1 u).1
 |agg j t o m l=>
  refine .agg j λc d=>?_
  obtain⟨i,e,rfl⟩:=dT d;exact l i _ _ (c5 e) (c5 (by omega))
 |bu j t o m l=>
  refine .bu j λc d=>?_
  obtain⟨i,e,rfl⟩:=dT d;exact l i _ _ (c5 e) (c5 (by omega))
 |fn f j y t I o m E F l C=>
  refine .fn f j y (λc d=>?_) (λc d=>?_)
  ·obtain⟨i,e,rfl⟩:=dT d;exact l i _ _ (c5 e) (c5 (by omega))
  ·obtain⟨i,e,rfl⟩:=dT d;exact C i _ _ (c5 e) (c5 (by omega))
theorem VR.nZ{g g':Gh}{H a:List aO}{w d:World}(e:GStep H.length g H w g' a d){c:PV}{x:Value}(h:VR g H w c x):VR g' a d c x:=h.step e h.ltN
theorem fI.step{g k:Gh}{H c:List aO}{j d:World}{e:Nat}{E:Env}{a:Act}(l:GStep H.length g H j k c d)(h:fI g H j e E a):fI k c d e E a:=
 ⟨h.defers,h.size,λt=>(h.at_ t).nZ l⟩
theorem VR.any{g:Gh}{H:List aO}{w:World}(x:Value):VR g H w .any x:=.aW (.any x)
theorem KQ(a:Nat->Prop)(b:World)(v:Value):VI a b (jq v) v:=by
 unfold jq
 split <;> first |exact .bool _ |exact .int _ _ |exact .str _ |exact .fS |exact .bg |exact .dB |exact .any _
theorem AE(F:Nat->Prop)(w:World)(v:Value):VI F w (kP v) v:=by
 unfold kP
 split
 ·rename_i b;have:=VI.agg (F:=F) (w:=w) (b.toList.map jq) b.toList (by simp) (λi e d a c=>by
   rw[d8,c] at a;simp at a;subst a;exact KQ F w d)
  simpa using this
 ·exact KQ F w v
theorem fI.eval{g:Gh}{H:List aO}{c:World}{d:Nat}{E:Env}{a:Act}(h:fI g H c d E a)(x:Operand):VR g H c (PE E x) (a.eval x):=by
 cases x with
 |tmp t=>exact h.at_ t
 |const v=>exact .aW (AE _ _ _)
 |global b=>exact .any _
 |func f=>exact .aW (.fn f [] [] [] [] rfl (λ_ _ _ h=>by simp at h) rfl (λ_ _ _ h=>by simp at h))
theorem ni(a:Nat)(v:PV)(b:Env):look ((a,v)::b) a=v:=by simp[look]
theorem Ar{b a:Nat}(v:PV)(c:Env)(d:b≠a):look ((b,v)::c) a=look c a:=by
 have:d6 b a=false:=by
  cases e:d6 b a with
  |false=>rfl
  |true=>exact absurd (ez e) d
 simp[look,this]
theorem fI.put{g:Gh}{H:List aO}{e:World}{c:Nat}{E:Env}{a:Act}(h:fI g H e c E a){d:Nat}(j:d<c){v:PV}{x:Value}(l:VR g H e v x):fI g H e c ((d,v)::E) (a.put (c4 d) x):=by
 refine⟨h.defers,by simp[Act.put,h.size],λt=>?_⟩
 by_cases ht:d=t
 ·subst ht;rw[ni];have k:d<a.tmps.size:=by rw[h.size];exact j
  simpa[Act.put,k] using l
 ·rw[Ar v E ht];have:=h.at_ t;simpa[Act.put,Array.getElem?_setIfInBounds_ne ht] using this
def li(a:Env):Option Nat->PV->Env
 |some b,v=>(b,v)::a
 |none,_=>a
def fL(b:Nat):Option Nat->Bool
 |some a=>hQ a b
 |none=>true
theorem fI.tn{g:Gh}{H:List aO}{c:World}{e:Nat}{E:Env}{a:Act}(h:fI g H c e E a){d:Option Nat}(k:fL e d=true){v:PV}{x:Value}(j:VR g H c v x):fI g H c e (li E d v) (a.put d x):=by
 cases d with
 |none=>exact h
 |some d=>exact h.put (by simpa[fL] using k) j
def vo:Env->Env->Prop
 |[],_=>True
 |(b,v)::r,a=>look a b=v/\vo r a
theorem vo.look{a E:Env}(h:vo a E)(t:Nat):look a t= .any\/look a t=look E t:=by
 induction a with
 |nil=>exact .inl rfl
 |cons p r e=>
  obtain⟨d,v⟩:=p
  by_cases c:d=t
  ·subst c;rw[ni];exact .inr h.1.symm
  ·rw[Ar v r c];exact e h.2
theorem fI.sub{g:Gh}{H:List aO}{c:World}{j:Nat}{E d:Env}{a:Act}(h:fI g H c j E a)(k:vo d E):fI g H c j d a:=
 ⟨h.defers,h.size,λt=>by
  rcases k.look t with e |e
  ·rw[e];exact .any _
  ·rw[e];exact h.at_ t⟩
abbrev qk:=Env->List aO->Prop
abbrev fE:=Exit->qk
def iX(nt n:Nat)(e:Gh)(H0:List aO)(c:World)(b:qk)(d:Act)(a:World):Prop:=
 ∃E H g,b E H/\Rel g nt E H d a/\GStep n e H0 c g H a
def eI(nt n:Nat)(d:Gh)(H0:List aO)(c:World)(Q:fE):Exit->Act->World->Prop
 | .panic _,_,_=>False
 | .outgrown,_,_=>False
 | .normal,b,a=>iX nt n d H0 c (Q .normal) b a
 | .ret,b,a=>iX nt n d H0 c (Q .ret) b a
 | .exit f,b,a=>iX nt n d H0 c (Q (.exit f)) b a
 | .goto e,b,a=>iX nt n d H0 c (Q (.goto e)) b a
theorem iX.trans{nt n:Nat}{k l:Gh}{H0 H1:List aO}{e j:World}{c:qk}{a:Act}{d:World}(t:GStep n k H0 e l H1 j)(h:iX nt n l H1 j c a d):iX nt n k H0 e c a d:=by
 obtain⟨E,H,g,s,m,o⟩:=h;exact⟨E,H,g,s,m,t.trans o⟩
theorem eI.trans{nt n:Nat}{k l:Gh}{H0 H1:List aO}{d j:World}{Q:fE}{e:Exit}{a:Act}{c:World}(m:GStep n k H0 d l H1 j)(h:eI nt n l H1 j Q e a c):eI nt n k H0 d Q e a c:=by
 cases e <;> first |exact iX.trans m h |exact h
theorem iX.mono{nt n:Nat}{j:Gh}{H0:List aO}{e:World}{c k:qk}{a:Act}{d:World}(s:∀E H,c E H->k E H)(h:iX nt n j H0 e c a d):iX nt n j H0 e k a d:=by
 obtain⟨E,H,g,l,m,o⟩:=h;exact⟨E,H,g,s _ _ l,m,o⟩
def eT(P:Program)(nt n:Nat)(h:Code)(Q:fE)(E:Env)(H:List aO):Prop:=
 ∀g f a,Rel g nt E H f a->∀b:Exit->Act->World->Prop,(∀d e c,eI nt n g H a Q d e c->b d e c)->h.wp P b f a
def gp(P:Program)(nt n:Nat)(h:Array Oper)(i:List Oper)(Q:fE)(E:Env)(H:List aO):Prop:=
 ∀g f a,Rel g nt E H f a->∀b:Exit->Act->World->Prop,(∀d e c,eI nt n g H a Q d e c->b d e c)->wpList P h b i f a
@[reducible] def Ce(c:qk)(Q:fE):fE
 | .normal=>c
 | .exit d=>Q (.exit d)
 | .goto b=>Q (.goto b)
 | .ret=>Q .ret
 | .panic a=>Q (.panic a)
 | .outgrown=>Q .outgrown
@[reducible] def EY(d:Nat)(Q:fE):fE
 | .exit a=>bif d6 a d then Q .normal else Q (.exit a)
 | .normal=>Q .normal
 | .goto c=>Q (.goto c)
 | .ret=>Q .ret
 | .panic b=>Q (.panic b)
 | .outgrown=>Q .outgrown
section
variable {P : Program} {nt n : Nat} {Q : fE} {E : Env} {H : List aO}
theorem eT.mono{c:Code}{j:fE}(l:∀e E H,Q e E H->j e E H)(h:eT P nt n c Q E H):eT P nt n c j E H:=
 λg a t o k u=>h g a t o k λe s m d=>u e s m (by cases e <;> first |exact iX.mono (l _) d |exact d)
theorem rN{e d:Code}(j:eT P nt n e (Ce (eT P nt n d Q) Q) E H):eT P nt n (.seq e d) Q E H:=by
 intro g m t p s b;refine wp_seq (j g m t p _ ?_)
 intro c k f a;cases c with
 |normal=>
  obtain⟨y,w,i,q,r,l⟩:=a;exact q i k f r s λc h u o=>b c h u (eI.trans l o)
 |exit z=>exact b _ _ _ a
 |goto v=>exact b _ _ _ a
 |ret=>exact b _ _ _ a
 |panic x=>exact a.elim
 |outgrown=>exact a.elim
theorem amF(a:Q .normal E H):eT P nt n .skip Q E H:=
 λg _ _ c _ b=>wp_skip (b .normal _ _ ⟨E,H,g,a,c,GStep.refl _ _ _ _⟩)
theorem apz(a:Q .ret E H):eT P nt n .ret Q E H:=
 λg _ _ c _ b=>wp_ret (b .ret _ _ ⟨E,H,g,a,c,GStep.refl _ _ _ _⟩)
theorem V4{a:Nat}(b:Q (.exit a) E H):eT P nt n (.exit a) Q E H:=
 λg _ _ d _ c=>wp_exit (c (.exit a) _ _ ⟨E,H,g,b,d,GStep.refl _ _ _ _⟩)
theorem agH{c:Nat}(a:Q .normal E H):eT P nt n (.label c) Q E H:=
 λg _ _ d _ b=>wp_label (b .normal _ _ ⟨E,H,g,a,d,GStep.refl _ _ _ _⟩)
theorem aht{b:Code}(c:Env)(j:vo c E)(d:eT P nt n b Q c H):eT P nt n b Q E H:=
 λg h f a e i=>d g h f ⟨a.m,a.e.sub j⟩ e i
theorem Ta{b:Nat}{h:Code}(i:eT P nt n h (EY b Q) E H):eT P nt n (.block b h) Q E H:=by
 intro g m l j p d;refine wp_block (i g m l j _ ?_)
 intro k r q a;cases k with
 |exit c=>
  simp only[eI,EY] at a
  by_cases e:c=b
  ·have f:d6 c b=true:=by rw[e];exact h7 b
   rw[f] at a;simp only[Exit.inBlock,e,if_true];exact d .normal _ _ a
  ·have f:d6 c b=false:=by
    cases o:d6 c b with
    |false=>rfl
    |true=>exact absurd (ez o) e
   rw[f] at a;simp only[Exit.inBlock,e,if_false];exact d (.exit c) _ _ a
 |normal=>exact d _ _ _ a
 |goto s=>exact d _ _ _ a
 |ret=>exact d _ _ _ a
 |panic h=>exact a.elim
 |outgrown=>exact a.elim
theorem adk{a:Operand}{l j:Code}{b:Bool}(q:PE E a= .bool b)(r:b=true->eT P nt n l Q E H)(p:b=false->eT P nt n j Q E H):eT P nt n (.cond a l j) Q E H:=by
 intro g c i d h k;have f:=d.e.eval a;rw[q] at f;have o:c.eval a= .bool b:=by
  generalize c.eval a=z at f;cases f with
  |aW m=>cases m;rfl
 exact wp_cond_split o (λe=>r e g c i d h k) (λe=>p e g c i d h k)
theorem Lc{id:Nat}{a:List Oper}(b:gp P nt n a.toArray a Q E H):eT P nt n (.region id a.toArray false) Q E H:=
 λg f e d c h=>wp_region_lit (b g f e d c h)
theorem Of{a:Array Oper}(b:Q .normal E H):gp P nt n a [] Q E H:=
 λg e d c _ f=>wpList_nil (f .normal e d ⟨E,H,g,b,c,GStep.refl _ _ _ _⟩)
def Hk(P:Program)(nt n:Nat)(i:Oper)(h:qk)(E:Env)(H:List aO):Prop:=
 ∀g d a,Rel g nt E H d a->∀(e:Act->World->Prop) (f:Exit->Act->World->Prop),(∀c b,iX nt n g H a h c b->e c b)->i.wp P d a e f
theorem KR{h:Array Oper}{f:List Oper}{c:Oper}{K:qk}(u:c.guard=c6)(l:Hk P nt n c K E H)(t:∀b a,K b a->gp P nt n h f Q b a):gp P nt n h (c::f) Q E H:=by
 intro g o y r i A;refine wpList_plain u λs q=>l g o y r s i ?_
 rintro e d ⟨b,a,k,v,w,m⟩;exact q e d (t b a v k e d w i λx j z p=>A x j z (eI.trans m p))
def cM(P:Program)(d:Oper)(E:Env)(H:List aO)(v:PV):Prop:=
 ∀g nt b a,Rel g nt E H b a->∃c,(execOp b.eval d).run P a= .ok (.value c) a/\VR g H a v c
theorem aiu{a:Oper}{v:PV}(d:fL nt a.dst=true)(c:cM P a E H v):Hk P nt n a (λi l=>i=li E a.dst v/\l=H) E H:=by
 intro g f e b o m k;obtain⟨p,j,h⟩:=c g nt f e b;unfold i6;rw[j];exact k _ _ ⟨_,H,g,⟨rfl,rfl⟩,⟨b.m,b.e.tn d h⟩,GStep.refl _ _ _ _⟩
theorem aae{b:Array Oper}{f:List Oper}{a:Option Nat}{e:Op}{c:TypeId}{d:String}{g:Array Edge}{v:PV}(h:cM P ⟨a,e,c,d,g,c6⟩ E H v)(i:fL nt a=true)
 (j:gp P nt n b f Q (li E a v) H):gp P nt n b (⟨a,e,c,d,g,c6⟩::f) Q E H:=
 KR rfl (aiu i h) (by rintro k l ⟨rfl,rfl⟩;exact j)
theorem Sk{d:Array Oper}{q:List Oper}{e:Option Nat}{r:Op}{p:TypeId}{s:String}{m:Array Edge}{f:Nat}{j b:Bool}{a:Nat}
 (u:(d[f]?).bind (·.dst)=c4 a) (x:look E a= .bool b) (w:b≠j) (A:fL nt e=true)
 (B:gp P nt n d q Q (li E e (.bu [])) H):gp P nt n d (⟨e,r,p,s,m,c4 (f,j)⟩::q) Q E H:=by
 intro g c F i D G;have k:=i.e.at_ a;rw[x] at k;have h:c.tmps.getD a undef= .bool b:=by
  cases k with
  |aW o=>generalize c.tmps.getD a undef=z at o;cases o;rfl
 have t:yielded d c.tmps f=c4 b:=by
  unfold yielded;rw[u];simp only[g4];rcases Nat.lt_or_ge a c.tmps.size with l |y
  ·simp[l] at h;simp[l,h]
  ·simp[h8 y,undef] at h
 refine wpList_step λI C=>?_
 have v:g8 (⟨e,r,p,s,m,c4 (f,j)⟩:Oper) (yielded d c.tmps)=false:=by
  simp[g8,t];exact w
 rw[v];simp only[Bool.false_eq_true,if_false];exact C _ _ (B g _ F ⟨i.m,i.e.tn A (.aW (.bu [] [] rfl (by simp)))⟩ D G)
theorem MO{c:Array Oper}{p:List Oper}{d:Option Nat}{q:Op}{o:TypeId}{r:String}{m:Array Edge}{e:Nat}{s:Bool}{a:Nat}
 (u:(c[e]?).bind (·.dst)=c4 a) (x:look E a= .bu []) (A:fL nt d=true)
 (B:gp P nt n c p Q (li E d (.bu [])) H):gp P nt n c (⟨d,q,o,r,m,c4 (e,s)⟩::p) Q E H:=by
 intro g b F j D G;have h:=j.e.at_ a;rw[x] at h;have k:b.tmps.getD a undef= .tuple #[]:=by
  generalize b.tmps.getD a undef=z at h;cases h with
  |aW v=>
   cases v with
   |bu _ f i _=>
    have:f=[]:=d7 (by rw[<-i];rfl);rw[this]
  |bu _ f i _=>
   have:f=[]:=d7 (by rw[<-i];rfl);rw[this]
 have t:yielded c b.tmps e=c6:=by
  unfold yielded;rw[u];simp only[g4];rcases Nat.lt_or_ge a b.tmps.size with l |y
  ·simp[l] at k;simp[l,k]
  ·simp[h8 y]
 refine wpList_step λI C=>?_
 have w:g8 (⟨d,q,o,r,m,c4 (e,s)⟩:Oper) (yielded c b.tmps)=false:=by
  simp[g8,t]
 rw[w];simp only[Bool.false_eq_true,if_false];exact C _ _ (B g _ F ⟨j.m,j.e.tn A (.aW (.bu [] [] rfl (by simp)))⟩ D G)
theorem S7{c:Array Oper}{q:List Oper}{j:Option Nat}{k:Op}{i:TypeId}{l:String}{h:Array Edge}{e:Nat}{d:Bool}{b:Nat}
 (t:(c[e]?).bind (·.dst)=c4 b) (v:look E b= .bool d)
 (x:gp P nt n c (⟨j,k,i,l,h,c6⟩::q) Q E H):gp P nt n c (⟨j,k,i,l,h,c4 (e,d)⟩::q) Q E H:=by
 intro g a A r y B;have m:=r.e.at_ b;rw[v] at m;have f:a.tmps.getD b undef= .bool d:=by
  cases m with
  |aW p=>generalize a.tmps.getD b undef=z at p;cases p;rfl
 have s:yielded c a.tmps e=c4 d:=by
  unfold yielded;rw[t];simp only[g4];rcases Nat.lt_or_ge b a.tmps.size with o |w
  ·simp[o] at f;simp[o,f]
  ·simp[h8 w,undef] at f
 have u:g8 (⟨j,k,i,l,h,c4 (e,d)⟩:Oper) (yielded c a.tmps)=true:=by
  simp[g8,s]
 have:=x g a A r y B;unfold wpList at this⊢;rw[u];simp only[g8,if_true] at this⊢;exact this
def fJ(P:Program)(f:Oper)(E:Env)(H:List aO)(k:PV->List aO->Prop):Prop:=
 ∀g nt d c,Rel g nt E H d c->∀(h:Act->World->Prop) (j:Exit->Act->World->Prop),
  (∀i b e v a,k v a->VR e a b v i->bF e a b->GStep H.length g H c e a b->h (d.put f.dst i) b)->f.wp P d c h j
theorem Sz{k:Array Oper}{h:List Oper}{a:Option Nat}{j:Op}{f:TypeId}{l:String}{e:Array Edge}{K:PV->List aO->Prop}(c:fJ P ⟨a,j,f,l,e,c6⟩ E H K)(r:fL nt a=true)
 (t:∀v b,K v b->gp P nt n k h Q (li E a v) b):gp P nt n k (⟨a,j,f,l,e,c6⟩::h) Q E H:=by
 refine KR (K:=λz H1=>∃v,z=li E a v/\K v H1) rfl ?_ (by rintro _ _ ⟨v,rfl,c⟩;exact t _ _ c)
 intro g q y i s x u;refine c g nt q y i s x ?_
 intro B A o v b w m p d;exact u _ _ ⟨_,b,o,⟨v,rfl,w⟩,⟨p,(i.e.step d).tn r m⟩,d.every⟩
end
section
variable {g : Gh} {H : List aO} {w : World} {x : Value}
theorem VR.n5{b:Bool}(h:VR g H w (.bool b) x):x= .bool b:=by cases h with |aW h=>cases h;rfl
theorem VR.fQ{k:IntKind}{n:Int}(h:VR g H w (.int k n) x):x= .int k n:=by cases h with |aW h=>cases h;rfl
theorem VR.pF(h:VR g H w .bg x):x= .slice c6 0 0:=by cases h with |aW h=>cases h;rfl
theorem VR.rh(h:VR g H w .z0 x):∃a,x= .slice a 0 0:=by cases h with |aW h=>cases h;exact⟨_,rfl⟩
theorem VR.ky{l:List PV}(h:VR g H w (.agg l) x):∃a:List Value,x= .agg a.toArray/\l.length=a.length/\∀(i:Nat) (c:PV) (y:Value),l[i]? =c4 c->a[i]? =c4 y->VR g H w c y:=by
 cases h with
 |aW h=>cases h with |agg _ a j e=>exact⟨a,rfl,j,λi c y s o=>.aW (e i c y s o)⟩
 |agg _ a j e=>exact⟨a,rfl,j,e⟩
theorem VR.Db{l:List PV}(h:VR g H w (.bu l) x):∃a:List Value,x= .tuple a.toArray/\l.length=a.length/\∀(i:Nat) (c:PV) (y:Value),l[i]? =c4 c->a[i]? =c4 y->VR g H w c y:=by
 cases h with
 |aW h=>cases h with |bu _ a j e=>exact⟨a,rfl,j,λi c y s o=>.aW (e i c y s o)⟩
 |bu _ a j e=>exact⟨a,rfl,j,e⟩
theorem VR.bool(b:Bool):VR g H w (.bool b) (.bool b):=.aW (.bool b)
theorem VR.int(k:IntKind)(n:Int):VR g H w (.int k n) (.int k n):=.aW (.int k n)
end
def dP(P:Program)(t:TypeId):Option Bool:=(P.underlying t).map λ| .struct _ | .array _ _=>true |_=>false
def cH(P:Program)(t:TypeId):Option Nat:=(P.info? t).map (·.size)
def nU(P:Program)(t:TypeId)(f:Nat):Option (TypeId×Nat):=match P.underlying t with |some (.struct a)=>(a[f]?).map λx=>(x.type,x.offset) |_=>c6
def dU(P:Program)(t:TypeId):Option TypeId:=match P.underlying t with |some (.slice a)=>c4 a |_=>c6
def pk(P:Program)(t:TypeId):Option (Nat×TypeId):=match P.underlying t with |some (.array n a)=>c4 (n,a) |_=>c6
def dV(P:Program)(t:TypeId):Option Value:=(P.info? t).bind (·.zero)
def yi(P:Program)(t:TypeId):Option IntKind:=match P.underlying t with |some (.int k)=>c4 k |_=>c6
def sr(P:Program)(t:TypeId):Bool:=match P.underlying t with |some .bool=>true |_=>false
section
variable {P : Program} {w : World}
theorem o5{t:TypeId}{b:Bool}(a:dP P t=c4 b):(isAgg t).run P w= .ok b w:=by
 unfold dP at a;cases c:P.underlying t with
 |none=>simp[c] at a
 |some d=>
  rw[c] at a;unfold isAgg;rw[ej,run_underlying c];cases d <;> simp at a <;> subst a <;> rfl
theorem run_sizeOf{t:TypeId}{n:Nat}(a:cH P t=c4 n):(sizeOf t).run P w= .ok n w:=by
 unfold cH at a;cases b:P.info? t with
 |none=>simp[b] at a
 |some i=>
  simp[b] at a;simp[sizeOf,typeInfo,b,a]
theorem Ey{t:TypeId}{v:Value}(a:dV P t=c4 v):(zeroValue t).run P w= .ok v w:=by
 unfold dV at a;cases b:P.info? t with
 |none=>simp[b] at a
 |some i=>
  simp[b] at a;simp[zeroValue,typeInfo,b,a]
theorem gD{t b:TypeId}(a:dU P t=c4 b):P.underlying t=c4 (.slice b):=by
 unfold dU at a
 split at a <;> simp_all
theorem anQ{t:TypeId}{k:IntKind}(a:yi P t=c4 k):P.underlying t=c4 (.int k):=by
 unfold yi at a
 split at a <;> simp_all
theorem Kn{t b:TypeId}{n:Nat}(a:pk P t=c4 (n,b)):P.underlying t=c4 (.array n b):=by
 unfold pk at a
 split at a <;> simp_all
theorem aiw{t:TypeId}(a:sr P t=true):P.underlying t=c4 .bool:=by
 unfold sr at a
 split at a <;> simp_all
theorem E4{t:TypeId}{f:Nat}{h i:Nat}(a:nU P t f=c4 (h,i)):∃(c:Array Field) (b:Field),P.underlying t=c4 (.struct c)/\c[f]? =c4 b/\b.type=h/\b.offset=i:=by
 unfold nU at a
 split at a
 ·rename_i c j;cases e:c[f]? with
  |none=>simp[e] at a
  |some b=>
   simp[e] at a;exact⟨c,b,j,e,a.1,a.2⟩
 ·simp at a
end
def ek(H:List aO)(r:Nat)(a:aO):Prop:=H[r]? =c4 a
section
variable {P : Program} {E : Env} {H : List aO} {d : Option Nat} {ty : TypeId} {pos : String} {aft : Array Edge} {gd : Option (Nat × Bool)} {x y z : Operand} {t : TypeId}
theorem Pt:cM P ⟨d,.move x,ty,pos,aft,gd⟩ E H (PE E x):=λ_ _ b _ a=>⟨b.eval x,rfl,a.e.eval x⟩
theorem aks:cM P ⟨d,.assign x,ty,pos,aft,gd⟩ E H (PE E x):=λ_ _ b _ a=>⟨b.eval x,rfl,a.e.eval x⟩
theorem aik{v:PV}(a:PE E x=v):cM P ⟨d,.move x,ty,pos,aft,gd⟩ E H v:=a▸Pt
theorem ak6{v:PV}(a:PE E x=v):cM P ⟨d,.assign x,ty,pos,aft,gd⟩ E H v:=a▸aks
theorem Zu{b:Bool}(f:PE E z= .bool b):cM P ⟨d,.pick z x y,ty,pos,aft,gd⟩ E H (bif b then PE E x else PE E y):=by
 intro g h e w a;have c:=(f▸a.e.eval z).n5;cases b
 ·exact⟨e.eval y,by simp[execOp,c,asBool],a.e.eval y⟩
 ·exact⟨e.eval x,by simp[execOp,c,asBool],a.e.eval x⟩
theorem yw{b:BinOp}{yt:TypeId}{f v:PV}{c a rv:Value}{p:PV}(q:PE E x=f)(l:PE E y=v)(h:∀(g:Gh) (H:List aO) (w:World) (z:Value),VR g H w f z->z=c)(o:∀(g:Gh) (H:List aO) (w:World) (z:Value),VR g H w v z->z=a)
 (s:eqGuard b t x y c a=pure ()) (A:∀w,(binOp b t c a).run P w= .ok rv w) (u:∀(g:Gh) (H:List aO) (w:World),VR g H w p rv):cM P ⟨d,.binOp b t x y yt,ty,pos,aft,gd⟩ E H p:=by
 intro g B C w e;have j:=h _ _ _ _ (q▸e.e.eval x);have i:=o _ _ _ _ (l▸e.e.eval y);exact⟨rv,by simp[execOp,j,i,s,A],u _ _ _⟩
section ints
variable {yt : TypeId} {k : IntKind} {m n r : Int}
theorem ka{b:BinOp}{rv:Value}{p:PV}(e:PE E x= .int k m)(c:PE E y= .int k n)(h:∀w,(binOp b t (.int k m) (.int k n)).run P w= .ok rv w)(f:∀(g:Gh) (H:List aO) (w:World),VR g H w p rv):
 cM P ⟨d,.binOp b t x y yt,ty,pos,aft,gd⟩ E H p:=
 yw e c (λ_ _ _ _ a=>a.fQ) (λ_ _ _ _ a=>a.fQ) (eqGuard_at_int b t x y _ k m) h f
theorem Vz(b:PE E x= .int k m)(c:PE E y= .int k n)(a:k.wrap (m+n)=r):cM P ⟨d,.binOp .add t x y yt,ty,pos,aft,gd⟩ E H (.int k r):=
 ka b c (λw=>by simp[binOp,Op.intArith,a]) λ_ _ _=>.int k r
theorem Zh(b:PE E x= .int k m)(c:PE E y= .int k n)(a:k.wrap (m -n)=r):cM P ⟨d,.binOp .sub t x y yt,ty,pos,aft,gd⟩ E H (.int k r):=
 ka b c (λw=>by simp[binOp,Op.intArith,a]) λ_ _ _=>.int k r
theorem acd(b:PE E x= .int k m)(c:PE E y= .int k n)(a:k.wrap (m*n)=r):cM P ⟨d,.binOp .mul t x y yt,ty,pos,aft,gd⟩ E H (.int k r):=
 ka b c (λw=>by simp[binOp,Op.intArith,a]) λ_ _ _=>.int k r
theorem ae6(b:PE E x= .int k m)(c:PE E y= .int k n)(h0:n≠0)(a:k.wrap (m.tdiv n)=r):cM P ⟨d,.binOp .quo t x y yt,ty,pos,aft,gd⟩ E H (.int k r):=
 ka b c (λw=>by simp[binOp,Op.intDiv,h0,a]) λ_ _ _=>.int k r
theorem ahN(b:PE E x= .int k m)(c:PE E y= .int k n)(h0:n≠0)(a:m.tmod n=r):cM P ⟨d,.binOp .rem t x y yt,ty,pos,aft,gd⟩ E H (.int k r):=
 ka b c (λw=>by simp[binOp,Op.intDiv,h0,a]) λ_ _ _=>.int k r
theorem akz(b:PE E x= .int k m)(c:PE E y= .int k n)(a:bits .and k m n=r):cM P ⟨d,.binOp .and t x y yt,ty,pos,aft,gd⟩ E H (.int k r):=
 ka b c (λw=>by rw[binOp_and,intBits_and,a];rfl) λ_ _ _=>.int k r
theorem YI(b:PE E x= .int k m)(c:PE E y= .int k n)(a:bits .or k m n=r):cM P ⟨d,.binOp .or t x y yt,ty,pos,aft,gd⟩ E H (.int k r):=
 ka b c (λw=>by rw[binOp_or,intBits_or,a];rfl) λ_ _ _=>.int k r
theorem abR(b:PE E x= .int k m)(c:PE E y= .int k n)(a:bits .xor k m n=r):cM P ⟨d,.binOp .xor t x y yt,ty,pos,aft,gd⟩ E H (.int k r):=
 ka b c (λw=>by rw[binOp_xor,intBits_xor,a];rfl) λ_ _ _=>.int k r
theorem aeA(b:PE E x= .int k m)(c:PE E y= .int k n)(a:bits .andNot k m n=r):cM P ⟨d,.binOp .andNot t x y yt,ty,pos,aft,gd⟩ E H (.int k r):=
 ka b c (λw=>by rw[binOp_andNot,intBits_andNot,a];rfl) λ_ _ _=>.int k r
theorem ahs(a:PE E x= .int k m)(b:PE E y= .int k n):cM P ⟨d,.binOp .lss t x y yt,ty,pos,aft,gd⟩ E H (.bool (c3 (m<n))):=
 ka a b (λw=>by rw[binOp_lss];rfl) λ_ _ _=>.bool _
theorem aj5(a:PE E x= .int k m)(b:PE E y= .int k n):cM P ⟨d,.binOp .leq t x y yt,ty,pos,aft,gd⟩ E H (.bool (c3 (m<=n))):=
 ka a b (λw=>by rw[binOp_leq];rfl) λ_ _ _=>.bool _
theorem amQ(a:PE E x= .int k m)(b:PE E y= .int k n):cM P ⟨d,.binOp .gtr t x y yt,ty,pos,aft,gd⟩ E H (.bool (c3 (n<m))):=
 ka a b (λw=>by rw[binOp_gtr];rfl) λ_ _ _=>.bool _
theorem abe(a:PE E x= .int k m)(b:PE E y= .int k n):cM P ⟨d,.binOp .geq t x y yt,ty,pos,aft,gd⟩ E H (.bool (c3 (n<=m))):=
 ka a b (λw=>by rw[binOp_geq];rfl) λ_ _ _=>.bool _
theorem aea(b:PE E x= .int k m)(c:PE E y= .int k n):cM P ⟨d,.binOp .eql t x y yt,ty,pos,aft,gd⟩ E H (.bool (c3 (m=n))):=
 ka b c (λw=>by rw[binOp_eql,f5]) λg H w=>by
  have:(m==n)=c3 (m=n):=by by_cases a:m=n <;> simp[a]
  rw[this];exact .bool _
theorem ajI(b:PE E x= .int k m)(c:PE E y= .int k n):cM P ⟨d,.binOp .neq t x y yt,ty,pos,aft,gd⟩ E H (.bool (c3 (m≠n))):=
 ka b c (λw=>by rw[binOp_neq,f5]) λg H w=>by
  have:(m != n)=c3 (m≠n):=by by_cases a:m=n <;> simp[a,bne]
  rw[this];exact .bool _
theorem apg{f:IntKind}(e:PE E x= .int k m)(c:PE E y= .int f n)(h0:0<=n)(b:k.wrap (m*2^ (min n.toNat k.bits))=r):cM P ⟨d,.binOp .shl t x y yt,ty,pos,aft,gd⟩ E H (.int k r):=
 yw e c (λ_ _ _ _ a=>a.fQ) (λ_ _ _ _ a=>a.fQ) (eqGuard_at_int _ t x y _ k m)
  (λw=>by rw[binOp_shl];unfold Op.shift;rw[if_neg (by omega)];simp only[b];rfl) λ_ _ _=>.int k r
theorem abz{f:IntKind}(e:PE E x= .int k m)(c:PE E y= .int f n)(h0:0<=n)(b:m.fdiv (2^ (min n.toNat k.bits))=r):cM P ⟨d,.binOp .shr t x y yt,ty,pos,aft,gd⟩ E H (.int k r):=
 yw e c (λ_ _ _ _ a=>a.fQ) (λ_ _ _ _ a=>a.fQ) (eqGuard_at_int _ t x y _ k m)
  (λw=>by rw[binOp_shr];unfold Op.shift;rw[if_neg (by omega)];simp only[b];rfl) λ_ _ _=>.int k r
theorem ajc(e:PE E x= .int k m)(b:k.wrap (0 -m)=r):cM P ⟨d,.unOp .neg t x,ty,pos,aft,gd⟩ E H (.int k r):=by
 intro g f h w a;have c:=(e▸a.e.eval x).fQ;exact⟨.int k r,by simp only[execOp,c,Op.unary,Op.intArith,b];rfl,.int k r⟩
theorem aoQ{c b:TypeId}{e:IntKind}(l:PE E x= .int e m)(a:(P.underlying c).isSome=true)(f:yi P b=c4 k)(i:k.wrap m=r):cM P ⟨d,.convert c b x,ty,pos,aft,gd⟩ E H (.int k r):=by
 intro g o p w h;have j:=(l▸h.e.eval x).fQ;obtain⟨q,a⟩:=Option.isSome_iff_exists.1 a;refine⟨.int k r,?_,.int k r⟩
 simp[execOp,j,convert,run_underlying a,run_underlying (anQ f),Conv.intToInt,i]
end ints
theorem rd_not{b:Bool}(e:PE E x= .bool b):cM P ⟨d,.unOp .not t x,ty,pos,aft,gd⟩ E H (.bool (!b)):=by
 intro g f h w a;have c:=(e▸a.e.eval x).n5;exact⟨.bool !b,by simp only[execOp,c,Op.unary];rfl,.bool _⟩
theorem run_equal_bool{t:TypeId}(e:sr P t=true)(w:World)(b a:Bool):(i5 t (.bool b) (.bool a)).run P w= .ok (b==a) w:=by
 have c:∀n,(gy (n+1) t (.bool b) (.bool a)).run P w= .ok (b==a) w:=λn=>by simp[gy,run_underlying (aiw e)]
 exact c 9999
theorem abj{yt:TypeId}{b c:Bool}(f:PE E x= .bool b)(e:PE E y= .bool c)(h:sr P t=true):cM P ⟨d,.binOp .eql t x y yt,ty,pos,aft,gd⟩ E H (.bool (b==c)):=
 yw f e (λ_ _ _ _ a=>a.n5) (λ_ _ _ _ a=>a.n5) (eqGuard_at_bool _ t x y _ b)
  (λw=>by simp only[binOp];simp[run_equal_bool h w b c]) λ_ _ _=>.bool _
theorem ai2{yt:TypeId}{b c:Bool}(f:PE E x= .bool b)(e:PE E y= .bool c)(h:sr P t=true):cM P ⟨d,.binOp .neq t x y yt,ty,pos,aft,gd⟩ E H (.bool (b != c)):=
 yw f e (λ_ _ _ _ a=>a.n5) (λ_ _ _ _ a=>a.n5) (eqGuard_at_bool _ t x y _ b)
  (λw=>by simp only[binOp];simp only[ej,run_equal_bool h w b c,e6,f5];rfl) λ_ _ _=>.bool _
theorem aiG{vs:List PV}{i:Nat}{v:PV}(j:PE E x= .bu vs)(c:vs[i]? =c4 v):cM P ⟨d,.extract x i,ty,pos,aft,gd⟩ E H v:=by
 intro g o p w e;obtain⟨a,f,h,l⟩:=(j▸e.e.eval x).Db;have b:i<a.length:=by rw[<-h];exact(c7.1 c).1
 refine⟨a[i],?_,l i v _ c (c5 b)⟩
 simp[execOp,f,Instr.extract,b]
theorem aam{i:List PV}{f:Nat}{e j:Nat}{v:PV}(A:PE E x= .agg i)(B:nU P t f=c4 (e,j))(u:dP P e=c4 false)(c:i[j]? =c4 v):
 cM P ⟨d,.field t x f,ty,pos,aft,gd⟩ E H v:=by
 intro g D F w s;obtain⟨a,l,p,C⟩:=(A▸s.e.eval x).ky;obtain⟨G,h,q,o,rfl,rfl⟩:=E4 B;have b:h.offset<a.length:=by rw[<-p];exact(c7.1 c).1
 refine⟨a[h.offset],?_,C _ v _ c (c5 b)⟩
 simp[execOp,l,Instr.field,run_underlying q,o,asAgg,part,o5 u,b]
theorem T8{h:List PV}{f:Nat}{c j n:Nat}{e:List PV}(F:PE E x= .agg h)(I:nU P t f=c4 (c,j))(D:dP P c=c4 true)(s:cH P c=c4 n)(q:(h.drop j).take n=e):
 cM P ⟨d,.field t x f,ty,pos,aft,gd⟩ E H (.agg e):=by
 intro g K L w B;obtain⟨l,p,v,J⟩:=(F▸B.e.eval x).ky;obtain⟨M,C,A,u,rfl,rfl⟩:=E4 I;subst q;refine⟨.agg ((l.drop C.offset).take n).toArray,?_,.agg _ _ (by simp[v]) λi G y a b=>?_⟩
 ·simp[execOp,p,Instr.field,run_underlying A,u,asAgg,part,o5 D,run_sizeOf s,List.extract_eq_take_drop,h6]
 ·rw[eE] at a b
  split at a
  ·rename_i o;rw[if_pos o] at b;rw[d9] at a b;exact J _ G y a b
  ·simp at a
theorem adb{r v i b:Nat}(p:PE E x= .ptr r v i b):cM P ⟨d,.nilCheck x,ty,pos,aft,gd⟩ E H (.ptr r v i b):=by
 intro g s h w c;have a:=p▸c.e.eval x;generalize f:h.eval x=z at a;cases a with
 |aW a=>cases a
 |ptr _ _ _ _ o q j l e=>exact⟨_,by simp only[execOp,f];rfl,.ptr r v i b o q j l e⟩
theorem ZL{e:List PV}{c:Nat}(q:PE E x= .dw e c):cM P ⟨d,.nilCheck x,ty,pos,aft,gd⟩ E H (.dw e c):=by
 intro g v j w f;have a:=q▸f.e.eval x;generalize i:j.eval x=z at a;cases a with
 |aW a=>
  cases a with
  |dw _ _ b h p o s u l=>exact⟨_,by simp only[execOp,i];rfl,.aW (.dw e c b h p o s u l)⟩
theorem VJ{f:Nat}{c b:List PV}(u:PE E x= .fn f c b):cM P ⟨d,.nilCheck x,ty,pos,aft,gd⟩ E H (.fn f c b):=by
 intro g v s w q;have a:=u▸q.e.eval x;generalize p:s.eval x=z at a;cases a with
 |aW a=>cases a with |fn _ _ _ e j o l i h=>exact⟨_,by simp only[execOp,p];rfl,.aW (.fn f c b e j o l i h)⟩
 |fn _ _ _ e j o l i h=>exact⟨_,by simp only[execOp,p];rfl,.fn f c b e j o l i h⟩
theorem Qi{P:Program}{w:World}{a:Addr}{f:Field}{n:Nat}(c:cH P f.type=c4 n)(b:n≠0):(fieldPlace a f).run P w= .ok (a.add f.offset) w:=by
 simp[fieldPlace,run_sizeOf c,b]
theorem apD{r v i c:Nat}{f:Nat}{e j n:Nat}(L:PE E x= .ptr r v i c)(N:nU P t f=c4 (e,j))(u:cH P e=c4 n)(F:n≠0):
 cM P ⟨d,.fieldAddr t x f,ty,pos,aft,gd⟩ E H (.ptr r v i (c+j)):=by
 intro g O D w I;have a:=L▸I.e.eval x;generalize o:D.eval x=z at a;obtain⟨Q,h,G,B,rfl,rfl⟩:=E4 N;cases a with
 |aW a=>cases a
 |ptr _ _ _ _ K A p s J=>
  refine⟨.pointer (c4 (A.add h.offset)),?_,.ptr r v i (c+h.offset) K _ p s λM=>?_⟩
  ·simp[execOp,o,Instr.fieldAt,run_underlying G,B,f7,Qi u F]
  ·obtain⟨l,b,q,C,rfl⟩:=J M;exact⟨l,b,q,C,by rw[f1,g9]⟩
theorem Ze{e:List PV}{c:Nat}{f:Nat}{h l n:Nat}(G:PE E x= .dw e c)(I:nU P t f=c4 (h,l))(s:cH P h=c4 n)(A:n≠0):
 cM P ⟨d,.fieldAddr t x f,ty,pos,aft,gd⟩ E H (.dw e (c+l)):=by
 intro g K v w D;have a:=G▸D.e.eval x;generalize o:v.eval x=z at a;obtain⟨L,i,C,u,rfl,rfl⟩:=E4 I;cases a with
 |aW a=>
  cases a with
  |dw _ _ b j F q J B p=>
   refine⟨.pointer (c4 ((⟨b,j+c,c6⟩:Addr).add i.offset)),?_,?_⟩
   ·simp[execOp,o,Instr.fieldAt,run_underlying C,u,f7,Qi s A]
   ·rw[f1,g9];exact .aW (.dw e (c+i.offset) b j F q J B p)
theorem Dc{g:Gh}{w:World}{r v i e:Nat}{a:aO}{o:Value}(B:bF g H w)(j:VR g H w (.ptr r v i e) o)(h:ek H r a)(A:a.aF=v):
 ∃b c cells,o= .pointer (c4 ⟨b,i*a.sz+e,c6⟩)/\g.β r=c4 (b,c)/\i<a.es.length/\w.heap[b]? =c4 (.cells cells a.ty (0,0))/\cells.size=c*a.sz/\a.es.length<=c/\
  ∀i e q,cellOf a.es i e=c4 q->∃l,cells[i*a.sz+e]? =c4 l/\l.oneCell'=true/\VR g H w q l:=by
 cases j with
 |aW j=>cases j
 |ptr _ _ _ _ L J f K I=>
  unfold ek at h;rw[h] at f;injection f with f
  subst f;obtain⟨u,b,c,p,rfl⟩:=I A.symm;have s:=(B.obj r a h).mem;rw[p] at s;obtain⟨_,cells,F,G,_,C,D⟩:=s;exact⟨b,c,cells,rfl,p,u,F,G,C,D⟩
theorem AT{r v i j:Nat}{a:aO}{c:PV}(A:PE E x= .ptr r v i j)(q:ek H r a)(s:a.aF=v)(o:dP P t=c4 false)(B:cellOf a.es i j=c4 c):
 cM P ⟨d,.load t x,ty,pos,aft,gd⟩ E H c:=by
 intro g F I w e;obtain⟨b,G,cells,p,_,_,u,_,_,D⟩:=Dc e.m (A▸e.e.eval x) q s;obtain⟨f,h,_,C⟩:=D i j c B;refine⟨f,?_,C⟩
 have l:w.cell? ⟨b,i*a.sz+j,c6⟩=c4 f:=by rw[cell_of_row w b _ cells a.ty (0,0) u];exact h
 simp[execOp,p,i7,f7,loadVar,o5 o,l]
theorem gw{c:List PV}{i e:Nat}{h:PV}(a:cellOf c i e=c4 h):∃b,c[i]? =c4 b/\e<b.cells.length:=by
 unfold cellOf at a;cases f:c[i]? with
 |none=>simp[f] at a
 |some b=>
  simp[f] at a;exact⟨b,rfl,(c7.1 a).1⟩
theorem Ig{r v i a n:Nat}{c:aO}{e:PV}{q:List PV}(S:PE E x= .ptr r v i a)(G:ek H r c)(I:c.aF=v)(Q:dP P t=c4 true)(K:cH P t=c4 n)(J:c.es[i]? =c4 e)
 (O:(e.cells.drop a).take n=q) (u:q.length=n):cM P ⟨d,.load t x,ty,pos,aft,gd⟩ E H (.agg q):=by
 intro g Y Z w B;obtain⟨b,W,cells,F,_,_,L,ab,X,V⟩:=Dc B.m (S▸B.e.eval x) G I;subst O;have D:∀k (h:k<n),∃j,cellOf c.es i (a+k)=c4 j/\((e.cells.drop a).take n)[k]? =c4 j:=λk h=>by
  have A:k<((e.cells.drop a).take n).length:=by rw[u];exact h
  refine⟨_,?_,c5 A⟩
  unfold cellOf;rw[J];simp only[g4];rw[<-d9, <-d5 h];exact c5 A
 have T:∃f:Nat->Value,∀k,k<n->cells[i*c.sz+a+k]? =c4 (f k)/\(∀j,((e.cells.drop a).take n)[k]? =c4 j->VR g H w j (f k)):=by
  refine⟨λk=>cells.getD (i*c.sz+a+k) undef,λk h=>?_⟩
  obtain⟨j,o,N⟩:=D k h;obtain⟨R,s,_,U⟩:=V i (a+k) j o;rw[<-g9] at s;have:cells.getD (i*c.sz+a+k) undef=R:=by simp[ga,s]
  refine⟨s.trans (congrArg c4 this.symm),λaa l=>?_⟩
  rw[N] at l;injection l with l
  subst l;show VR g H w j (cells.getD (i*c.sz+a+k) undef)
  rw[this];exact U
 obtain⟨f,C⟩:=T;refine⟨.agg ((i8 n).map f).toArray,?_,.agg _ _ (by simp[u]) λk j y o p=>?_⟩
 ·have M:=run_loadCells (P:=P) w ⟨b,i*c.sz+a,c6⟩ n f (λk h=>by
   rw[f1,cell_of_row w b _ cells c.ty (0,0) L];exact(C k h).1)
  simp[execOp,F,i7,f7,loadVar,o5 Q,run_sizeOf K,M]
 ·have h:k<n:=by
   have:=(c7.1 o).1;omega
  rw[d8,f2 h] at p;simp at p;subst p;exact(C k h).2 j o
theorem acR{h:List PV}{a:Nat}{e:PV}(u:PE E x= .dw h a)(l:dP P t=c4 false)(f:h[a]? =c4 e):
 cM P ⟨d,.load t x,ty,pos,aft,gd⟩ E H e:=by
 intro g v p w i;have c:=u▸i.e.eval x;generalize o:p.eval x=z at c;cases c with
 |aW c=>
  cases c with
  |dw _ _ b A s B j C q=>
   refine⟨s a,?_,.aW (q a e f)⟩
   simp[execOp,o,i7,f7,loadVar,o5 l,j a e f]
theorem Z6{e:List PV}{a n:Nat}{o:List PV}(K:PE E x= .dw e a)(J:dP P t=c4 true)(B:cH P t=c4 n)(G:(e.drop a).take n=o)(s:o.length=n):
 cM P ⟨d,.load t x,ty,pos,aft,gd⟩ E H (.agg o):=by
 intro g O C w I;have i:=K▸I.e.eval x;generalize v:C.eval x=z at i;cases i with
 |aW i=>
  cases i with
  |dw _ _ b M u N L p A=>
   subst G;have q:∀k (c:k<n),∃f,e[a+k]? =c4 f/\((e.drop a).take n)[k]? =c4 f:=λk c=>by
    have p:k<((e.drop a).take n).length:=by rw[s];exact c
    refine⟨_,?_,c5 p⟩
    rw[<-d9, <-d5 c];exact c5 p
   refine⟨.agg ((i8 n).map λk=>u (a+k)).toArray,?_,.aW (.agg _ _ (by simp[s]) λk f y j l=>?_)⟩
   ·have D:=run_loadCells (P:=P) w ⟨b,M+a,c6⟩ n (λk=>u (a+k)) (λk c=>by
     obtain⟨f,j,_⟩:=q k c;rw[f1,g9];exact L _ f j)
    simp[execOp,v,i7,f7,loadVar,o5 J,run_sizeOf B,D]
   ·have c:k<n:=by
     have:=(c7.1 j).1;omega
    rw[d8,f2 c] at l;simp at l;subst l;obtain⟨Q,F,h⟩:=q k c;rw[j] at h;injection h with h
    subst h;exact A _ _ F
theorem Zx{ix:Operand}{j:Nat}{o:List PV}{e:PV}{k:IntKind}{m:Int}{i:Nat}{q:TypeId}(N:PE E x= .vs j o)(v:PE E ix= .int k m)(I:m=(i:Int))(h:o[i]? =c4 e)
 (L:dU P t=c4 q) (G:cH P q=c4 j):cM P ⟨d,.indexAddr t x ix,ty,pos,aft,gd⟩ E H (.dw e.cells 0):=by
 intro g Q J w p;have l:=N▸p.e.eval x;have C:=(v▸p.e.eval ix).fQ;generalize A:J.eval x=z at l;subst I;have s:i<o.length:=(c7.1 h).1;cases l with
 |aW l=>
  cases l with
  |eX=>simp at s
  |vs _ _ b u cap M S D R O K B=>
   refine⟨.pointer (c4 ⟨b,u+i*j,c6⟩),?_,?_⟩
   ·simp[execOp,A,C,Instr.indexAt,asIntOf,run_underlying (gD L),run_sizeOf G,s,f1]
   ·have:=VI.dw (F:=g.F) (w:=w) e.cells 0 b (u+i*j) (M i) D
     (λc f a=>by
      have:=O i c f (by unfold cellOf;rw[h];exact a);rw[<-g9] at this;exact this)
     (λc f a=>K i c f (by unfold cellOf;rw[h];exact a))
     (λc f a=>B i c f (by unfold cellOf;rw[h];exact a))
    exact .aW this
theorem lh{g:Gh}{w:World}{r v e len:Nat}{o:aO}{c:Value}(b:VR g H w (.sl r v e len) c)(f:ek H r o)(h:o.aF=v):SL g o r e len c:=by
 cases b with
 |aW b=>cases b
 |sl _ _ _ _ l _ a j p i=>
  unfold ek at f;rw[f] at a;injection a with a
  subst a;exact i h.symm
theorem Hm{ix:Operand}{r v e len:Nat}{c:aO}{k:IntKind}{m:Int}{i:Nat}{j:TypeId}(D:PE E x= .sl r v e len)(l:PE E ix= .int k m)(A:m=(i:Int))(G:i<len)(f:ek H r c)(q:c.aF=v)
 (C:dU P t=c4 j) (u:cH P j=c4 c.sz):cM P ⟨d,.indexAddr t x ix,ty,pos,aft,gd⟩ E H (.ptr r v (e+i) 0):=by
 intro g K L w h;have a:=lh (D▸h.e.eval x) f q;have s:=(l▸h.e.eval ix).fQ;subst A;unfold SL at a;obtain⟨I,a⟩:=a
 split at a
 ·obtain⟨_,rfl,_⟩:=a;omega
 ·rename_i b p B;obtain⟨cap,J,o,M,F,_⟩:=a;obtain rfl:=F (by omega);refine⟨.pointer (c4 ⟨b,e*c.sz+i*c.sz,c6⟩),?_,.ptr r v (e+i) 0 c _ f (by omega) λ_=>⟨by omega,b,p,B,by rw[hI,e0]⟩⟩
  simp[execOp,o,s,Instr.indexAt,asIntOf,run_underlying (gD C),run_sizeOf u,G,f1]
theorem aqx{f:Operand}{r v i j n e:Nat}{k:IntKind}{m:Int}{q:Nat}{l:TypeId}(M:PE E x= .ptr r v i j)(c:PE E f= .int k m)(F:m=(q:Int))(o:q<n)
 (J:pk P t=c4 (n,l)) (C:cH P l=c4 e):cM P ⟨d,.indexAddr t x f,ty,pos,aft,gd⟩ E H (.ptr r v i (j+q*e)):=by
 intro g O I w h;have a:=M▸h.e.eval x;have B:=(c▸h.e.eval f).fQ;generalize p:I.eval x=z at a;subst F;cases a with
 |aW a=>cases a
 |ptr _ _ _ _ L D s A K=>
  refine⟨.pointer (c4 (D.add (q*e))),?_,.ptr r v i _ L _ s A λN=>?_⟩
  ·simp[execOp,p,B,Instr.indexAt,f7,asIntOf,run_underlying (Kn J),run_sizeOf C,o]
  ·obtain⟨c,b,u,G,rfl⟩:=K N;exact⟨c,b,u,G,by rw[f1,g9]⟩
theorem ac0{a:Operand}{h:List PV}{n:Nat}{k:IntKind}{m:Int}{q:Nat}{b:TypeId}{c:PV}(D:PE E x= .agg h)(o:PE E a= .int k m)(v:m=(q:Int))(l:q<n)
 (B:pk P t=c4 (n,b)) (u:cH P b=c4 1) (C:dP P b=c4 false) (j:h[q]? =c4 c):cM P ⟨d,.index t x a,ty,pos,aft,gd⟩ E H c:=by
 intro g G I w f;obtain⟨e,p,A,F⟩:=(D▸f.e.eval x).ky;have s:=(o▸f.e.eval a).fQ;subst v;have i:q<e.length:=by rw[<-A];exact(c7.1 j).1
 refine⟨e[q],?_,F q c _ j (c5 i)⟩
 simp[execOp,p,s,Instr.index,asIntOf,run_underlying (Kn B),run_sizeOf u,l,part,o5 C,i]
theorem Gi{n:Nat}{ci:Array TypeId}(c:∃e,dU P t=c4 e)(h:ci=#[t])(l:∀(g:Gh) (b:Nat) (a:Act) (w:World),Rel g b E H a w->∃f cap,a.eval x= .slice f n cap):
 cM P ⟨d,.call {callee:=.builtin .len,args:=#[x],argTypes:=ci},ty,pos,aft,gd⟩ E H (.int .i64 (n:Int)):=by
 intro g b a w i;obtain⟨e,c⟩:=c;obtain⟨f,cap,j⟩:=l g b a w i;subst h;refine⟨.int .i64 (n:Int),?_,.int _ _⟩
 simp[execOp,resolve,invoke,builtin,j,Builtin.len_,run_underlying (gD c),goInt]
theorem ap9{b:TypeId}{a:Array TypeId}(f:PE E x= .bg)(c:a=#[t])(h:dU P t=c4 b):
 cM P ⟨d,.call {callee:=.builtin .len,args:=#[x],argTypes:=a},ty,pos,aft,gd⟩ E H (.int .i64 0):=
 Gi (n:=0) ⟨b,h⟩ c λ_ _ _ _ e=>⟨c6,0,(f▸e.e.eval x).pF⟩
theorem acm{b:TypeId}{a:Array TypeId}(h:PE E x= .z0)(e:a=#[t])(j:dU P t=c4 b):
 cM P ⟨d,.call {callee:=.builtin .len,args:=#[x],argTypes:=a},ty,pos,aft,gd⟩ E H (.int .i64 0):=
 Gi (n:=0) ⟨b,j⟩ e λ_ _ _ _ f=>let ⟨i,c⟩:=(h▸f.e.eval x).rh;⟨i,0,c⟩
theorem akg{k:IntKind}{m n:Int}{c:Array TypeId}(h:PE E x= .int k m)(f:PE E y= .int k n):
 cM P ⟨d,.call {callee:=.builtin .min,args:=#[x,y],argTypes:=c},ty,pos,aft,gd⟩ E H (.int k (min m n)):=by
 intro g j l w a;have e:=(h▸a.e.eval x).fQ;have i:=(f▸a.e.eval y).fQ;have b:(if n<m then n else m)=min m n:=by split <;> omega
 refine⟨.int k (min m n),?_,.int _ _⟩
 simp[execOp,resolve,invoke,builtin,e,i,Builtin.min_,Builtin.min2,b]
theorem ae4{k:IntKind}{m n:Int}{c:Array TypeId}(h:PE E x= .int k m)(f:PE E y= .int k n):
 cM P ⟨d,.call {callee:=.builtin .max,args:=#[x,y],argTypes:=c},ty,pos,aft,gd⟩ E H (.int k (max m n)):=by
 intro g j l w a;have e:=(h▸a.e.eval x).fQ;have i:=(f▸a.e.eval y).fQ;have b:(if m<n then n else m)=max m n:=by split <;> omega
 refine⟨.int k (max m n),?_,.int _ _⟩
 simp[execOp,resolve,invoke,builtin,e,i,Builtin.max_,Builtin.max2,b]
end
end Go.Bml
namespace Go.Bml
open Go
open Go.RowKit (Below)
def gI(g:Gh)(H:List aO)(w:World)(d:Nat)(e:List PV)(f:List Value):Prop:=
 f.length=e.length*d/\∀i b c,cellOf e i b=c4 c->∃a,f[i*d+b]? =c4 a/\a.oneCell'=true/\VR g H w c a
theorem nN{w:World}{b:Nat}{c:Obj}(a:w.heap[b]? =c4 c):b<w.heap.size:=(Array.getElem?_eq_some_iff.1 a).1
section
variable {g : Gh} {H : List aO} {w : World}
theorem bF.qD(h:bF g H w){r b C:Nat}(a:g.β r=c4 (b,C)):b<w.heap.size:=by
 have e:=h.m8 r b C a;have c:=(h.obj r _ (c5 e)).mem;rw[a] at c;obtain⟨_,cells,d,_⟩:=c;exact nN d
def Gh.push(g:Gh)(r:Nat)(p:Option (Nat×Nat)):Gh:={F:=g.F,β:=λq=>if q=r then p else g.β q}
theorem Gh.kg(g:Gh)(r:Nat)(p:Option (Nat×Nat)):(g.push r p).β r=p:=by simp[Gh.push]
theorem Gh.kS(g:Gh){r q:Nat}(p:Option (Nat×Nat))(h:q≠r):(g.push r p).β q=g.β q:=by simp[Gh.push,h]
theorem bF.T6(h:bF g H w)(ty sz:Nat)(J:0<sz):
 GStep H.length g H w (g.push H.length c6) (H++[⟨ty,sz,[],0⟩]) w/\bF (g.push H.length c6) (H++[⟨ty,sz,[],0⟩]) w:=by
 have u:GStep H.length g H w (g.push H.length c6) (H++[⟨ty,sz,[],0⟩]) w:=
  ⟨rfl,rfl,rfl,dt _,λ_ a=>a,λ_ _=>rfl,λ_ _ _=>rfl,λ_ a=>.inl a,λq b C a=>by
   by_cases e:q=H.length
   ·subst e;rw[Gh.kg] at a;cases a
   ·rw[Gh.kS g _ e] at a;exact .inr ⟨q,C,a⟩,λr o n d=>⟨o,by rw[d3 n];exact d,dt _,λ_=>⟨rfl,rfl,Gh.kS g _ (by omega)⟩⟩⟩
 refine⟨u,⟨h.fb,?_,?_,?_⟩⟩
 ·intro r t b C1 C2 k l
  by_cases j:r=H.length
  ·subst j;rw[Gh.kg] at k;cases k
  ·by_cases s:t=H.length
   ·subst s;rw[Gh.kg] at l;cases l
   ·rw[Gh.kS g _ j] at k;rw[Gh.kS g _ s] at l;exact h.inj r t b C1 C2 k l
 ·intro r b x a
  by_cases j:r=H.length
  ·subst j;simp
  ·rw[Gh.kS g _ j] at a;have:=h.m8 r b x a;simp;omega
 ·intro r o d
  by_cases j:r=H.length
  ·subst j;rw[d2 (dt _)] at d;simp at d;subst d;exact⟨J,by simp,by rw[Gh.kg]⟩
  ·have n:r<H.length:=by
    have:=(c7.1 d).1;simp at this;omega
   rw[d3 n] at d;obtain⟨a1,M,m⟩:=h.obj r o d;refine⟨a1,M,?_⟩
   rw[Gh.kS g _ j];cases a:g.β r with
   |none=>rw[a] at m;exact m
   |some p=>
    obtain⟨b,x⟩:=p;rw[a] at m;obtain⟨E,F,N,A,B,K,y⟩:=m;refine⟨E,F,N,A,B,K,λi G c L=>?_⟩
    obtain⟨I,k,l,D⟩:=y i G c L;exact⟨I,k,l,D.nZ u⟩
def wG(g:Gh)(H:List aO)(w h:World)(a:aO):Option (Nat×Nat)->Prop
 |none=>a.es=[]
 |some (b,c)=>∃cells,h.heap[b]? =c4 (.cells cells a.ty (0,0))/\cells.size=c*a.sz/\c<=maxLen/\a.es.length<=c/\∀i e f,cellOf a.es i e=c4 f->∃d,cells[i*a.sz+e]? =c4 d/\d.oneCell'=true/\VR g H w f d
theorem bF.set(h:bF g H w){r:Nat}{o o':aO}{w':World}{p:Option (Nat×Nat)}(D:H[r]? =c4 o)(ah:w'.os=w.os)(X:w'.tape=w.tape)(W:w'.output=w.output)(T:w.heap.size<=w'.heap.size)
 (J:∀b,b<w.heap.size->(∀C,g.β r≠c4 (b,C))->w'.heap[b]? =w.heap[b]?)
 (Y:o.aF<=o'.aF) (ae:o'.aF=o.aF->o'.sz=o.sz/\o'.es.length=o.es.length/\p=g.β r)
 (t:∀b C,p=c4 (b,C)->(∃d,g.β r=c4 (b,d))\/w.heap.size<=b)
 (Z:0<o'.sz) (ac:∀(i:Nat) (e:PV),o'.es[i]? =c4 e->e.cells.length=o'.sz)
 (U:wG g H w w' o' p)
 :
  GStep H.length g H w (g.push r p) (H.set r o') w'/\bF (g.push r p) (H.set r o') w':=by
  have y:r<H.length:=(c7.1 D).1;have ak:=h.obj r o D;have S:∀b C,g.β r=c4 (b,C)->¬g.F b:=λb C a=>by
   have:=ak.mem;rw[a] at this;exact this.1
  have F:GStep H.length g H w (g.push r p) (H.set r o') w':=by
   refine⟨ah,X,W,T,λ_ a=>a,λb a=>J b (h.fb b a) λC m=>S b C m a,λb a ad=>J b a λC=>ad r C,λ_ a=>.inl a,λq b C a=>?_,λq M al n=>?_⟩
   ·by_cases e:q=r
    ·subst e;rw[Gh.kg] at a;rcases t b C a with⟨d,m⟩ |s
     ·exact .inr ⟨q,d,m⟩
     ·exact .inl s
    ·rw[Gh.kS g _ e] at a;exact .inr ⟨q,C,a⟩
   by_cases e:q=r
   ·subst e;rw[D] at n;injection n with n
    subst n;refine⟨o',by simp[y],Y,λaa=>?_⟩
    obtain⟨V,ab,ai⟩:=ae aa;exact⟨V,ab,by rw[Gh.kg];exact ai⟩
   ·exact⟨M,by rw[e5 (Ne.symm e)];exact n,dt _,λ_=>⟨rfl,rfl,Gh.kS g _ e⟩⟩
  refine⟨F,⟨λb a=>hM (h.fb b a) T,?_,?_,?_⟩⟩
  ·intro q Q b C1 C2 j k
   by_cases l:q=r <;> by_cases A:Q=r
   ·omega
   ·subst l;rw[Gh.kg] at j;rw[Gh.kS g _ A] at k;rcases t b C1 j with⟨d,m⟩ |s
    ·exact h.inj _ _ b d C2 m k
    ·have:=h.qD k;omega
   ·subst A;rw[Gh.kg] at k;rw[Gh.kS g _ l] at j;rcases t b C2 k with⟨d,m⟩ |s
    ·exact h.inj _ _ b C1 d j m
    ·have:=h.qD j;omega
   ·rw[Gh.kS g _ l] at j;rw[Gh.kS g _ A] at k;exact h.inj q Q b C1 C2 j k
  ·intro q b d a
   by_cases l:q=r
   ·subst l;simpa using y
   ·rw[Gh.kS g _ l] at a;simpa using h.m8 q b d a
  ·intro q M n
   by_cases l:q=r
   ·subst l;simp[y] at n;subst n;refine⟨Z,ac,?_⟩
    rw[Gh.kg];cases p with
    |none=>exact U
    |some P=>
     obtain⟨b,C⟩:=P;obtain⟨cells,u,E,G,N,B⟩:=U;refine⟨λR=>?_,cells,u,E,G,N,λi K c O=>?_⟩
     ·rcases t b C rfl with⟨d,m⟩ |s
      ·exact S b d m R
      ·have:=h.fb b R;omega
     ·obtain⟨L,j,k,I⟩:=B i K c O;exact⟨L,j,k,I.nZ F⟩
   ·rw[e5 (Ne.symm l)] at n;obtain⟨a1,aj,x⟩:=h.obj q M n;refine⟨a1,aj,?_⟩
    rw[Gh.kS g _ l];cases a:g.β q with
    |none=>rw[a] at x;exact x
    |some P=>
     obtain⟨b,d⟩:=P;rw[a] at x;obtain⟨af,ag,u,E,G,N,B⟩:=x;refine⟨af,ag,(J b (nN u) λC m=>l (h.inj _ _ b _ _ a m)).trans u,E,G,N,λi K c O=>?_⟩
     obtain⟨L,j,k,I⟩:=B i K c O;exact⟨L,j,k,I.nZ F⟩
end
theorem Ez{g:Gh}{m:Nat}{H:List aO}{w:World}(c:bF g H w):GStep m g H w g H w.drew/\bF g H w.drew:=by
 have j:∀m,GStep m g H w g H w.drew:=λm=>⟨rfl,rfl,rfl,dt _,λ_ a=>a,λ_ _=>rfl,λ_ _ _=>rfl,λ_ a=>.inl a,λr _ h a=>.inr ⟨r,h,a⟩,λr f _ e=>⟨f,e,dt _,λ_=>⟨rfl,rfl,rfl⟩⟩⟩
 refine⟨j m,c.fb,c.inj,c.m8,λr f e=>?_⟩
 obtain⟨x,B,d⟩:=c.obj r f e;refine⟨x,B,?_⟩
 cases k:g.β r with
 |none=>rw[k] at d;exact d
 |some D=>
  obtain⟨b,h⟩:=D;rw[k] at d;obtain⟨q,t,E,n,o,z,l⟩:=d;exact⟨q,t,E,n,o,z,λi v C A=>let ⟨y,s,u,p⟩:=l i v C A;⟨y,s,u,p.nZ (j _)⟩⟩
def PV.one:PV->Bool
 | .agg _ | .bu _ | .any=>false
 |_=>true
theorem VR.M8{g:Gh}{H:List aO}{w:World}{c:PV}{x:Value}(h:VR g H w c x)(d:c.one=true):x.oneCell'=true:=by
 cases h with
 |aW h=>cases h <;> first |rfl |(simp[PV.one] at d;done)
 |ptr=>rfl
 |sl r v off len l x k a e n=>exact e
 |fl r v l x k a e n=>exact e
 |agg o j m a=>simp[PV.one] at d
 |bu o j m a=>simp[PV.one] at d
 |fn=>rfl
end Go.Bml
namespace Go.Bml
open Go
section
variable {g : Gh} {H : List aO} {w : World}
theorem VR.tZ{v:PV}{x:Value}(h:VR g H w v x)(j:v.cells.all PV.one=true)(ht:∀vs,v≠ .bu vs):x.cells.toList.length=v.cells.length/\
 ∀(e:Nat) (c:PV),v.cells[e]? =c4 c->∃k,x.cells[e]? =c4 k/\k.oneCell'=true/\VR g H w c k:=by
 by_cases n:∃A,v= .agg A
 ·obtain⟨A,rfl⟩:=n;obtain⟨l,rfl,s,C⟩:=h.ky;refine⟨by simp[Value.cells,PV.cells,s],λe c a=>?_⟩
  simp only[PV.cells] at a j;have B:e<l.length:=by rw[<-s];exact(c7.1 a).1
  have o:=C e c _ a (c5 B);refine⟨l[e],by simp[Value.cells,B],o.M8 ?_,o⟩
  exact eH.1 j c (d4 a)
 ·have m:v.cells=[v]:=by cases v <;> first |rfl |exact absurd ⟨_,rfl⟩ n
  have F:v.one=true:=by rw[m] at j;simpa using j
  have u:=h.M8 F;have D:x.cells=#[x]:=by cases x <;> first |rfl |(simp[Value.oneCell'] at u;done)
  rw[m,D];refine⟨rfl,λe c a=>?_⟩
  match e,a with
  |0,a=>
   simp at a;subst a;exact⟨x,rfl,u,h⟩
theorem Rk{v:PV}{i c:Nat}{b:PV}(a:cellOf [v] i c=c4 b):i=0/\v.cells[c]? =c4 b:=by
 unfold cellOf at a
 match i,a with
 |0,a=>exact⟨rfl,by simpa using a⟩
 |i+1,a=>simp at a
end
section
variable {P : Program} {nt : Nat} {Q : fE} {E : Env} {H : List aO} {d : Option Nat} {ty : TypeId} {pos : String} {aft : Array Edge} {x y z : Operand} {t : TypeId} {all : Array Oper} {rest : List Oper}
def nY(P:Program)(E:Env)(H:List aO)(r:Oper)(elem a:Nat)(c:List PV)(v:Nat->Nat->PV):Prop:=
 ∀g nt (l:Act) w,Rel g nt E H l w->∃(cells:Array Value) (b:Nat) (x:Value) (e:World),(execOp l.eval r).run P w= .ok (.value x) (e.alloc (.cells cells elem))/\(e=w\/e=w.drew)/\
  0<a/\(∀(i:Nat) (j:PV),c[i]? =c4 j->j.cells.length=a)/\cells.size=b*a/\b<=maxLen/\c.length<=b/\
  (∀i k m,cellOf c i k=c4 m->∃f,cells[i*a+k]? =c4 f/\f.oneCell'=true/\VR g H w m f)/\
  (∀n h p q o,n.β q=c4 (w.heap.size,b)->h[q]? =c4 ⟨elem,a,c,o⟩->VR n h p (v q o) x)
theorem sX{A:Op}{elem e q V J c:Nat}{f:List PV}{v:Nat->Nat->PV}(o:H[q]? =c4 ⟨V,J,[],c⟩)
 (h:nY P E H ⟨d,A,ty,pos,aft,c6⟩ elem e f v):
 fJ P ⟨d,A,ty,pos,aft,c6⟩ E H λL W=>L=v q (c+1)/\W=H.set q ⟨elem,e,f,c+1⟩:=by
 intro g nt S w r ai aj aa;obtain⟨cells,j,x,a,ab,X,Z,O,af,N,U,D,I⟩:=h g nt S w r;unfold i6;rw[ab];have ad:=(c7.1 o).1;have s:∀a:World,bF g H a->(∀i l n,cellOf f i l=c4 n->∃k,cells[i*e+l]? =c4 k/\k.oneCell'=true/\VR g H a n k)->
  GStep H.length g H a (g.push q (c4 (a.heap.size,j))) (H.set q ⟨elem,e,f,c+1⟩) (a.alloc (.cells cells elem))/\
  bF (g.push q (c4 (a.heap.size,j))) (H.set q ⟨elem,e,f,c+1⟩) (a.alloc (.cells cells elem)):=λa B G=>by
  have ah:=(B.obj q _ o).mem;refine B.set o rfl rfl rfl (by simp) (λb R _=>eo a _ b R) (by simp) (λh=>absurd h (by simp)) (λb ak h=>?_) Z O ?_
  ·injection h with h;injection h with p u;subst p;exact .inr (dt _)
  ·refine⟨cells,heap_alloc_new a _,af,N,U,G⟩
 have ac:GStep H.length g H w (g.push q (c4 (w.heap.size,j))) (H.set q ⟨elem,e,f,c+1⟩) (a.alloc (.cells cells elem))/\
  bF (g.push q (c4 (w.heap.size,j))) (H.set q ⟨elem,e,f,c+1⟩) (a.alloc (.cells cells elem)):=by
  rcases X with rfl |rfl
  ·exact s _ r.m D
  ·obtain⟨C,Y⟩:=Ez (m:=H.length) r.m;obtain⟨F,M⟩:=s _ Y λi l n ae=>let ⟨k,p,u,T⟩:=D i l n ae;⟨k,p,u,T.nZ C⟩
   exact⟨C.trans F,M⟩
 obtain⟨K,ag⟩:=ac;exact aa x _ (g.push q (c4 (w.heap.size,j))) (v q (c+1)) (H.set q ⟨elem,e,f,c+1⟩) ⟨rfl,rfl⟩ (I _ _ _ _ _ (Gh.kg _ _ _) (by simp[ad])) ag K
theorem P7{f:Gh}{c:List aO}{i:World}{elem k e b q a:Nat}{v:PV}(j:f.β q=c4 (b,e))(h:c[q]? =c4 ⟨elem,k,[v],a⟩):
 VR f c i (.ptr q a 0 0) (.pointer (c4 ⟨b,0,c6⟩)):=
 .ptr _ a 0 0 _ _ h (dt _) λ_=>⟨by simp,b,e,j,by simp⟩
theorem FO{g':Gh}{f:List aO}{w':World}{elem k a b q e:Nat}{c:List PV}(i:g'.β q=c4 (b,a))(h:f[q]? =c4 ⟨elem,k,c,e⟩)(j:c.length<=a):
 VR g' f w' (.sl q e 0 c.length) (.slice (c4 ⟨b,0,c6⟩) c.length a):=
 .sl _ e 0 _ _ _ h (dt _) rfl λ_=>by
  refine⟨by simp,?_⟩
  rw[i];exact⟨a,_,rfl,j,λ_=>by simp,λ_=>⟨rfl,rfl⟩⟩
theorem alO{elem b:Nat}{v:PV}(u:PE E x=v)(m:v.cells.length=b)(l:0<b)(h:v.cells.all PV.one=true)(p:∀vs,v≠ .bu vs):
 nY P E H ⟨d,.box elem x,ty,pos,aft,c6⟩ elem b [v] (λq e=>.ptr q e 0 0):=by
 intro g nt o w r;have k:=u▸r.e.eval x;obtain⟨j,B⟩:=k.tZ h p;refine⟨(o.eval x).cells,1,.pointer (c4 ⟨w.heap.size,0,c6⟩),w,?_,.inl rfl,l,?_,?_,by simp[maxLen],by simp,?_,λD F C q e n f=>P7 n f⟩
 ·simp[execOp,Instr.box,newVar,newRow]
 ·intro i G a
  match i,a with
  |0,a=>simp at a;subst a;exact m
  |i+1,a=>simp at a
 ·simp at j;omega
 ·intro i s A c;obtain⟨rfl,c⟩:=Rk c;simpa using B s A c
theorem Hl(z:Value)(vs:List PV):kP z≠ .bu vs:=by
 unfold kP
 split
 ·simp
 ·unfold jq
  split <;> simp
theorem Ug{elem c:Nat}{b:Value}{v:PV}(m:dV P elem=c4 b)(f:kP b=v)(o:v.cells.length=c)(n:0<c)(k:v.cells.all PV.one=true):
 nY P E H ⟨d,.alloc elem,ty,pos,aft,c6⟩ elem c [v] (λq h=>.ptr q h 0 0):=by
 intro g nt D w G;have s:VR g H w v b:=f▸ .aW (AE _ _ _);obtain⟨l,A⟩:=s.tZ k (λvs=>f▸Hl b vs);refine⟨b.cells,1,.pointer (c4 ⟨w.heap.size,0,c6⟩),w,?_,.inl rfl,n,?_,?_,by simp[maxLen],by simp,?_,λC F B q h p j=>P7 p j⟩
 ·simp[execOp,Instr.alloc,Ey m,newVar,newRow]
 ·intro i I a
  match i,a with
  |0,a=>simp at a;subst a;exact o
  |i+1,a=>simp at a
 ·simp at l;omega
 ·intro i r u e;obtain⟨rfl,e⟩:=Rk e;simpa using A r u e
def kB(P:Program)(t:TypeId):Option Nat:=(P.info? t).map (·.bytes)
theorem Rq{c:Nat}{v:PV}{i e:Nat}{f:PV}(a:cellOf (f6 c v) i e=c4 f):i<c/\v.cells[e]? =c4 f:=by
 unfold cellOf at a
 by_cases b:i<c
 ·rw[List.getElem?_replicate_of_lt b] at a;exact⟨b,by simpa using a⟩
 ·rw[f8 (by simpa using b)] at a;simp at a
theorem aax{l k:Operand}{elem b m:Nat}{c:Value}{v:PV}{u n:IntKind}{p D:Int}{a:Nat}(X:PE E l= .int u p)(f:PE E k= .int n D)(V:p=(a:Int))(aj:D=(a:Int))(ab:dU P t=c4 elem)(G:cH P elem=c4 b)(af:kB P elem=c4 m)
 (an:a*m<=281474976710656) (aq:a<=9223372036854775807) (N:dV P elem=c4 c) (o:kP c=v) (s:v.cells.length=b) (O:0<b) (K:v.cells.all PV.one=true):
 nY P E H ⟨d,.makeSlice t l k,ty,pos,aft,c6⟩ elem b (f6 a v) (λq A=>.sl q A 0 a):=by
 intro g nt al w B;have ag:VR g H w v c:=o▸ .aW (AE _ _ _);obtain⟨L,ak⟩:=ag.tZ K (λvs=>o▸Hl c vs);have R:=(X▸B.e.eval l).fQ;have ah:=(f▸B.e.eval k).fQ;subst V;subst aj;cases h:P.info? elem with
 |none=>simp[cH,h] at G
 |some e=>
  have aa:e.zero=c4 c:=by simpa[dV,h] using N
  have F:e.size=b:=by simpa[cH,h] using G
  have U:e.bytes=m:=by simpa[kB,h] using af
  have ai:(e.bytes:Int)*(a:Int)<=281474976710656:=by
   have:((e.bytes*a:Nat):Int)<=281474976710656:=by rw[U,hK];omega
   rwa [Int.natCast_mul] at this
  have C:=run_make (P:=P) w t elem e c (gD ab) h aa u n a a (by omega) (by omega) ai (by omega);simp only[Int.toNat_natCast] at C;have Y:c.cells.size=b:=by simp at L;omega
  refine⟨madeCells c.cells (a*e.size),a,.slice (c4 ⟨w.heap.size,0,c6⟩) a a,w,?_,.inl rfl,O,?_,?_,by unfold maxLen;omega,by simp,?_,λg' ao w' q A W J=>?_⟩
  ·simp[execOp,R,ah,C]
  ·intro i ap M;have r:=(c7.1 M).2;simp at r;subst r;exact s
  ·rw[size_madeCells,F]
  ·intro i j k f;obtain⟨am,f⟩:=Rq f;obtain⟨ae,ac,Z,ad⟩:=ak j k f;have T:j<b:=by rw[<-s];exact(c7.1 f).1
   refine⟨ae,?_,Z,ad⟩
   have S:i*b+j<a*b:=by
    have:(i+1)*b<=a*b:=e4 _ (by omega);rw[e0,g5] at this;omega
   have I:(i*b+j)%c.cells.size=j:=by
    rw[Y,hK,Nat.mul_add_mod,Nat.mod_eq_of_lt T]
   simp only[madeCells,F];rw[Array.getElem?_map,Array.getElem?_range];rw[if_pos S];simp only[Option.map_some,I];rw[getElem!_def,ac]
  ·have:=FO (g':=g') (w':=w') W J (by simp);simpa using this
end
section
variable {P : Program} {nt : Nat} {Q : fE} {E : Env} {H : List aO} {d : Option Nat} {ty : TypeId} {pos : String} {aft : Array Edge} {x y z : Operand} {t : TypeId} {all : Array Oper} {rest : List Oper}
theorem WX{e:List PV}{i:Nat}{g f:PV}(h:e[i]? =c4 g)(a c:Nat):cellOf (e.set i f) a c=if a=i then f.cells[c]? else cellOf e a c:=by
 unfold cellOf
 by_cases b:a=i
 ·subst b;have j:=(c7.1 h).1;simp[j]
 ·simp[b,e5 (Ne.symm b)]
theorem QH{r v i a:Nat}{o:aO}{p e e':PV}(ax:PE E x= .ptr r v i a)(R:ek H r o)(av:o.aF=v)(aq:PE E y=p)(aj:cH P t=c4 p.cells.length)
 (aB:p.cells.all PV.one=true) (al:∀vs,p≠ .bu vs) (M:o.es[i]? =c4 e) (aS:a+p.cells.length<=e.cells.length) (Y:e'.cells=e.cells.take a++p.cells++e.cells.drop (a+p.cells.length)):
 fJ P ⟨d,.store t x y,ty,pos,aft,c6⟩ E H λao H1=>ao= .any/\H1=H.set r ⟨o.ty,o.sz,o.es.set i e',o.aF⟩:=by
 intro g nt l w F aP aV ay;obtain⟨b,D,aK,ap,L,aH,X,ab,ag,U⟩:=Dc F.m (ax▸F.e.eval x) R av;have az:=aq▸F.e.eval y;obtain⟨B,ae⟩:=az.tZ aB al;have G:=F.m.obj r o R;have aR:=G.width i e M;have J:i*o.sz+a+0+(l.eval y).cells.toList.length<=aK.size:=by
  rw[ab,B];have:(i+1)*o.sz<=D*o.sz:=e4 _ (by omega);rw[e0,g5] at this;omega
 have N:∀c∈(l.eval y).cells.toList,c.oneCell'=true:=by
  intro c j;obtain⟨n,aa,rfl⟩:=dT j;have aA:n<p.cells.length:=by omega
  obtain⟨c,j,m,_⟩:=ae n _ (c5 aA);have:(l.eval y).cells.toList[n]=c:=by
   rw[<-ee,c5 aa] at j;injection j
  rw[this];exact m
 have Z:=run_storeCells_at P b (i*o.sz+a) o.ty (l.eval y).cells.toList 0 aK w X J N;simp only[hI] at Z;have am:H[r]? =c4 o:=R;have ar:(execOp l.eval ⟨d,.store t x y,ty,pos,aft,c6⟩).run P w= .ok .skip (w.setRow b (aK.toList.take (i*o.sz+a)++(l.eval y).cells.toList++aK.toList.drop (i*o.sz+a+(l.eval y).cells.toList.length)).toArray):=by
  have aC:(l.eval y).cells.size=p.cells.length:=by simpa using B
  simp only[execOp,ap,Instr.storeAt,f7,ej,f5,e6,storeVar,run_sizeOf aj,aC,ne_eq,not_true_eq_false,if_false,Z]
 unfold i6;rw[ar];generalize O:(aK.toList.take (i*o.sz+a)++(l.eval y).cells.toList++aK.toList.drop (i*o.sz+a+(l.eval y).cells.toList.length)).toArray=s;have aE:s.size=aK.size:=by
  rw[<-O];simp only[h9,ec,ef,ge,ey];simp at J⊢;omega
 have ah:∀n,n<p.cells.length->s[i*o.sz+a+n]? =(l.eval y).cells[n]? :=λn aa=>by
  rw[<-O,hq,ea,d2 (by simp;omega),d3 (by simp at B⊢;omega)];simp
  congr 1
  simp at J;omega
 have V:∀q,q<i*o.sz+a\/i*o.sz+a+p.cells.length<=q->s[q]? =aK[q]? :=λq K=>by
  rw[<-O,hq];simp at J;rcases K with K |K
  ·rw[ea,d3 (by simp;omega),d5 K];simp
  ·rw[d2 (by simp at B⊢;omega),d9];simp at B⊢
   congr 1
   omega
 have aT:i*o.sz+a<=aK.size:=by simp at J;omega
 have an:=F.m.set (r:=r) (o:=o) (o':=⟨o.ty,o.sz,o.es.set i e',o.aF⟩) (w':=w.setRow b s) (p:=c4 (b,D)) am rfl rfl rfl (by simp)
  (λad aN aG=>setRow_other w b ad s (λe=>aG D (by rw[e];exact L))) (dt _) (λ_=>⟨rfl,by simp,L.symm⟩)
  (λad aQ S=>by injection S with S;injection S with N m;subst N;exact .inl ⟨D,L⟩) G.pos
  (λh T I=>by
   by_cases A:h=i
   ·subst A;simp[aH] at I;subst I;rw[Y];simp;omega
   ·simp only at I;rw[e5 (Ne.symm A)] at I;exact G.width h T I)
  (by
   have ac:=G.mem;rw[L] at ac;obtain⟨_,aY,aX,aI,ak,aU,aM⟩:=ac;refine⟨s,setRow_heap w b aK s o.ty (0,0) X,by rw[aE,ab],ak,by simpa using ag,λh k C f=>?_⟩
   show ∃c,s[h*o.sz+k]? =c4 c/\c.oneCell'=true/\VR g H w C c
   simp only at f;rw[WX M] at f
   by_cases A:h=i
   ·subst A;rw[if_pos rfl,Y,ea] at f
    by_cases ai:k<a
    ·rw[d3 (by simp;omega),d5 ai] at f;obtain⟨c,j,m,u⟩:=U h k C (by unfold cellOf;rw[M];exact f);exact⟨c,(V _ (.inl (by omega))).trans j,m,u⟩
    ·rw[d2 (by simp;omega)] at f;have aF:min a e.cells.length=a:=by omega
     simp only[ef,aF] at f
     by_cases W:k -a<p.cells.length
     ·rw[d3 W] at f;obtain⟨c,j,m,u⟩:=ae _ C f;refine⟨c,?_,m,u⟩
      have:=ah (k -a) W;rw[show h*o.sz+a+(k -a)=h*o.sz+k by omega] at this;exact this.trans j
     ·rw[d2 (by omega),d9] at f;rw[show a+p.cells.length+(k -a -p.cells.length)=k by omega] at f;obtain⟨c,j,m,u⟩:=U h k C (by unfold cellOf;rw[M];exact f);exact⟨c,(V _ (.inr (by omega))).trans j,m,u⟩
   ·rw[if_neg A] at f;obtain⟨c,j,m,u⟩:=U h k C f;refine⟨c,(V _ ?_).trans j,m,u⟩
    obtain⟨T,af,aL⟩:=gw f;have aJ:=G.width h T af;rcases Nat.lt_or_gt_of_ne A with aD |jo
    ·have:(h+1)*o.sz<=i*o.sz:=e4 _ aD;rw[e0,g5] at this;exact .inl (by omega)
    ·have:(i+1)*o.sz<=h*o.sz:=e4 _ jo;rw[e0,g5] at this;exact .inr (by omega))
 obtain⟨aw,au⟩:=an;exact ay undef _ (g.push r (c4 (b,D))) .any _ ⟨rfl,rfl⟩ (.any _) au aw
def lE(H:List aO)(p:PV)(c:Nat)(b:List PV):Prop:=
 p= .vs c b\/(p= .bg/\b=[])\/(p= .z0/\b=[])\/∃r v e len a,p= .sl r v e len/\ek H r a/\a.aF=v/\a.sz=c/\b=(a.es.drop e).take len
theorem Jv{c a q:Nat}(b:0<a)(e:q<c*a):q/a<c/\q%a<a/\q/a*a+q%a=q:=by
 refine⟨(Nat.div_lt_iff_lt_mul b).2 e,Nat.mod_lt _ b,?_⟩
 rw[hK];exact Nat.div_add_mod q a
theorem Gg{a:List PV}{f i b:Nat}(h:∀(i:Nat) (c:PV),a[i]? =c4 c->c.cells.length=f)(g:i<a.length)(k:b<f):∃j,cellOf a i b=c4 j:=by
 have e:=c5 g;have:=h i _ e;refine⟨a[i].cells[b]'(by omega),?_⟩
 unfold cellOf;rw[e];exact c5 (by omega)
theorem gI.one{g:Gh}{H:List aO}{n:World}{sz:Nat}{es:List PV}{l:List Value}(h:gI g H n sz es l)(B:0<sz)(s:∀(i:Nat) (e:PV),es[i]? =c4 e->e.cells.length=sz):∀j∈l,j.oneCell'=true:=by
 intro j m;obtain⟨q,k,rfl⟩:=dT m;obtain⟨C,o,u⟩:=Jv B (h.1▸k);obtain⟨c,A⟩:=Gg s C o;obtain⟨j,a,w,_⟩:=h.2 _ _ _ A;rw[u,c5 k] at a;injection a with a
 rw[a];exact w
theorem lE.real{g:Gh}{A:World}{p:PV}{sz:Nat}{l:List PV}{v:Value}(ab:bF g H A)(h:lE H p sz l)(o:VR g H A p v)(S:0<sz):
 (∀(i:Nat) (e:PV),l[i]? =c4 e->e.cells.length=sz)/\∃a cap,v= .slice a l.length cap/\(l=[]\/∃N O,a=c4 N/\gI g H A sz l O/\∀j m,O[j]? =c4 m->A.cell? (N.add j)=c4 m):=by
 rcases h with rfl |⟨rfl,rfl⟩ |⟨rfl,rfl⟩ |⟨r,ap,off,len,k,rfl,M,ai,w,rfl⟩
 ·cases o with
  |aW o=>
   cases o with
   |eX sz a cap=>exact⟨by simp,a,cap,rfl,.inl rfl⟩
   |vs _ _ b off cap m G an w u I Z=>
    refine⟨w,c4 ⟨b,off,c6⟩,cap,rfl,.inr ⟨⟨b,off,c6⟩,(i8 (l.length*sz)).map λq=>m (q/sz) (q%sz),rfl,⟨by simp,λi j c B=>?_⟩,λq ao D=>?_⟩⟩
    ·obtain⟨e,he,Y⟩:=gw B;have L:=(c7.1 he).1;have ac:=w i e he;have F:i*sz+j<l.length*sz:=by
      have:(i+1)*sz<=l.length*sz:=e4 _ (by omega);rw[e0,g5] at this;omega
     refine⟨m i j,?_,I i j c B,.aW (Z i j c B)⟩
     rw[d8,f2 F];have aj:(i*sz+j)/sz=i:=by rw[hK,Nat.mul_add_div S,Nat.div_eq_of_lt (by omega)];omega
     have U:(i*sz+j)%sz=j:=by rw[hK,Nat.mul_add_mod,Nat.mod_eq_of_lt (by omega)]
     simp[aj,U]
    ·have K:q<l.length*sz:=by
      have:=(c7.1 D).1;simpa using this
     rw[d8,f2 K] at D;simp at D;subst D;obtain⟨T,aa,af⟩:=Jv S K;obtain⟨c,B⟩:=Gg w T aa;have:=u _ _ _ B;rw[af] at this;rw[f1];exact this
 ·exact⟨by simp,c6,0,o.pF,.inl rfl⟩
 ·obtain⟨a,ah⟩:=o.rh;exact⟨by simp,a,0,ah,.inl rfl⟩
 ·have s:=lh o M ai;have J:=ab.obj r k M;subst w;unfold SL at s;obtain⟨am,s⟩:=s;have G:((k.es.drop off).take len).length=len:=by simp;omega
  refine⟨λi e he=>?_,?_⟩
  ·rw[eE] at he
   split at he
   ·rw[d9] at he;exact J.width _ e he
   ·cases he
  ·rw[G]
   split at s
   ·obtain⟨_,rfl,a,rfl⟩:=s;exact⟨a,0,rfl,.inl (by simp)⟩
   ·rename_i b C ad;obtain⟨cap,a,rfl,_,ak,_⟩:=s;refine⟨a,cap,rfl,?_⟩
    by_cases h0:len=0
    ·exact .inl (by simp[h0])
    ·obtain rfl:=ak h0;have R:=J.mem;rw[ad] at R;obtain⟨_,cells,al,X,aq,ar,V⟩:=R;have W:(off+len)*k.sz<=C*k.sz:=e4 _ (by omega);rw[e0] at W;refine .inr ⟨⟨b,off*k.sz,c6⟩,(cells.toList.drop (off*k.sz)).take (len*k.sz),rfl,⟨by rw[G,ef,ge,ey,X];omega,λi j c u=>?_⟩,λq m n=>?_⟩
     ·obtain⟨e,he,Y⟩:=gw u;rw[eE] at he
      split at he
      ·rename_i L;rw[d9] at he;have ac:=J.width _ e he;have ae:cellOf k.es (off+i) j=c4 c:=by
        unfold cellOf at u⊢;rw[d5 L,d9] at u;exact u
       obtain⟨m,n,I,ag⟩:=V _ _ _ ae;refine⟨m,?_,I,ag⟩
       have F:i*k.sz+j<len*k.sz:=by
        have:(i+1)*k.sz<=len*k.sz:=e4 _ (by omega);rw[e0,g5] at this;omega
       rw[d5 F,d9,ee, <-g9, <-e0];exact n
      ·cases he
     ·rw[eE] at n
      split at n
      ·rw[d9,ee] at n;rw[f1,cell_of_row A b _ cells k.ty (0,0) al];exact n
      ·cases n
end
section
variable {P : Program} {nt : Nat} {Q : fE} {E : Env} {H : List aO} {d : Option Nat} {ty : TypeId} {pos : String} {aft : Array Edge} {x y z : Operand} {t : TypeId} {all : Array Oper} {rest : List Oper}
theorem xr{f:World}{g c:TypeId}{j b cap i:Nat}{a e:Option Addr}(l:P.underlying t=c4 (.slice c))(h:cH P c=c4 j)(k:b<=cap):
 (fd #[t,t] g #[.slice a b cap,.slice e 0 i]).run P f= .ok (.slice a b cap) f:=by
 cases a <;> cases e <;> simp[fd,run_underlying l,run_sizeOf h,Builtin.lenOf,Builtin.firstCells,k,loadCells,loadCellsFrom,storeCells]
theorem Ei{c:Operand}{a:Act}{b:World}:(execOp a.eval ⟨d,.call {callee:=.builtin .append,args:=#[c,x],argTypes:=#[t,t]},ty,pos,aft,c6⟩).run P b=
 ((fd #[t,t] ty #[a.eval c,a.eval x]).run P b).andThen λv e=>.ok (.value v) e:=by
 simp[execOp,resolve,invoke,builtin]
theorem Pb{s:Operand}{r v len by_:Nat}{o:aO}{p:PV}{c:List PV}{K:Value}(bd:PE E s= .sl r v 0 len)(ap:ek H r o)(bc:o.aF=v)(be:PE E x=p)(br:lE H p o.sz c)
 (L:dU P t=c4 o.ty) (R:cH P o.ty=c4 o.sz) (bf:kB P o.ty=c4 by_) (a3:dV P o.ty=c4 K) (aC:K.cells.size=o.sz) (aL:(len+c.length)*by_<=140737488355328) (bi:len+c.length<=9223372036854775807):
 fJ P ⟨d,.call {callee:=.builtin .append,args:=#[s,x],argTypes:=#[t,t]},ty,pos,aft,c6⟩ E H λa2 H1=>a2= .sl r (v+1) 0 (len+c.length)/\H1=H.set r ⟨o.ty,o.sz,o.es.take len++c,v+1⟩:=by
 intro g nt aQ a X bz bD bh;have Y:=X.m.obj r o ap;have ag:=Y.pos;have aY:=lh (bd▸X.e.eval s) ap bc;obtain⟨aH,aU,W,bk,aN⟩:=br.real X.m (be▸X.e.eval x) ag;obtain⟨aT,ad⟩:=id aY;simp only[ev] at aT;have aA:H[r]? =c4 o:=ap;have ak:len+c.length<=maxLen:=by unfold maxLen;omega
 cases I:P.info? o.ty with
 |none=>simp[cH,I] at R
 |some J=>
 have am:J.zero=c4 K:=by simpa[dV,I] using a3
 have aJ:J.size=o.sz:=by simpa[cH,I] using R
 have T:J.bytes=by_:=by simpa[kB,I] using bf
 have af:(o.es.take len).length=len:=by simp;omega
 have aF:∀(i:Nat) (m:PV),(o.es.take len++c)[i]? =c4 m->m.cells.length=o.sz:=by
  intro i m F
  by_cases aj:i<len
  ·rw[d3 (by omega),d5 aj] at F;exact Y.width i m F
  ·rw[d2 (by omega)] at F;exact aH _ m F
 have aZ:∃(B:Value) (j:World) (q:Option (Nat×Nat)),(fd #[t,t] ty #[aQ.eval s,aQ.eval x]).run P a= .ok B j/\
  j.os=a.os/\j.tape=a.tape/\j.output=a.output/\a.heap.size<=j.heap.size/\(∀b,b<a.heap.size->(∀e,g.β r≠c4 (b,e))->j.heap[b]? =a.heap[b]?)/\
  (∀b e,q=c4 (b,e)->(∃M,g.β r=c4 (b,M))\/a.heap.size<=b)/\
  wG g H a j ⟨o.ty,o.sz,o.es.take len++c,v+1⟩ q/\
  (match q with
   |none=>len+c.length=0/\∃u,B= .slice u 0 0
   |some (b,e)=>B= .slice (c4 ⟨b,0,c6⟩) (len+c.length) e/\len+c.length<=e):=by
  have au:∀(Z n:List Value) (cells:Array Value),Z.length=len*o.sz->gI g H a o.sz c n->(∀i h l,i<len->cellOf o.es i h=c4 l->∃k,Z[i*o.sz+h]? =c4 k/\k.oneCell'=true/\VR g H a l k)->
   cells.toList.take ((len+c.length)*o.sz)=Z++n->∀i h l,cellOf (o.es.take len++c) i h=c4 l->∃k,cells[i*o.sz+h]? =c4 k/\k.oneCell'=true/\VR g H a l k:=by
   intro Z n cells O D ae aX i h l C;obtain⟨m,F,bo⟩:=gw C;have bx:=aF i m F;have aj:=(c7.1 F).1;rw[ec,af] at aj;have bj:i*o.sz+h<(len+c.length)*o.sz:=by
    have:(i+1)*o.sz<=(len+c.length)*o.sz:=e4 _ (by omega);rw[e0,g5] at this;omega
   have a4:cells[i*o.sz+h]? =(Z++n)[i*o.sz+h]? :=by rw[<-aX,d5 bj,ee]
   rw[a4]
   by_cases aD:i<len
   ·have ar:cellOf o.es i h=c4 l:=by
     unfold cellOf at C⊢;rw[d3 (by omega),d5 aD] at C;exact C
    obtain⟨k,N,A,G⟩:=ae i h l aD ar;refine⟨k,?_,A,G⟩
    rw[d3 (c7.1 N).1];exact N
   ·have ar:cellOf c (i -len) h=c4 l:=by
     unfold cellOf at C⊢;rw[d2 (by omega),af] at C;exact C
    obtain⟨k,N,A,G⟩:=D.2 _ _ _ ar;refine⟨k,?_,A,G⟩
    have aI:i*o.sz=len*o.sz+(i -len)*o.sz:=by rw[<-e0];congr 1;omega
    rw[d2 (by rw[O,aI];omega),O,aI];rw[show len*o.sz+(i -len)*o.sz+h -len*o.sz=(i -len)*o.sz+h by omega];exact N
  rw[bk];cases ac:g.β r with
  |none=>
   rw[ac] at ad;obtain⟨_,rfl,an,aw⟩:=ad;rw[aw];have bE:o.es=[]:=by have:=Y.mem;rw[ac] at this;exact this
   rcases aN with rfl |⟨u,n,rfl,D,ab⟩
   ·exact⟨_,a,c6,xr (gD L) R (dt _),rfl,rfl,rfl,dt _,λ_ _ _=>rfl,(λ_ _ f=>by cases f),by simp[wG],by simp⟩
   ·by_cases aB:c=[]
    ·subst aB;exact⟨_,a,c6,xr (gD L) R (dt _),rfl,rfl,rfl,dt _,λ_ _ _=>rfl,(λ_ _ f=>by cases f),by simp[wG],by simp⟩
    ·have bl:0<c.length:=List.length_pos_iff.2 aB;have aM:n.length=c.length*J.size:=by rw[aJ];exact D.1
     simp only[ev] at aL bi ak;have bv:∃e,(fd #[t,t] ty #[.slice an 0 0,.slice (c4 u) c.length W]).run P a= .ok (.slice (c4 ⟨a.heap.size,0,c6⟩) c.length e) (a.drew.alloc (.cells (n.toArray++hS K.cells (e -c.length)) o.ty))/\c.length<=e/\e<=maxLen:=by
      refine⟨grownCap a c.length 0 o.ty,?_,grownCap_ge a _ _ _,grownCap_le_maxLen a _ _ _ ak⟩
      cases an with
      |none=>exact run_append_nil a t ty o.ty J K (gD L) I am u c.length W n aM ab bl (by omega) (by rw[T];omega)
      |some bp=>
       have:=run_append_grow (P:=P) a t ty o.ty J K (gD L) I am bp 0 0 [] (by simp) (by simp) u c.length W n aM ab (by omega) (by omega) (growslice_fits (by omega) (by rw[T,ev];omega));simpa using this
     obtain⟨e,V,az,a6⟩:=bv;refine⟨_,_,c4 (a.heap.size,e),V,rfl,rfl,rfl,by simp,λb a9 _=>eo a.drew _ b a9,λb M f=>by injection f with f;injection f with A G;exact .inr (by omega),?_,by simp,by simpa using az⟩
     refine⟨_,heap_alloc_new a.drew _,?_,a6,by simpa using az,?_⟩
     ·simp only[Array.size_append,h9,size_zeroCells,aC,D.1, <-e0]
      congr 1
      omega
     ·refine au [] n _ (by simp) D (λi h l I=>by omega) ?_
      simp only[Array.toList_append,List.nil_append,ev];rw[<-D.1];exact List.take_left
  |some S=>
   obtain⟨b,e⟩:=S;rw[ac] at ad;obtain⟨cap,an,aw,aa,_,has⟩:=ad;obtain⟨rfl,rfl⟩:=has rfl;rw[aw];have aR:=Y.mem;rw[ac] at aR;obtain⟨bB,aK,aS,ax,ay,bC,a1⟩:=aR;have ae:∀i h l,i<len->cellOf o.es i h=c4 l->∃k,(aK.toList.take (len*o.sz))[i*o.sz+h]? =c4 k/\k.oneCell'=true/\VR g H a l k:=by
    intro i h l aj C;obtain⟨k,N,A,G⟩:=a1 i h l C;refine⟨k,?_,A,G⟩
    obtain⟨m,F,bo⟩:=gw C;have bw:=Y.width i m F;have bm:i*o.sz+h<len*o.sz:=by
     have:(i+1)*o.sz<=len*o.sz:=e4 _ (by omega);rw[e0,g5] at this;omega
    rw[d5 bm,ee];exact N
   have O:(aK.toList.take (len*o.sz)).length=len*o.sz:=by
    have:len*o.sz<=cap*o.sz:=e4 _ aa;simp;omega
   have aP:c=[]->∃(B:Value) (j:World) (q:Option (Nat×Nat)),(fd #[t,t] ty #[.slice (c4 ⟨b,0,c6⟩) len cap,.slice aU c.length W]).run P a= .ok B j/\
    j.os=a.os/\j.tape=a.tape/\j.output=a.output/\a.heap.size<=j.heap.size/\(∀w,w<a.heap.size->(∀e,c4 (b,cap)≠c4 (w,e))->j.heap[w]? =a.heap[w]?)/\
    (∀w e,q=c4 (w,e)->(∃M,c4 (b,cap)=c4 (w,M))\/a.heap.size<=w)/\
    wG g H a j ⟨o.ty,o.sz,o.es.take len++c,v+1⟩ q/\
    (match q with
     |none=>len+c.length=0/\∃u,B= .slice u 0 0
     |some (b,e)=>B= .slice (c4 ⟨b,0,c6⟩) (len+c.length) e/\len+c.length<=e):=by
    rintro rfl;refine⟨_,a,c4 (b,cap),xr (gD L) R aa,rfl,rfl,rfl,dt _,λ_ _ _=>rfl,λw M f=>by injection f with f;injection f with A G;exact .inl ⟨cap,by rw[A]⟩,?_,by simp,by simpa using aa⟩
    refine⟨aK,aS,ax,ay,by simp;omega,au _ [] aK O ⟨by simp,by simp[cellOf]⟩ ae (by simp)⟩
   rcases aN with rfl |⟨u,n,rfl,D,ab⟩
   ·exact aP rfl
   ·have a8:a.ownsRow 0 o.ty o.sz (.slice (c4 ⟨b,0,c6⟩) len cap) len (aK.toList.take (len*o.sz)):=
     ⟨O,.inr ⟨b,cap,aK,rfl,Nat.zero_le _,aS,aa,ay,ax,rfl⟩⟩
    obtain⟨bA,j,V,bs,U,_,aE⟩:=run_append_own_at (P:=P) a 0 t ty o.ty J K o.sz by_ (gD L) I am aJ T aC ag _ len _ a8 u c.length W n D.1 ab (D.one ag aH) ak aL (Nat.zero_le _);rcases bs.2 with⟨rfl,h0⟩ |⟨bn,bq,aG,rfl,_,ao,ah,al,aq,av⟩
    ·refine aP ?_
     have:c.length=0:=by omega
     exact d7 this
    ·refine⟨_,j,c4 (bn,bq),V,U.os,U.tape,U.output,U.size,λw T bt=>U.block w T (λm=>bt cap (by simp[Value.ownBlock] at m;rw[m])),λw M f=>?_,⟨aG,ao,aq,al,by rw[ec,af];exact ah,au _ n aG O D ae av⟩,rfl,ah⟩
     injection f with f
     injection f with A G
     subst A;simp only[Value.ownBlock] at aE;rcases aE with f |f
     ·injection f with f
      exact .inl ⟨cap,by rw[f]⟩
     ·injection f with f
      exact .inr (by omega)
 obtain⟨B,j,q,V,ao,ah,al,aq,av,a0,a7,ai⟩:=aZ;unfold i6;rw[Ei,V];obtain⟨a5,ba⟩:=X.m.set (o':=⟨o.ty,o.sz,o.es.take len++c,v+1⟩) aA ao ah al aq av (by simp;omega) (λm=>absurd m (by simp;omega)) a0 ag aF a7;have bb:r<H.length:=(c7.1 aA).1;refine bh B j (g.push r q) _ _ ⟨rfl,rfl⟩ ?_ ba a5
 refine .sl r (v+1) 0 _ ⟨o.ty,o.sz,o.es.take len++c,v+1⟩ B (by rw[dk bb]) (dt _) ?_ λ_=>?_
 ·cases q with
  |none=>obtain⟨_,u,rfl⟩:=ai;rfl
  |some S=>obtain⟨b,e⟩:=S;obtain⟨rfl,_⟩:=ai;rfl
 ·refine⟨by simp[af],?_⟩
  rw[Gh.kg];cases q with
  |none=>
   obtain⟨h0,u,rfl⟩:=ai;exact⟨rfl,h0,u,rfl⟩
  |some S=>
   obtain⟨b,e⟩:=S;obtain⟨rfl,aV⟩:=ai;exact⟨e,_,rfl,aV,λ_=>by simp,λ_=>⟨rfl,rfl⟩⟩
end
section
variable {P : Program} {nt : Nat} {Q : fE} {E : Env} {H : List aO} {d : Option Nat} {ty : TypeId} {pos : String} {aft : Array Edge} {gd : Option (Nat × Bool)} {x y z : Operand} {t : TypeId} {all : Array Oper} {rest : List Oper}
theorem PO{k:Operand}{c j A:Nat}{p:PV}{a:List PV}{f:Value}(n:PE E k= .bg\/PE E k= .z0)(ah:PE E x=p)(aa:lE H p j a)(D:0<j)
 (L:dU P t=c4 c) (I:cH P c=c4 j) (ai:kB P c=c4 A) (R:dV P c=c4 f) (ac:f.cells.size=j) (ax:a.length*A<=140737488355328) (aw:a.length<=9223372036854775807) (C:a≠[]):
 nY P E H ⟨d,.call {callee:=.builtin .append,args:=#[k,x],argTypes:=#[t,t]},ty,pos,aft,c6⟩ c j a (λq J=>.sl q J 0 a.length):=by
 have am:∀g nt (r:Act) b,Rel g nt E H r b->∃s,r.eval k= .slice s 0 0:=λg nt r b l=>by
  rcases n with n |n
  ·exact⟨c6,(n▸l.e.eval k).pF⟩
  ·exact(n▸l.e.eval k).rh
 have X:a.length<=maxLen:=by unfold maxLen;omega
 intro g nt r b l;obtain⟨s,al⟩:=am g nt r b l;obtain⟨ab,ar,u,T,S⟩:=aa.real l.m (ah▸l.e.eval x) D;rcases S with rfl |⟨v,o,rfl,w,G⟩
 ·exact absurd rfl C
 cases h:P.info? c with
 |none=>simp[cH,h] at I
 |some m=>
 have K:m.zero=c4 f:=by simpa[dV,h] using R
 have aj:m.size=j:=by simpa[cH,h] using I
 have F:m.bytes=A:=by simpa[kB,h] using ai
 have B:o.length=a.length*m.size:=by rw[aj];exact w.1
 have U:0<a.length:=List.length_pos_iff.2 C;have ap:∃e,(fd #[t,t] ty #[.slice s 0 0,.slice (c4 v) a.length u]).run P b= .ok (.slice (c4 ⟨b.heap.size,0,c6⟩) a.length e) (b.drew.alloc (.cells (o.toArray++hS f.cells (e -a.length)) c))/\a.length<=e/\e<=maxLen:=by
  refine⟨grownCap b a.length 0 c,?_,grownCap_ge b _ _ _,grownCap_le_maxLen b _ _ _ X⟩
  cases s with
  |none=>exact run_append_nil b t ty c m f (gD L) h K v a.length u o B G U (by omega) (by rw[F];omega)
  |some W=>
   have:=run_append_grow (P:=P) b t ty c m f (gD L) h K W 0 0 [] (by simp) (by simp) v a.length u o B G (by omega) (by omega) (growslice_fits (by omega) (by rw[F,ev];omega));simpa using this
 obtain⟨e,ak,N,Z⟩:=ap;refine⟨o.toArray++hS f.cells (e -a.length),e,.slice (c4 ⟨b.heap.size,0,c6⟩) a.length e,b.drew,?_,.inr rfl,D,ab,?_,Z,N,λi af an ao=>?_,λau av aq q J Y O=>FO Y O N⟩
 ·rw[Ei,al,T,ak]
  rfl
 ·simp only[Array.size_append,h9,size_zeroCells,ac,w.1, <-e0]
  congr 1
  omega
 ·obtain⟨ag,M,ad,ae⟩:=w.2 i af an ao;refine⟨ag,?_,ad,ae⟩
  have V:=(c7.1 M).1;rw[Array.getElem?_append_left (by simpa using V)];simpa using M
theorem Oh{s:Operand}{e a A q J F h:Nat}{p:PV}{c:List PV}{o:Value}(l:H[q]? =c4 ⟨J,F,[],h⟩)(f:PE E s= .bg\/PE E s= .z0)(w:PE E x=p)(u:lE H p a c)(m:0<a)
 (v:dU P t=c4 e) (r:cH P e=c4 a) (L:kB P e=c4 A) (C:dV P e=c4 o) (K:o.cells.size=a) (T:c.length*A<=140737488355328) (S:c.length<=9223372036854775807):
 fJ P ⟨d,.call {callee:=.builtin .append,args:=#[s,x],argTypes:=#[t,t]},ty,pos,aft,c6⟩ E H λB H1=>B= .sl q (h+1) 0 c.length/\H1=H.set q ⟨e,a,c,h+1⟩:=by
 have R:∀g nt (i:Act) j,Rel g nt E H i j->∃k,i.eval s= .slice k 0 0:=λg nt i j b=>by
  rcases f with f |f
  ·exact⟨c6,(f▸b.e.eval s).pF⟩
  ·exact(f▸b.e.eval s).rh
 have X:c.length<=maxLen:=by unfold maxLen;omega
 by_cases n:c=[]
 ·subst n;intro g nt i j b Y Z M;obtain⟨k,N⟩:=R g nt i j b;obtain⟨_,V,W,D,_⟩:=u.real b.m (w▸b.e.eval x) m;unfold i6;rw[Ei,N,D,hD,xr (gD v) r (dt _)];have O:=(c7.1 l).1;obtain⟨I,U⟩:=b.m.set (o':=⟨e,a,[],h+1⟩) (p:=c6) l rfl rfl rfl (dt _) (λ_ _ _=>rfl) (by simp) (λG=>absurd G (by simp)) (by simp) m (by simp) rfl;refine M (.slice k 0 0) j (g.push q c6) _ _ ⟨rfl,rfl⟩ ?_ U I
  refine .sl _ (h+1) 0 0 ⟨e,a,[],h+1⟩ _ (by simp[O]) (dt _) rfl λ_=>⟨by simp,?_⟩
  rw[Gh.kg];exact⟨rfl,rfl,k,rfl⟩
 ·exact sX l (PO f w u m v r L C K T S n)
def mU(E:Env)(e:Nat):Option Operand->Nat->Prop
 |none,a=>a=e
 |some c,a=>∃f b,PE E c= .int f b/\b=(a:Int)
theorem sQ{p:World}{u q:Nat}{n:Option Addr}{len cap a b:Nat}{f e:Option Operand}{h:Act}{g:Gh}{H:List aO}(s:fI g H p nt E h)(C:dU P t=c4 u)(j:cH P u=c4 q)(r:mU E 0 f a)(A:mU E len e b)(v:a<=b)(w:b<=cap):
 (gt t (.slice n len cap) (f.map h.eval) (e.map h.eval) (c6:Option Value)).run P p= .ok (.slice (if cap=a then n else n.map (·.add (a*q))) (b -a) (cap -a)) p:=by
 have l:=gD C;have i:f=c6/\a=0\/∃c,f.map h.eval=c4 (.int c (a:Int)):=by
  cases f with
  |none=>exact .inl ⟨rfl,r⟩
  |some o=>
   obtain⟨c,B,m,rfl⟩:=r;exact .inr ⟨c,by simp[(m▸s.eval o).fQ]⟩
 have k:e=c6/\b=len\/∃c,e.map h.eval=c4 (.int c (b:Int)):=by
  cases e with
  |none=>exact .inl ⟨rfl,A⟩
  |some o=>
   obtain⟨c,B,m,rfl⟩:=A;exact .inr ⟨c,by simp[(m▸s.eval o).fQ]⟩
 have G:((b:Nat):Int)<=(cap:Int):=by omega
 have F:((a:Nat):Int)<=(b:Int):=by omega
 rcases i with⟨rfl,rfl⟩ |⟨c,i⟩ <;> rcases k with⟨rfl,rfl⟩ |⟨D,k⟩
 ·simp[gt,hU,run_underlying l,gb,run_sizeOf j]
 ·simp[gt,hU,run_underlying l,gb,run_sizeOf j,k,hu,asIntOf,w]
 ·simp[gt,hU,run_underlying l,gb,run_sizeOf j,i,hu,asIntOf,v]
 ·simp[gt,hU,run_underlying l,gb,run_sizeOf j,i,k,hu,asIntOf,v,w]
theorem FV{g:List PV}{b c i e:Nat}{f:PV}(a:cellOf ((g.take c).drop b) i e=c4 f):cellOf g (b+i) e=c4 f/\b+i<c:=by
 unfold cellOf at*;rw[d9] at a
 by_cases h:b+i<c
 ·rw[d5 h] at a;exact⟨a,h⟩
 ·rw[f8 (by simp;omega)] at a;simp at a
theorem aaK{a J l h:Nat}{e K:List PV}{I q:Option Operand}(W:PE E x= .vs a e)(v:dU P t=c4 J)(s:cH P J=c4 a)(u:mU E 0 I l)(B:mU E e.length q h)(A:l<=h)(p:h<=e.length)(c:(e.take h).drop l=K):
 cM P ⟨d,.slice t x I q c6,ty,pos,aft,gd⟩ E H (.vs a K):=by
 intro g nt S w n;have m:=W▸n.e.eval x;subst c;have C:((e.take h).drop l).length=h -l:=by simp;omega
 generalize r:S.eval x=ad at m;cases m with
 |aW m=>
  cases m with
  |eX a G cap=>
   simp only[hD,Nat.le_zero] at p;subst p;have M:l=0:=by omega
   subst M;refine⟨.slice (if cap=0 then G else G.map (·.add (0*a))) (0 -0) (cap -0),?_,.aW (.eX a _ _)⟩
   have T:mU E 0 q 0:=B;simp only[execOp,r,g7,ej,sQ n.e v s u T A (Nat.zero_le _),e6,f5]
  |vs _ _ b o cap V D N R aa U O=>
   by_cases ac:l<h
   ·refine⟨.slice (c4 ⟨b,o+l*a,c6⟩) (h -l) (cap -l),?_,?_⟩
    ·have Y:¬cap=l:=by omega
     simp only[execOp,r,g7,ej,sQ n.e v s u B A (f4 p D),e6,f5,if_neg Y,Option.map_some,f1]
    ·have:=VI.vs (F:=g.F) (w:=w) a ((e.take h).drop l) b (o+l*a) (cap -l) (λi f=>V (l+i) f) (by omega) N
      (λi Z c=>by
       rw[d9] at c
       by_cases X:l+i<h
       ·rw[d5 X] at c;exact R _ Z c
       ·rw[f8 (by simp;omega)] at c;cases c)
      (λi f k j=>by
       have:=aa (l+i) f k (FV j).1;rw[e0] at this;rw[<-this]
       congr 2
       omega)
      (λi f k j=>U _ _ k (FV j).1) (λi f k j=>O _ _ k (FV j).1)
     rw[C] at this;exact .aW this
   ·have ab:l=h:=by omega
    have L:(e.take h).drop l=[]:=d7 (by rw[C];omega);rw[L];refine⟨.slice (if cap=l then c4 ⟨b,o,c6⟩ else(c4 ⟨b,o,c6⟩:Option Addr).map (·.add (l*a))) 0 (cap -l),?_,.aW (.eX a _ _)⟩
    simp only[execOp,r,g7,ej,sQ n.e v s u B A (f4 p D),e6,f5];rw[show h -l=0 by omega]
theorem acJ{i e:Nat}{b c:Option Operand}(j:PE E x= .bg)(m:dU P t=c4 e)(l:cH P e=c4 i)(h:mU E 0 b 0)(k:mU E 0 c 0):
 cM P ⟨d,.slice t x b c c6,ty,pos,aft,gd⟩ E H .bg:=by
 intro g nt o n a;have f:=(j▸a.e.eval x).pF;refine⟨.slice c6 0 0,?_,.aW .bg⟩
 simp only[execOp,f,g7,ej,sQ a.e m l h k (dt _) (dt _),e6,f5]
 rfl
theorem SC{q r v s len l h:Nat}{c:aO}{lo hi:Option Operand}(D:PE E x= .sl r v s len)(i:ek H r c)(w:c.aF=v)(p:dU P t=c4 q)(m:cH P q=c4 c.sz)(o:mU E 0 lo l)(u:mU E len hi h)(G:l<=h)(K:h<=len):
 cM P ⟨d,.slice t x lo hi c6,ty,pos,aft,gd⟩ E H (.sl r v (s+l) (h -l)):=by
 intro g nt O T k;have a:=lh (D▸k.e.eval x) i w;have n:v<=c.aF:=by omega
 unfold SL at a;obtain⟨L,a⟩:=a;cases f:g.β r with
 |none=>
  rw[f] at a;obtain⟨rfl,rfl,e,j⟩:=a;have h0:h=0:=by omega
  have B:l=0:=by omega
  subst h0;subst B;refine⟨.slice e 0 0,?_,.sl r v _ _ c _ i n rfl λ_=>⟨by omega,?_⟩⟩
  ·simp only[execOp,j,g7,ej,sQ k.e p m o u (dt _) (dt _),e6,f5]
   rfl
  ·rw[f];exact⟨rfl,rfl,e,rfl⟩
 |some J=>
  obtain⟨b,N⟩:=J;rw[f] at a;obtain⟨cap,e,j,I,F,h0⟩:=a;refine⟨.slice (if cap=l then e else e.map (·.add (l*c.sz))) (h -l) (cap -l),?_,.sl r v _ _ c _ i n rfl λ_=>⟨by omega,?_⟩⟩
  ·simp only[execOp,j,g7,ej,sQ k.e p m o u G (f4 K I),e6,f5]
  ·rw[f];refine⟨cap -l,_,rfl,by omega,λR=>?_,λM=>?_⟩
   ·rw[if_neg (by omega),F (by omega),Option.map_some,f1,e0]
   ·obtain⟨C,S⟩:=h0 (by omega);have A:l=0:=by omega
    subst A;subst C;refine⟨?_,by omega⟩
    split
    ·rfl
    ·simp[Addr.add_zero']
theorem Zm{c h:Nat}{b e:Operand}{n p:IntKind}{r:List PV}(o:lE H (PE E x) c r)(k:0<c)(q:dU P t=c4 h)(l:cH P h=c4 c)(u:PE E b= .int n 0)(m:PE E e= .int p 0):
 cM P ⟨d,.slice t x c6 (c4 b) (c4 e),ty,pos,aft,gd⟩ E H .z0:=by
 intro g nt v w a;obtain⟨_,f,cap,j,_⟩:=o.real a.m (a.e.eval x) k;refine⟨.slice f 0 0,?_,.aW (.z0 f)⟩
 have s:=(u▸a.e.eval b).fQ;have i:=(m▸a.e.eval e).fQ;simp[execOp,j,s,i,gt,hU,run_underlying (gD q),gb,run_sizeOf l,hu,asIntOf]
end
theorem MV(b:Nat):∀(e:List Value) (a:Nat) (c:Array Value),b+a+e.length<=c.size->
 (e.zipIdx a).foldl (λc p=>c.setIfInBounds (b+p.2) p.1) c=(c.toList.take (b+a)++e++c.toList.drop (b+a+e.length)).toArray
 |[],a,c,_=>by simp
 |l::e,a,c,g=>by
  rw[List.zipIdx_cons,List.foldl_cons,MV b e (a+1) _ (by simp at g⊢;omega)];simp only[List.length_cons] at g
  congr 1
  apply List.ext_getElem?
  intro f;simp only[Array.toList_setIfInBounds,List.length_cons]
  by_cases m:f<b+a
  ·rw[ea,ea,d3 (by simp;omega),d3 (by simp;omega),d5 (by omega),d5 m,e5 (by omega)]
  ·by_cases j:f=b+a
   ·subst j;rw[ea,ea,d3 (by simp;omega),d5 (by omega),dk (by simp;omega),d2 (by simp;omega)];have:min (b+a) c.size=b+a:=by omega
    simp[this]
   ·rw[ea,ea,d2 (l₁:=(c.toList.set (b+a) l).take (b+(a+1))) (by simp;omega),d2 (l₁:=c.toList.take (b+a)) (by simp;omega)];have k:min (b+(a+1)) c.size=b+(a+1):=by omega
    have i:min (b+a) c.size=b+a:=by omega
    simp only[ef,List.length_set,ey,k,i,List.cons_append];rw[show f - (b+a)=(f - (b+(a+1)))+1 by omega,List.getElem?_cons_succ]
    by_cases h:f - (b+(a+1))<e.length
    ·rw[d3 h,d3 h]
    ·rw[d2 (by omega),d2 (by omega),d9,d9,e5 (by omega)]
     congr 1
     omega
theorem ajC{place:Nat->Option (Nat×Nat)}{cells:Array Value}{i a size:Nat}{v:Value}{rest:List (Nat×Value)}(c:place i=c4 (a,size))(b:v.cells.size=size)(f:a+size<=cells.size):
 hz place cells ((i,v)::rest)=hz place (cells.toList.take a++v.cells.toList++cells.toList.drop (a+size)).toArray rest:=by
 have e:(c3 (v.cells.size≠size)||c3 (a+v.cells.size>cells.size))=false:=by simp[b];omega
 simp only[hz,c];rw[if_neg (by simp[b];omega)]
 congr 1
 have:=MV a v.cells.toList 0 cells (by simp[b];omega);simp only[hI,ey,b] at this;rw[<-this, <-Array.foldl_toList,Array.toList_zipIdx]
def qn(E:Env):List (Nat×Operand)->List (Nat×PV)->Prop
 |[],[]=>True
 |(i,a)::r,(b,v)::c=>i=b/\PE E a=v/\qn E r c
 |_,_=>False
def mE(place:Nat->Option (Nat×Nat))(cells:List PV):List (Nat×PV)->Option (List PV)
 |[]=>c4 cells
 |(i,v)::r=>
  match place i with
  |none=>c6
  |some (a,size)=>bif d6 v.cells.length size&&f9 (a+size) cells.length&&v.cells.all PV.one then mE place (cells.take a++v.cells++cells.drop (a+size)) r else c6
def DO(g:Gh)(H:List aO)(h:World)(e:List PV)(f:Array Value):Prop:=
 f.size=e.length/\∀(b:Nat) (c:PV),e[b]? =c4 c->∃a,f[b]? =c4 a/\a.oneCell'=true/\VR g H h c a
theorem BQ{g:Gh}{H:List aO}{r:World}{nt:Nat}{E:Env}{o:Act}(C:fI g H r nt E o)(place:Nat->Option (Nat×Nat)):∀(k:List (Nat×Operand)) (vs:List (Nat×PV)) (h:List PV) (f:Array Value) (j:List PV),
 qn E k vs->(∀i v,(i,v)∈vs->∀L,v≠ .bu L)->DO g H r h f->mE place h vs=c4 j->∃A,hz place f (k.map λ(i,x)=>(i,o.eval x))=c4 A/\DO g H r j A
 |[],[],h,f,j,_,_,c,a=>by
  simp only[mE,hX] at a;subst a;exact⟨f,rfl,c⟩
 |(i,D)::k,(U,v)::vs,h,f,j,R,B,c,a=>by
  obtain⟨rfl,I,M⟩:=R;simp only[mE] at a;cases u:place i with
  |none=>simp[u] at a
  |some p=>
   obtain⟨e,size⟩:=p;simp only[u] at a;cases l:(d6 v.cells.length size&&f9 (e+size) h.length&&v.cells.all PV.one) with
   |false=>simp[l] at a
   |true=>
    rw[l] at a;simp only[cond_true] at a;simp only[Bool.and_eq_true] at l;obtain⟨⟨m,q⟩,K⟩:=l;have m:=ez m;have q:=dv q;have S:=I▸C.eval D;obtain⟨G,T⟩:=S.tZ K (B i v (by simp));have n:(o.eval D).cells.size=size:=by simp at G;omega
    rw[i3,ajC u n (by rw[c.1];exact q)];refine BQ C place k vs _ _ j M (λi v J=>B i v (by simp[J])) ⟨?_,λw s b=>?_⟩ a
    ·simp only[h9,ec,ef,ge,ey,c.1,n,m]
    ·rw[hq];have N:min e f.size=e:=by rw[c.1];omega
     have F:min e h.length=e:=by omega
     by_cases O:w<e
     ·rw[ea,d3 (by simp;omega),d5 O] at b⊢;simpa using c.2 w s b
     ·rw[ea,d2 (by simp;omega)] at b⊢;simp only[ef,ey,N,F] at b⊢
      by_cases V:w -e<size
      ·rw[d3 (by omega)] at b;rw[d3 (by simp;omega)];simpa using T _ s b
      ·rw[d2 (by omega),d9] at b;rw[d2 (by simp;omega),d9];simp only[ey,m,n] at b⊢;simpa using c.2 _ s b
section
variable {P : Program} {nt : Nat} {Q : fE} {E : Env} {H : List aO} {d : Option Nat} {ty : TypeId} {pos : String} {aft : Array Edge} {gd : Option (Nat × Bool)} {x y z : Operand} {t : TypeId} {all : Array Oper} {rest : List Oper}
def Jk(P:Program)(t:TypeId):Option (List (Nat×Nat)):=
 match P.underlying t with
 |some (.struct a)=>a.toList.mapM λf=>(P.info? f.type).map λi=>(f.offset,i.size)
 |_=>c6
theorem aeV{v:Value}{b:PV}(c:jq v=b)(a:b.one=true):v.oneCell'=true:=by
 subst c;unfold jq at a
 split at a <;> first |rfl |(simp[PV.one] at a;done)
theorem Qu{g:Gh}{H:List aO}{f:World}{c:List Value}(e:(c.map jq).all PV.one=true):DO g H f (c.map jq) c.toArray:=by
 refine⟨by simp,λh i a=>?_⟩
 rw[d8] at a;cases b:c[h]? with
 |none=>simp[b] at a
 |some z=>
  simp[b] at a;refine⟨z,by simp[b],aeV a ?_,a▸ .aW (KQ _ _ _)⟩
  exact eH.1 e i (by rw[<-a];exact i9.2 ⟨z,d4 b,rfl⟩)
theorem ahR{e:List (Nat×Operand)}{vs:List (Nat×PV)}{zs:List Value}{l c:List PV}{n:List (Nat×Nat)}(b:dV P t=c4 (.agg zs.toArray))(q:zs.map jq=l)(o:l.all PV.one=true)(h:Jk P t=c4 n)
 (D:qn E e vs) (C:∀i v,(i,v)∈vs->∀A,v≠ .bu A) (G:mE (n.toArray[·]?) l vs=c4 c):cM P ⟨d,.build t e.toArray,ty,pos,aft,gd⟩ E H (.agg c):=by
 intro g nt s w B;subst q;obtain⟨a,u,m⟩:=BQ B.e _ e vs _ _ c D C (Qu o) G;refine⟨.agg a,?_,?_⟩
 ·have r:P.built t ((e.toArray.map λ(i,x)=>(i,s.eval x)).toList)=c4 a:=by
   unfold Jk at h;unfold dV at b;cases j:P.info? t with
   |none=>simp[j] at b
   |some J=>
    simp[j] at b
    split at h
    ·rename_i L k;simp only[Program.built,j,k,b,h];simpa[Value.cells] using u
    ·cases h
  simp only[execOp,ej,run_build w t _ a r,e6]
  rfl
 ·have:=VR.agg (g:=g) (H:=H) (w:=w) c a.toList (by simp[m.1]) (λi F x I f=>by
   obtain⟨K,k,_,p⟩:=m.2 i F I;rw[ee,k] at f;injection f with f
   exact f▸p)
  simpa using this
theorem VH{e:List (Nat×Operand)}{vs:List (Nat×PV)}{zs:List Value}{n c:List PV}{I m k:Nat}(b:dV P t=c4 (.agg zs.toArray))(r:zs.map jq=n)(p:n.all PV.one=true)(M:pk P t=c4 (I,m))(f:cH P m=c4 k)
 (G:qn E e vs) (F:∀i v,(i,v)∈vs->∀C,v≠ .bu C) (K:mE (λi=>c4 (i*k,k)) n vs=c4 c):cM P ⟨d,.build t e.toArray,ty,pos,aft,gd⟩ E H (.agg c):=by
 intro g nt u w D;subst r;obtain⟨a,A,o⟩:=BQ D.e _ e vs _ _ c G F (Qu p) K;refine⟨.agg a,?_,?_⟩
 ·have s:P.built t ((e.toArray.map λ(i,x)=>(i,u.eval x)).toList)=c4 a:=by
   unfold dV at b;unfold cH at f;cases j:P.info? t with
   |none=>simp[j] at b
   |some N=>
    simp[j] at b;cases l:P.info? m with
    |none=>simp[l] at f
    |some R=>
     simp[l] at f;simp only[Program.built,j,Kn M,b,l,f];simpa[Value.cells] using A
  simp only[execOp,ej,run_build w t _ a s,e6]
  rfl
 ·have:=VR.agg (g:=g) (H:=H) (w:=w) c a.toList (by simp[o.1]) (λi J x L h=>by
   obtain⟨O,B,_,q⟩:=o.2 i J L;rw[ee,B] at h;injection h with h
   exact h▸q)
  simpa using this
def mY:Nat->List PV->List (Nat×PV)
 |_,[]=>[]
 |a,v::r=>(a,v)::mY (a+1) r
theorem NE(a:Nat):∀(e:List PV) (b:Nat) (f:List PV),(∀c∈e,c.cells.length=a/\c.cells.all PV.one=true)->f.length=(b+e.length)*a->
 mE (λi=>c4 (i*a,a)) f (mY b e)=c4 (f.take (b*a)++e.flatMap (·.cells))
 |[],b,f,_,j=>by
  simp only[mY,mE,List.flatMap_nil,List.append_nil];rw[g6 (by simp at j;omega)]
 |c::e,b,f,h,j=>by
  obtain⟨g,m⟩:=h c (by simp);have n:(b+1)*a<=(b+(c::e).length)*a:=e4 _ (by simp);rw[e0,g5] at n;have p:d6 c.cells.length a=true:=by rw[g];exact h7 a
  have k:f9 (b*a+a) f.length=true:=Nat.ble_eq▸(by omega);simp only[mY,mE,p,k,m,Bool.and_true,cond_true];have l:(f.take (b*a)++c.cells++f.drop (b*a+a)).length=(b+1+e.length)*a:=by
   simp only[ec,ef,ge,g];have:(b+(c::e).length)*a=(b+1+e.length)*a:=by congr 1;simp;omega
   omega
  rw[NE a e (b+1) _ (λc o=>h c (by simp[o])) l]
  congr 1
  have q:min (b*a) f.length=b*a:=by omega
  rw[List.take_append_of_le_length (by simp[g];rw[e0];omega),g6 (by simp[g];rw[e0];omega)];simp
theorem Om{g:Nat}:∀(f:List PV) (i a:Nat) (e:PV),(∀c∈f,c.cells.length=g)->cellOf f i a=c4 e->(f.flatMap (·.cells))[i*g+a]? =c4 e
 |[],i,a,e,_,b=>by simp[cellOf] at b
 |c::f,0,a,e,h,b=>by
  simp[cellOf] at b;rw[hY,Nat.zero_mul,ev,d3 (c7.1 b).1];exact b
 |c::f,i+1,a,e,h,b=>by
  have j:cellOf f i a=c4 e:=by simpa[cellOf] using b
  rw[hY,d2 (by rw[h c (by simp),e0];omega),h c (by simp)];rw[show(i+1)*g+a -g=i*g+a by rw[e0];omega];exact Om f i a e (λc k=>h c (by simp[k])) j
theorem Pn{ps:List (Nat×Operand)}{es:List PV}{te sz n:Nat}{zv:Value}(I:qn E ps (mY 0 es))(V:es.length=n)(T:es.all (λa=>d6 a.cells.length sz&&a.cells.all PV.one)=true)(aa:∀a∈es,∀X,a≠ .bu X)
 (G:dU P t=c4 te) (C:cH P te=c4 sz) (M:dV P te=c4 zv) (aj:zv.cells.size=sz) (ag:zv.cells.toList.all (·.oneCell')=true) (A:0<sz) (al:n*sz<=16777216):
 nY P E H ⟨d,.buildSlice t n ps.toArray,ty,pos,aft,c6⟩ te sz es (λq F=>.sl q F 0 n):=by
 subst V;have j:∀a∈es,a.cells.length=sz/\a.cells.all PV.one=true:=λa c=>by
  have:=eH.1 T a c;simp only[Bool.and_eq_true] at this;exact⟨ez this.1,this.2⟩
 intro g nt D r Y
 let z0:List Value:=(i8 (es.length*sz)).map λq=>zv.cells.getD (q%zv.cells.size) undef
 have af:DO g H r ((i8 (es.length*sz)).map λ_=>PV.any) z0.toArray:=by
  refine⟨by simp[z0],λf u h=>?_⟩
  have B:f<es.length*sz:=by
   have:=(c7.1 h).1;simpa using this
  rw[d8,f2 B] at h;simp at h;subst h;refine⟨zv.cells.getD (f%zv.cells.size) undef,by simp[z0,f2 B],?_,.any _⟩
  have l:f%zv.cells.size<zv.cells.size:=Nat.mod_lt _ (by omega);have:=eH.1 ag (zv.cells[f%zv.cells.size]) (by simp);simpa[l] using this
 obtain⟨m,k,o⟩:=BQ Y.e (λi=>c4 (i*sz,sz)) ps (mY 0 es) _ _ _ I (λi v O=>by
  have:∀(w:Nat) (b:List PV),(i,v)∈mY w b->v∈b:=by
   intro w b
   induction b generalizing w with
   |nil=>simp[mY]
   |cons D b s=>
    simp only[mY,i4,Prod.mk.injEq];rintro(⟨_,rfl⟩ |e)
    ·exact .inl rfl
    ·exact .inr (s _ e)
  exact aa v (this 0 es O)) af (NE sz es 0 _ j (by simp))
 rw[Nat.zero_mul,List.take_zero,List.nil_append] at o;have J:m.size=es.length*sz:=by
  rw[o.1];have:∀b:List PV,(∀a∈b,a.cells.length=sz)->(b.flatMap (·.cells)).length=b.length*sz:=λb=>by
   induction b with
   |nil=>simp
   |cons a b s=>intro e;rw[hY,ec,e a (by simp),s (λa c=>e a (by simp[c])),List.length_cons,e0];omega
  exact this es λa c=>(j a c).1
 refine⟨m,es.length,.slice (c4 ⟨r.heap.size,0,c6⟩) es.length es.length,r,?_,.inl rfl,A,λi a c=>(j a (d4 c)).1,J,?_,dt _,λi f u h=>?_,λai ak ah q F R K=>FO R K (dt _)⟩
 ·have ab:(Array.range (es.length*sz)).map (λx=>zv.cells[x%zv.cells.size]!)=z0.toArray:=by
   apply Array.ext'
   rw[Array.toList_map,Array.toList_range];show _=z0
   apply List.map_congr_left
   intro q _;have l:q%zv.cells.size<zv.cells.size:=Nat.mod_lt _ (by omega);simp[l]
  by_cases h0:es.length*sz=0
  ·have L:es=[]:=by
    rcases Nat.mul_eq_zero.1 h0 with e |e
    ·exact d7 e
    ·omega
   subst L;have ac:ps=[]:=by
    cases ps with
    |nil=>rfl
    |cons p ps=>simp[mY,qn] at I
   subst ac;have Z:z0=[]:=by simp[z0]
   rw[Z] at k;simp[hz] at k;subst k;simp[execOp,Instr.buildSlice,run_underlying (gD G),run_sizeOf C,hz,newRow,Array.range_zero']
  ·have ad:¬(16777216<es.length*sz):=by omega
   have N:hz (λi=>c4 (i*sz,sz)) z0.toArray (ps.map λp=>(p.1,D.eval p.2))=c4 m:=k;simp[execOp,Instr.buildSlice,run_underlying (gD G),run_sizeOf C,ad,h0,Ey M,ab,N,newRow]
 ·have:es.length<=es.length*sz:=ei _ A;unfold maxLen;omega
 ·obtain⟨ae,W,S,U⟩:=o.2 _ u (Om es i f u (λa c=>(j a c).1) h);exact⟨ae,W,S,U⟩
end
theorem VR.ub{g:Gh}{H:List aO}{w:World}{r v:Nat}{c:aO}{x:Value}(h:VR g H w (.fl r v) x)(e:ek H r c)(n:c.aF=v):VR g H w (.sl r v 0 c.es.length) x:=by
 cases h with
 |aW h=>cases h
 |fl _ _ m _ a j l k=>
  unfold ek at e;rw[e] at a;injection a with a
  subst a;exact .sl r v 0 _ c x e j l k
theorem VR.aa1{g:Gh}{H:List aO}{w:World}{r v n:Nat}{e:aO}{x:Value}(h:VR g H w (.sl r v 0 n) x)(c:ek H r e)(l:n=e.es.length):VR g H w (.fl r v) x:=by
 subst l;cases h with
 |aW h=>cases h
 |sl _ _ _ _ o _ a j m k=>
  unfold ek at c;rw[c] at a;injection a with a
  subst a;exact .fl r v e x c j m k
theorem fI.fl{g:Gh}{H:List aO}{e:World}{nt:Nat}{E:Env}{a:Act}{t r v:Nat}{c:aO}(h:fI g H e nt E a)(m:look E t= .fl r v)(k:ek H r c)(l:c.aF=v):fI g H e nt ((t,.sl r v 0 c.es.length)::E) a:=
 ⟨h.defers,h.size,λs=>by
  by_cases j:t=s
  ·subst j;rw[ni];exact(m▸h.at_ t).ub k l
  ·rw[Ar _ _ j];exact h.at_ s⟩
theorem RO{P:Program}{c:Oper}{E:Env}{H:List aO}{t r v:Nat}{a:aO}{p:PV}(k:look E t= .fl r v)(i:ek H r a)(j:a.aF=v)(e:cM P c ((t,.sl r v 0 a.es.length)::E) H p):cM P c E H p:=
 λg nt h f b=>e g nt h f ⟨b.m,b.e.fl k i j⟩
theorem yP{P:Program}{e:Oper}{E:Env}{H:List aO}{t r v:Nat}{a:aO}{c:PV->List aO->Prop}(n:look E t= .fl r v)(j:ek H r a)(l:a.aF=v)(f:fJ P e ((t,.sl r v 0 a.es.length)::E) H c):fJ P e E H c:=
 λg nt k i b m h o=>f g nt k i ⟨b.m,b.e.fl n j l⟩ m h o
end Go.Bml
namespace Go.X
open Go Go.Aml Go.Bml
structure Ty where
 T:Type
 enc:T->PV
inductive TV (D:Nat->Type):Type where
 |any
 |z0
 |fS
 |bg
 |dB
 |int (k:IntKind) (n:Int)
 |bool (b:Bool)
 |str (s:ByteArray)
 |row (n:Nat) (xs:List (D n))
 |rv (n:Nat) (ts:List (TV D))
 |ptr (r v i j:Nat)
 |fl (r v:Nat)
 |sl (r v off len:Nat)
 |vp (cs:List (TV D)) (j:Nat)
 |agg (cs:List (TV D))
 |bu (cs:List (TV D))
 |fn (f:Nat) (cs ds:List (TV D))
 |jC (o:Option Nat)
 deriving Inhabited
inductive Bd (D:Nat->Type):Type where
 |rows (n:Nat) (xs:List (D n))
 |box (ty:Nat) (cs:List (TV D))
 |dead
 |hole (n:Nat) (xs:List (D n)) (es:List (TV D))
structure Ob (D:Nat->Type) where
 st:Nat
 aF:Nat
 bd:Bd D
abbrev En(a:Nat->Type):=List (Nat×TV a)
structure St (D:Nat->Type) where
 E:En D
 H:List (Ob D)
structure Tb where
 ty:Nat->Ty
 tv:(n:Nat)->(ty n).T->TV (λn=>(ty n).T)
 up:(n:Nat)->TV (λn=>(ty n).T)->Option (ty n).T
 sz:Nat->Nat
 flat:Nat->Bool
 el:Nat->Nat
@[reducible] def Tb.D(B:Tb)(n:Nat):Type:=(B.ty n).T
def nth{a:Type}:List a->Nat->Option a
 |[],_=>c6
 |d::_,0=>c4 d
 |_::c,b+1=>nth c b
def me{c:Type}:List c->Nat->c->List c
 |[],_,_=>[]
 |_::a,0,b=>b::a
 |e::a,d+1,b=>e::me a d b
def b8{b:Type}:List b->List (Nat×b)->List b
 |a,[]=>a
 |a,p::c=>b8 (me a p.1 p.2) c
def aX{b:Type}:List b->List b->List b
 |[],a=>a
 |c::d,a=>c::aX d a
def len{b:Type}:List b->Nat
 |[]=>0
 |_::a=>Nat.succ (len a)
def has:List Nat->Nat->Bool
 |[],_=>false
 |c::b,a=>bif d6 c a then true else has b a
def lk{a:Nat->Type}:En a->Nat->TV a
 |[],_=>.any
 |p::r,b=>bif d6 p.1 b then p.2 else lk r b
def fV(a b:IntKind):Bool:=c3 (a=b)
def Cs{a:Nat->Type}:Value->TV a
 | .bool b=>.bool b
 | .int e c=>.int e c
 | .string d=>.str d
 | .pointer c6=>.fS
 | .slice c6 0 0=>.bg
 | .nilFunc=>.dB
 |_=>.any
def rq{D:Nat->Type}:List Value->List (TV D)
 |[]=>[]
 |v::a=>Cs v::rq a
def cv{D:Nat->Type}:Value->TV D
 | .agg a=>.agg (rq a.toList)
 |v=>Cs v
def pe{a:Nat->Type}(c:En a):Operand->TV a
 | .tmp b=>lk c b
 | .const v=>cv v
 | .global _=>.any
 | .func f=>.fn f [] []
def fB{a:Nat->Type}(b:En a):List Operand->List (TV a)
 |[]=>[]
 |c::d=>pe b c::fB b d
def tr{a b:Type}(c:Option a)(e:a->Option b):Option b:=
 match c with
 |some d=>e d
 |none=>c6
inductive CP where
 |any
 |v (n:Nat)
 |p (q:Nat)
 |r (q:Nat)
 |q (cs:List CP)
 |f (cO:Nat) (cs ds:List CP)
 |g (cs:List CP)
 |b (b:Bool)
 |i (k:IntKind) (n:Int)
 |z
 |ns
 deriving Inhabited
inductive OP where
 |rows (m n:Nat)
 |box (ty:Nat) (cs:List CP)
 |dead
 |refs (m:Nat) (qs:List Nat)
 deriving Inhabited
def iQ:List Nat->List CP
 |[]=>[]
 |q::a=>.r q::iQ a
structure bY where
 dF:List (Nat×List Nat×OP)
 dE:List (Nat×CP)
 deriving Inhabited
mutual
def CP.bX:CP->List Nat
 | .v n=>[n]
 | .q a=>CP.gA a
 | .f _ a c=>aX (CP.gA a) (CP.gA c)
 | .g a=>CP.gA a
 |_=>[]
def CP.gA:List CP->List Nat
 |[]=>[]
 |c::a=>aX c.bX (CP.gA a)
end
def OP.bX:OP->List Nat
 | .rows _ n=>[n]
 | .box _ c=>CP.gA c
 | .dead=>[]
 | .refs _ a=>CP.gA (iQ a)
def vu:List (Nat×CP)->List Nat
 |[]=>[]
 |b::a=>aX b.2.bX (vu a)
def rS:List (Nat×List Nat×OP)->List Nat
 |[]=>[]
 |a::b=>aX a.2.2.bX (rS b)
def bY.bX(p:bY):List Nat:=aX (rS p.dF) (vu p.dE)
structure lD where
 dO:List (Nat×Bool×OP)
 new:List (Nat×List Nat×OP)
 dE:List (Nat×CP)
 deriving Inhabited
def ux:List (Nat×Bool×OP)->List Nat
 |[]=>[]
 |a::b=>aX a.2.2.bX (ux b)
def lD.bX(p:lD):List Nat:=aX (ux p.dO) (aX (rS p.new) (vu p.dE))
def bi(a:Nat->Type):List Nat->Type
 |[]=>Unit
 |[b]=>a b
 |b::c::ns=>a b×bi a (c::ns)
section
variable (B : Tb) {R : Type}
def m9:(ns:List Nat)->List (TV B.D)->(bi B.D ns->Option R)->Option R
 |[],[],a=>a ()
 |[c],[b],a=>tr (B.up c b) a
 |c::d::ns,b::f,a=>tr (B.up c b) λg=>m9 (d::ns) f λe=>a (g,e)
 |_,_,_=>c6
def rQ:(ns:List Nat)->bi B.D ns->List (TV B.D)
 |[],_=>[]
 |[b],a=>[B.tv b a]
 |b::c::ns,a=>B.tv b a.1::rQ (c::ns) a.2
end
def dN{a:Nat->Type}:TV a->List (TV a)
 | .agg b=>b
 |c=>[c]
def aK{a:Nat->Type}(c:List (Ob a))(r v:Nat):Option (Bd a):=
 match nth c r with
 |some b=>bif d6 b.aF v then c4 b.bd else c6
 |none=>c6
def ml{a:Nat->Type}(d:List (Ob a))(c:List Nat):TV a->TV a
 | .fl r v=>match aK d r v with
  |some (.rows e b)=>bif has c r then .any else .row e b
  |_=>.any
 |_=>.any
def qf{a:Nat->Type}(c:List (Ob a))(b:List Nat):List (TV a)->List (TV a)
 |[]=>[]
 |d::e=>ml c b d::qf c b e
def DA{a:Nat->Type}:List (TV a)->Bool
 |[]=>true
 | .fl _ _::b=>DA b
 |_::_=>false
mutual
def kJ{g:Nat->Type}(b:List (Ob g))(a:List Nat):TV g->TV g
 | .fl r v=>match aK b r v with
  |some (.rows c d)=>bif has a r then .any else .row c d
  |some (.hole c [] h)=>bif has a r then .any else bif DA h then .rv c (qf b a h) else .any
  |_=>.any
 | .sl r v i len=>match aK b r v with
  |some (.rows c d)=>bif has a r then .any else .row c ((d.drop i).take len)
  |_=>.any
 | .agg e=>.agg (jS b a e)
 | .fn f e j=>.fn f (jS b a e) (jS b a j)
 | .ptr .. =>.any
 | .bu _=>.any
 |k=>k
def jS{a:Nat->Type}(c:List (Ob a))(b:List Nat):List (TV a)->List (TV a)
 |[]=>[]
 |d::e=>kJ c b d::jS c b e
end
mutual
def refs{b:Nat->Type}:TV b->List Nat
 | .fl r _=>[r]
 | .sl r _ _ _=>[r]
 | .ptr r _ _ _=>[r]
 | .agg a=>iB a
 | .bu a=>iB a
 | .fn _ a c=>aX (iB a) (iB c)
 |_=>[]
def iB{a:Nat->Type}:List (TV a)->List Nat
 |[]=>[]
 |c::b=>aX (refs c) (iB b)
end
def kY{c:Nat->Type}(a:List (Ob c)):List Nat->List Nat
 |[]=>[]
 |r::b=>match nth a r with
  |some ⟨_,_,.hole _ [] d⟩=>aX (iB d) (kY a b)
  |_=>kY a b
def qE{f:Nat->Type}(a:List (Ob f)):TV f->List Nat->TV f
 |e,[]=>e
 |e,c::d=>match e with
  | .fn _ _ g=>qE a ((nth g c).getD .any) d
  | .agg b=>qE a ((nth b c).getD .any) d
  | .ptr r v 0 0=>match aK a r v with
   |some (.box _ b)=>qE a ((nth b c).getD .any) d
   |_=>.any
  | .fl r v=>match aK a r v with
   |some (.hole _ [] b)=>qE a ((nth b c).getD .any) d
   |_=>.any
  |_=>.any
inductive Rf where
 |bG (r:Nat)
 |new
 |gone
 |bad
def Tf{a:Nat->Type}(b:List (Ob a)):TV a->Rf
 | .fl r v=>match aK b r v with
  |some (.rows _ _)=>.bG r
  |some (.hole _ _ _)=>.bG r
  |_=>.bad
 | .ptr r v 0 0=>match aK b r v with
  |some (.box _ _)=>.bG r
  |_=>.bad
 | .bg=>.new
 | .z0=>.new
 |_=>.bad
def U7{e:Nat->Type}(a:List (Ob e))(r:Nat):List Nat->Rf
 |[]=>.bG r
 |d::b=>match nth a r with
  |some c=>Tf a (qE a (.ptr r c.aF 0 0) (d::b))
  |none=>.bad
def nQ{D:Nat->Type}(b:St D):List (Nat×List Nat×OP)->List Rf
 |[]=>[]
 |a::c=>(bif f9 100000 a.1 then U7 b.H (a.1 -100000) a.2.1 else Tf b.H (qE b.H (lk b.E a.1) a.2.1))::nQ b c
def bL:List Rf->List Nat
 |[]=>[]
 | .bG r::a=>r::bL a
 |_::a=>bL a
def rj:List Nat->Bool
 |[]=>true
 |b::a=>bif has a b then false else rj a
def JG:List Rf->Bool
 |[]=>true
 | .bad::_=>false
 |_::a=>JG a
mutual
def MG:CP->Bool
 | .p _=>false
 | .r _=>false
 | .q a=>ow a
 | .f _ a b=>bif ow a then ow b else false
 | .g a=>ow a
 |_=>true
def ow:List CP->Bool
 |[]=>true
 |b::a=>bif MG b then ow a else false
end
def cat{a:Type}:Option (List a)->Option (List a)->Option (List a)
 |some c,c4 b=>c4 (aX c b)
 |_,_=>c6
mutual
def eR{j:Nat->Type}(c:List (Ob j))(d:List Rf)(h:List Nat):CP->TV j->Option (List (TV j))
 | .any,_=>c4 []
 | .v _,a=>c4 [kJ c h a]
 | .p q,a=>match a with
  | .ptr r v 0 0=>match aK c r v,nth d q with
   |some (.box _ _),c4 (.bG i)=>bif d6 r i then c4 [] else c6
   |_,_=>c6
  |_=>c6
 | .r q,a=>match a with
  | .fl r v=>match aK c r v,nth d q with
   |some (.rows _ _),c4 (.bG i)=>bif d6 r i then c4 [] else c6
   |some (.hole _ _ _),c4 (.bG i)=>bif d6 r i then c4 [] else c6
   |_,_=>c6
  | .bg=>match nth d q with
   |some .new=>c4 []
   |_=>c6
  | .z0=>match nth d q with
   |some .new=>c4 []
   |_=>c6
  |_=>c6
 | .q e,a=>match a with
  | .ptr r v 0 0=>match aK c r v with
   |some (.box _ g)=>bif has h r then c6 else bif ow e then fg c d h e g else c6
   |_=>c6
  | .vp g 0=>bif ow e then fg c d h e g else c6
  |_=>c6
 | .f s e n,a=>match a with
  | .fn f g l=>bif d6 f s then cat (fg c d h e g) (fg c d h n l) else c6
  |_=>c6
 | .g e,a=>match a with
  | .agg g=>fg c d h e g
  |_=>c6
 | .b b,a=>match a with
  | .bool m=>bif Bool.xor b m then c6 else c4 []
  |_=>c6
 | .i t p,a=>match a with
  | .int o k=>bif fV t o then bif c3 (k=p) then c4 [] else c6 else c6
  |_=>c6
 | .ns,a=>match a with
  | .bg=>c4 []
  |_=>c6
 | .z,a=>match a with
  | .dB=>c4 []
  |_=>c6
def fg{a:Nat->Type}(c:List (Ob a))(d:List Rf)(b:List Nat):List CP->List (TV a)->Option (List (TV a))
 |[],[]=>c4 []
 |e::h,f::g=>cat (eR c d b e f) (fg c d b h g)
 |_,_=>c6
end
def dn{f:Nat->Type}(b:List (Ob f))(e:List Rf)(d:List Nat):OP->Rf->Option (List (TV f))
 | .rows a _,.bG r=>match nth b r with
  |some ⟨_,_,.rows c g⟩=>bif d6 a c then c4 [.row c g] else c6
  |_=>c6
 | .rows a _,.new=>c4 [.row a []]
 | .box i m,.bG r=>match nth b r with
  |some ⟨_,_,.box j h⟩=>bif d6 i j then fg b e d m h else c6
  |_=>c6
 | .refs a l,.bG r=>match nth b r with
  |some ⟨_,_,.hole c [] k⟩=>bif d6 a c then fg b e d (iQ l) k else c6
  |_=>c6
 |_,_=>c6
def iP{d:Nat->Type}(b:List (Ob d))(c:List Rf)(a:List Nat):List (Nat×List Nat×OP)->List Rf->Option (List (TV d))
 |[],[]=>c4 []
 |f::e,i::g=>cat (dn b c a f.2.2 i) (iP b c a e g)
 |_,_=>c6
def oz{e:Nat->Type}(a:St e)(c:List Rf)(b:List Nat):List (Nat×CP)->Option (List (TV e))
 |[]=>c4 []
 |d::f=>cat (eR a.H c b d.2 (lk a.E d.1)) (oz a c b f)
def leaves{b:Nat->Type}(p:bY)(c:St b)(a:List Rf):Option (List (TV b)):=
 bif JG a then bif rj (bL a) then cat (iP c.H a (bL a) p.dF a) (oz c a (bL a) p.dE) else c6 else c6
def qH{e:Nat->Type}(a:List (Ob e)):Nat->Nat->List Rf->Bool
 |0,_,_=>true
 |f+1,b,.bG r::d=>bif d6 r b then(match nth a r with |some c=>bif d6 c.aF 0 then qH a f (b+1) d else false |none=>false) else false
 |_,_,_=>false
section
variable {B : Tb} {R : Type}
def take(B:Tb)(d:Nat)(p:bY)(a:St B.D)(e:bi B.D p.bX->Option R):Option R:=
 let b:=nQ a p.dF
 bif qH a.H d 0 b then tr (leaves p a b) λc=>m9 B p.bX c e else c6
mutual
def hO{f:Nat->Type}(c:Nat->Nat×Nat):CP->List (TV f)->TV f×List (TV f)
 | .any,a=>(.any,a)
 | .v _,h::a=>(h,a)
 | .v _,[]=>(.any,[])
 | .p q,a=>(.ptr (c q).1 (c q).2 0 0,a)
 | .r q,a=>(.fl (c q).1 (c q).2,a)
 | .q e,a=>match jD c e a with
  |(d,a)=>(.vp d 0,a)
 | .f k e i,a=>match jD c e a with
  |(d,a)=>match jD c i a with
   |(g,a)=>(.fn k d g,a)
 | .g e,a=>match jD c e a with
  |(d,a)=>(.agg d,a)
 | .b b,a=>(.bool b,a)
 | .i l j,a=>(.int l j,a)
 | .z,a=>(.dB,a)
 | .ns,a=>(.bg,a)
def jD{b:Nat->Type}(c:Nat->Nat×Nat):List CP->List (TV b)->List (TV b)×List (TV b)
 |[],a=>([],a)
 |f::g,a=>match hO c f a with
  |(e,a)=>match jD c g a with
   |(d,a)=>(e::d,a)
end
def dI{d:Nat->Type}(e:Nat->Nat×Nat)(b v:Nat):OP->List (TV d)->Ob d×List (TV d)
 | .rows _ _,j::a=>match j with
  | .row l f=>(⟨b,v,.rows l f⟩,a)
  |_=>(⟨b,v,.dead⟩,a)
 | .rows _ _,[]=>(⟨b,v,.dead⟩,[])
 | .box h i,a=>match jD e i a with
  |(c,a)=>(⟨b,v,.box h c⟩,a)
 | .dead,a=>(⟨b,v,.dead⟩,a)
 | .refs g k,a=>match jD e (iQ k) a with
  |(c,a)=>(⟨b,v,.hole g [] c⟩,a)
def lM{c:Nat->Type}(b:Nat->Nat×Nat)(q:Nat):List (Nat×List Nat×OP)->List (TV c)->List (Ob c)×List (TV c)
 |[],a=>([],a)
 |g::e,a=>match dI b 0 (b q).2 g.2.2 a with
  |(f,a)=>match lM b (q+1) e a with
   |(d,a)=>(f::d,a)
def gR{d:Nat->Type}(b:Nat->Nat×Nat):List (Nat×CP)->List (TV d)->List (Nat×TV d)
 |[],_=>[]
 |c::f,a=>match hO b c.2 a with
  |(e,a)=>(c.1,e)::gR b f a
def nI(B:Tb)(a:Nat->Nat×Nat)(p:bY)(b:bi B.D p.bX):St B.D:=
 match lM a 0 p.dF (rQ B p.bX b) with
 |(c,d)=>⟨gR a p.dE d,c⟩
def cz(B:Tb)(p:bY)(a:bi B.D p.bX):St B.D:=nI B (λq=>(q,0)) p a
def dJ{a:Nat->Type}(c:List (Ob a))(r:Nat):Nat:=(match nth c r with |some b=>b.st |none=>0)+1
def OP.qj:OP->Bool
 | .dead=>true
 |_=>false
def gone:List (Nat×Bool×OP)->Nat->Bool
 |[],_=>false
 |a::b,r=>bif d6 a.1 r then a.2.2.qj else gone b r
def bN:List (Nat×Bool×OP)->Nat->Bool
 |[],_=>false
 |a::b,r=>bif d6 a.1 r then true else bN b r
def nL(b:List (Nat×Bool×OP)):Nat->Nat->List Rf->List Rf
 |0,_,a=>a
 |c+1,r,a=>(bif gone b r then .gone else .bG r)::nL b c (r+1) a
def calm{a:Nat->Type}(b:List (Nat×Bool×OP)):Nat->List (Ob a)->List (Ob a)->Bool
 |_,[],_=>true
 |r,e::c,d::f=>bif (bif bN b r then true else d6 e.st d.st) then calm b (r+1) c f else false
 |_,_::_,[]=>false
def wH{g:Nat->Type}(c d:List (Ob g)):List (Nat×Bool×OP)->Bool
 |[]=>true
 |a::e=>bif a.2.1 then(match nth c a.1,nth d a.1 with
  |some f,c4 b=>bif a.2.2.qj then false else bif d6 f.aF b.aF then wH c d e else false
  |_,_=>false) else bif hQ a.1 (len c) then wH c d e else false
def ET(a:List Nat):List (Nat×CP)->Bool
 |[]=>true
 |c::b=>bif has a c.1 then ET a b else false
def pX{e:Nat->Type}(c:List (Ob e))(d:List Rf)(b:List Nat):List (Nat×Bool×OP)->Option (List (TV e))
 |[]=>c4 []
 |a::f=>cat (bif a.2.2.qj then c4 [] else dn c d b a.2.2 (.bG a.1)) (pX c d b f)
def DZ:List (Nat×Bool×OP)->List Nat
 |[]=>[]
 |a::b=>a.1::DZ b
def zE(b:Nat):List (Nat×Bool×OP)->Bool
 |[]=>true
 |a::c=>bif (bif f9 b a.1 then true else bif a.2.1 then(bif a.2.2.qj then false else true) else false) then zE b c else false
def nW(B:Tb)(h:Nat)(d:St B.D)(f:List Nat)(p:lD)(a:St B.D)(i:bi B.D p.bX->Option R):Option R:=
 let e:=nQ a p.new
 let c:=nL p.dO (len d.H) 0 e
 let b:=bL c
 bif zE h p.dO then bif ET f p.dE then bif JG e then bif rj b then bif rj (DZ p.dO) then bif calm p.dO 0 d.H a.H then bif wH d.H a.H p.dO then
  tr (cat (pX a.H c b p.dO) (cat (iP a.H c b p.new e) (oz a c b p.dE))) λg=>m9 B p.bX g i
 else c6 else c6 else c6 else c6 else c6 else c6 else c6
def mw{e:Nat->Type}(d:List (Ob e))(b:List (Nat×Bool×OP))(q:Nat):Nat:=
 match nth d q with
 |some a=>bif bN b q then(bif kv b q then a.aF else a.aF+1) else a.aF
 |none=>1
where kv:List (Nat×Bool×OP)->Nat->Bool
 |[],_=>false
 |a::c,r=>bif d6 a.1 r then a.2.1 else kv c r
def pU{c:Nat->Type}(e:List (Ob c))(d:Nat->Nat×Nat):List (Nat×Bool×OP)->List (TV c)->List (Nat×Ob c)×List (TV c)
 |[],a=>([],a)
 |b::g,a=>match dI d (dJ e b.1) (d b.1).2 b.2.2 a with
  |(h,a)=>match pU e d g a with
   |(f,a)=>((b.1,h)::f,a)
def mN{b:Nat->Type}(a:List Nat):En b->En b
 |[]=>[]
 |p::r=>bif has a p.1 then mN a r else p::mN a r
def ik(B:Tb)(a:St B.D)(d:List Nat)(p:lD)(g:bi B.D p.bX):St B.D:=
 let b:=λq=>(q,mw a.H p.dO q)
 match pU a.H b p.dO (rQ B p.bX g) with
 |(f,c)=>match lM b (len a.H) p.new c with
  |(e,c)=>⟨aX (gR b p.dE c) (mN d a.E),aX (b8 a.H f) e⟩
end
structure aq (B:Tb) where
 cO:Nat
 na:Nat
 low:Nat
 par:bY
 az:bY
 F:bi B.D par.bX->Option (bi B.D az.bX)
structure cr (D:Nat->Type) where
 val:TV D
 wr:List (Nat×Ob D)
 nw:Nat
 rd:List Nat
section
variable (B : Tb) (P : Program) {R : Type}
def drop{b:Type}:Nat->List b->List b
 |0,a=>a
 |_+1,[]=>[]
 |c+1,_::a=>drop c a
def tk{a:Type}:Nat->List a->List a
 |0,_=>[]
 |_+1,[]=>[]
 |b+1,d::c=>d::tk b c
def piece{e:Nat->Type}(c:TypeId)(b:List (TV e))(a:Nat):Option (TV e):=
 match dP P c with
 |some true=>match cH P c with
  |some d=>bif f9 (a+d) (len b) then c4 (.agg (tk d (drop a b))) else c6
  |none=>c6
 |some false=>nth b a
 |none=>c6
def A6{a:Nat->Type}(d:TypeId->TV a->TV a->Option Bool)(e c:List (TV a)):List Field->Option Bool
 |[]=>c4 true
 |f::h=>bif f.name != "_" then(match piece P f.type e f.offset,piece P f.type c f.offset with
  |some g,c4 b=>(match d f.type g b,A6 d e c h with
   |some p,c4 q=>c4 (p&&q)
   |_,_=>c6)
  |_,_=>c6) else c6
def yq{f:Nat->Type}:Nat->TypeId->TV f->TV f->Option Bool
 |0,_,_,_=>c6
 |l+1,e,d,c=>match P.underlying e with
  |some .bool=>(match d,c with
   | .bool a,.bool b=>c4 (a==b)
   |_,_=>c6)
  |some (.int _)=>(match d,c with
   | .int a g,.int b k=>bif fV a b then c4 (g==k) else c6
   |_,_=>c6)
  |some (.struct h)=>bif P.stoodInHeld e then c6 else(match d,c with
   | .agg i,.agg j=>A6 P (yq l) i j h.toList
   |_,_=>c6)
  |_=>c6
def LM(P:Program)(a:TypeId):Bool:=match P.underlying a with |some (.func ..)=>true |_=>false
def bin(g:BinOp)(f:TypeId)(l k:TV B.D)(c:TV B.D->Option R):Option R:=
 match l,k with
 | .int a d,.int b e=>match g with
  | .add=>bif fV a b then c (.int a (a.wrap (d+e))) else c6
  | .sub=>bif fV a b then c (.int a (a.wrap (d -e))) else c6
  | .mul=>bif fV a b then c (.int a (a.wrap (d*e))) else c6
  | .quo=>bif fV a b then(ph a d e).bind λr=>c (.int a r) else c6
  | .rem=>bif fV a b then(nG d e).bind λr=>c (.int a r) else c6
  | .and=>bif fV a b then c (.int a (bits .and a d e)) else c6
  | .or=>bif fV a b then c (.int a (bits .or a d e)) else c6
  | .xor=>bif fV a b then c (.int a (bits .xor a d e)) else c6
  | .andNot=>bif fV a b then c (.int a (bits .andNot a d e)) else c6
  | .shl=>(uU a d e).bind λr=>c (.int a r)
  | .shr=>(iN a d e).bind λr=>c (.int a r)
  | .eql=>bif fV a b then c (.bool (c3 (d=e))) else c6
  | .neq=>bif fV a b then c (.bool (c3 (d≠e))) else c6
  | .lss=>bif fV a b then c (.bool (c3 (d<e))) else c6
  | .leq=>bif fV a b then c (.bool (c3 (d<=e))) else c6
  | .gtr=>bif fV a b then c (.bool (c3 (e<d))) else c6
  | .geq=>bif fV a b then c (.bool (c3 (e<=d))) else c6
 | .bool a,.bool b=>match g with
  | .eql=>bif sr P f then c (.bool (a==b)) else c6
  | .neq=>bif sr P f then c (.bool (a != b)) else c6
  |_=>c6
 | .agg i,.agg j=>match g with
  | .eql=>bif P.eqGuardType P.depth f then c6 else tr (yq P 10000 f (.agg i) (.agg j)) λb=>c (.bool b)
  | .neq=>bif P.eqGuardType P.depth f then c6 else tr (yq P 10000 f (.agg i) (.agg j)) λb=>c (.bool (!b))
  |_=>c6
 | .jC h,.dB=>bif LM P f then match g with
  | .eql=>c (.bool h.isNone)
  | .neq=>c (.bool (!h.isNone))
  |_=>c6 else c6
 |_,_=>c6
def HY(e:UnOp)(f:TV B.D)(c:TV B.D->Option R):Option R:=
 match e,f with
 | .neg,.int a d=>c (.int a (a.wrap (0 -d)))
 | .not,.bool b=>c (.bool (!b))
 |_,_=>c6
def Es(i a:Nat)(c:TV B.D->Option R):Nat->List (TV B.D)->Option R
 |_,[]=>c6
 |b,d::e=>bif d6 i (a+b) then c d else Es i a c (b+1) e
def AK(c:Int)(a:Nat)(d:Nat->Option R):Nat->List (TV B.D)->Option R
 |_,[]=>c6
 |b,_::e=>bif c3 (c=((a+b:Nat):Int)) then d (a+b) else AK c a d (b+1) e
def load(j:List (Ob B.D))(b:TypeId)(f:TV B.D)(c:cr B.D->Option R):Option R:=
 match f with
 | .vp e a=>tr (piece P b e a) λv=>c ⟨v,[],0,[]⟩
 | .ptr r v i a=>match aK j r v with
  |some (.rows g d)=>(d[i]?).bind λf=>tr (piece P b (dN (B.tv g f)) a) λv=>c ⟨v,[],0,[r]⟩
  |some (.box _ e)=>bif d6 i 0 then tr (piece P b e a) λv=>c ⟨v,[],0,[r]⟩ else c6
  |some (.hole g d k)=>Es B i d.length (λh=>tr (piece P b (dN h) a) λv=>c ⟨v,[],0,[r]⟩) 0 k
  |_=>c6
 |_=>c6
def oJ{a:Type}(b:List a)(d:Nat)(c:List a):List a:=aX (tk d b) (aX c (drop (d+len c) b))
def tF{a:Nat->Type}:TV a->Bool
 | .bu _=>false
 |_=>true
mutual
def yH{a:Nat->Type}:TV a->Bool
 | .any=>false
 | .agg _=>false
 | .bu _=>false
 |_=>true
def jj{a:Nat->Type}:List (TV a)->Bool
 |[]=>true
 |c::b=>bif yH c then jj b else false
end
def store(e:List (Ob B.D))(l:TypeId)(j a:TV B.D)(h:cr B.D->Option R):Option R:=
 match cH P l with
 |some b=>bif d6 (len (dN a)) b then bif jj (dN a) then match j with
  | .ptr r v i c=>match aK e r v with
   |some (.rows b f)=>(f[i]?).bind λj=>
    match B.tv b j with
    | .agg d=>bif f9 (c+len (dN a)) (len d) then tr (B.up b (.agg (oJ d c (dN a)))) λg=>h ⟨.any,[(r,⟨dJ e r,v,.rows b (f.set i g)⟩)],0,[r]⟩ else c6
    |_=>bif d6 c 0 then tr (B.up b a) λg=>h ⟨.any,[(r,⟨dJ e r,v,.rows b (f.set i g)⟩)],0,[r]⟩ else c6
   |some (.box k d)=>bif d6 i 0 then bif f9 (c+len (dN a)) (len d) then h ⟨.any,[(r,⟨dJ e r,v,.box k (oJ d c (dN a))⟩)],0,[r]⟩ else c6 else c6
   |_=>c6
  |_=>c6 else c6 else c6
 |none=>c6
def rowOf(d:List (Ob B.D))(f:TV B.D)(c:(a:Nat)->List (B.D a)->List Nat->Option R):Option R:=
 match f with
 | .row a b=>c a b []
 | .fl r v=>match aK d r v with
  |some (.rows a b)=>c a b [r]
  |_=>c6
 | .sl r v e len=>match aK d r v with
  |some (.rows a b)=>c a ((b.drop e).take len) [r]
  |_=>c6
 |_=>c6
def sU(b a:Nat)(d:List (B.D b)):Option (List (B.D a)):=
 if c:b=a then c4 (c▸d) else c6
def CK(g:List (Ob B.D))(c:Nat)(b:TV B.D)(a:List (B.D c)->List Nat->Option R):Option R:=
 match b with
 | .bg=>a [] []
 | .z0=>a [] []
 |b=>rowOf B g b λf d e=>tr (sU B f c d) λh=>a h e
def KK:Option Nat->Nat->Bool
 |some a,b=>d6 a b
 |none,_=>false
def kX(b:TypeId)(a:Nat):Bool:=match dU P b,cH P a with |some c,c4 d=>bif d6 c a then d6 d (B.sz a) else false |_,_=>false
def indexAddr(g:List (Ob B.D))(d:TypeId)(n i:TV B.D)(e:cr B.D->Option R):Option R:=
 match i with
 | .int _ c=>match n with
  | .row a b=>bif kX B P d a then(aj b c).bind λh=>e ⟨.vp (dN (B.tv a h)) 0,[],0,[]⟩ else c6
  | .fl r v=>match aK g r v with
   |some (.rows a b)=>bif kX B P d a then(aj b c).bind λ_=>e ⟨.ptr r v c.toNat 0,[],0,[r]⟩ else c6
   |some (.hole a b m)=>bif kX B P d a then AK B c b.length (λi=>e ⟨.ptr r v i 0,[],0,[r]⟩) 0 m else c6
   |_=>c6
  | .sl r v f len=>match aK g r v with
   |some (.rows a b)=>bif kX B P d a then(aj ((b.drop f).take len) c).bind λ_=>e ⟨.ptr r v (f+c.toNat) 0,[],0,[r]⟩ else c6
   |_=>c6
  | .ptr r v i j=>match c with
   | .ofNat q=>match pk P d with
    |some (a,l)=>match cH P l with
     |some k=>bif hQ q a then e ⟨.ptr r v i (j+q*k),[],0,[]⟩ else c6
     |none=>c6
    |none=>c6
   |_=>c6
  |_=>c6
 |_=>c6
def ints{c:Nat->Type}(a:IntKind):List (TV c)->Option (List Int)
 |[]=>c4 []
 | .int b d::e=>bif fV a b then(match ints a e with |some r=>c4 (d::r) |none=>c6) else c6
 |_=>c6
def gS{a:Nat->Type}:List (TV a)->Option (List Bool)
 |[]=>c4 []
 | .bool b::c=>(match gS c with |some r=>c4 (b::r) |none=>c6)
 |_=>c6
def Gx(d:TypeId)(b:Nat):Bool:=match pk P d with
 |some (e,a)=>(match cH P a,dP P a with |some c,c4 false=>bif d6 e b then d6 c 1 else false |_,_=>false)
 |none=>false
def index(f:TypeId)(g i:TV B.D)(e:cr B.D->Option R):Option R:=
 match i,g with
 | .int _ c,.agg a=>bif Gx P f (len a) then match a with
  | .int d _::_=>tr (ints d a) λb=>(aj b c).bind λv=>e ⟨.int d v,[],0,[]⟩
  | .bool _::_=>tr (gS a) λb=>(aj b c).bind λv=>e ⟨.bool v,[],0,[]⟩
  |_=>c6 else c6
 |_,_=>c6
def rE(d:En B.D)(c:Int):Option Operand->Option Int
 |none=>c4 c
 |some a=>match pe d a with
  | .int _ b=>c4 b
  |_=>c6
def pP{a:Nat->Type}:TV a->Bool
 | .int _ (.ofNat 0)=>true
 |_=>false
def Bx(b:En B.D):Option Operand->Bool
 |none=>true
 |some a=>pP (pe b a)
def slice(a:En B.D)(j:List (Ob B.D))(f:TypeId)(l:TV B.D)(g h:Option Operand)(i:cr B.D->Option R):Option R:=
 match l with
 | .row c d=>bif kX B P f c then tr (rE B a 0 g) λe=>tr (rE B a (d.length:Int) h) λb=>(eG d e b).bind λk=>i ⟨.row c k,[],0,[]⟩ else c6
 | .fl r v=>match aK j r v with
  |some (.rows c d)=>bif kX B P f c then tr (rE B a 0 g) λe=>tr (rE B a (d.length:Int) h) λb=>(eG d e b).bind λ_=>i ⟨.sl r v e.toNat (b.toNat -e.toNat),[],0,[r]⟩ else c6
  |_=>c6
 | .bg=>bif Bx B a g then bif Bx B a h then(match dU P f with |some c=>bif kX B P f c then i ⟨.bg,[],0,[]⟩ else c6 |none=>c6) else c6 else c6
 |_=>c6
def shrink(g:En B.D)(c:List (Ob B.D))(h:TypeId)(j:TV B.D)(e:Option Operand)(i:cr B.D->Option R):Option R:=
 match j with
 | .fl r v=>match aK c r v with
  |some (.rows d a)=>bif kX B P h d then tr (rE B g (a.length:Int) e) λb=>(eG a 0 b).bind λf=>i ⟨.fl r (v+1),[(r,⟨dJ c r,v+1,.rows d f⟩)],0,[r]⟩ else c6
  |_=>c6
 |_=>c6
def fill{b:Nat->Type}:List (Nat×Nat)->List (TV b)->List (Nat×List (TV b))->Option (List (TV b))
 |_,a,[]=>c4 a
 |d,a,p::r=>match nth d p.1 with
  |some (c,size)=>bif d6 (len p.2) size then bif f9 (c+size) (len a) then bif jj p.2 then fill d (oJ a c p.2) r else c6 else c6 else c6
  |none=>c6
def ul(a:En B.D):List (Nat×Operand)->Option (List (Nat×List (TV B.D)))
 |[]=>c4 []
 |p::r=>bif tF (pe a p.2) then(match ul a r with |some b=>c4 ((p.1,dN (pe a p.2))::b) |none=>c6) else c6
def AA(a:Nat):Nat->Nat->List (Nat×Nat)
 |0,_=>[]
 |b+1,i=>(i*a,a)::AA a b (i+1)
def placesOf(a:TypeId):Option (List (Nat×Nat)):=
 match Jk P a with
 |some b=>c4 b
 |none=>match pk P a with
  |some (e,d)=>match cH P d with
   |some c=>c4 (AA c e 0)
   |none=>c6
  |none=>c6
def rn(b:En B.D)(a:Nat):Nat->List (Nat×Operand)->Option (List (B.D a))
 |_,[]=>c4 []
 |i,p::r=>bif d6 p.1 i then match B.up a (pe b p.2),rn b a (i+1) r with
  |some c,c4 d=>c4 (c::d)
  |_,_=>c6
  else c6
def kR{a:Nat->Type}:List (Nat×TV a)->TV a
 |[p]=>p.2
 |b=>.bu (b.map (·.2))
def fi{a:Nat->Type}:Nat->List (TV a)->En a
 |_,[]=>[]
 |i,c::b=>(i,c)::fi (i+1) b
def gu{f:Nat->Type}(c:List (Ob f))(d:List Rf)(a b q:Nat):Nat×Nat:=
 bif hQ q a then match nth d q with
  |some (.bG r)=>(r,match nth c r with |some e=>e.aF |none=>0)
  |_=>(0,0)
 else(b+(q -a),1)
def jL{c:Nat->Type}(b:List (Ob c)):List Rf->List (Nat×Ob c)
 |[]=>[]
 | .bG r::a=>match nth b r with
  |some d=>(r,⟨d.st+1,d.aF+1,.dead⟩)::jL b a
  |none=>jL b a
 |_::a=>jL b a
def iF{a:Nat->Type}(b:List (Ob a)):List Rf->List (Ob a)->List (Nat×Ob a)
 | .bG r::e,c::d=>(r,⟨dJ b r,c.aF,c.bd⟩)::iF b e d
 |_,_=>[]
def news{a:Nat->Type}:Nat->List (Ob a)->List (Nat×Ob a)
 |_,[]=>[]
 |b,c::d=>(b,c)::news (b+1) d
mutual
def jn{e:Nat->Type}(c:List (Ob e)):CP->TV e->List Nat
 | .v _,a=>aX (refs a) (kY c (refs a))
 | .q d,a=>match a with
  | .ptr r _ _ _=>r::(match nth c r with
   |some ⟨_,_,.box _ b⟩=>gJ c d b
   |_=>[])
  | .vp b _=>gJ c d b
  |_=>[]
 | .f _ d g,a=>match a with
  | .fn _ b f=>aX (gJ c d b) (gJ c g f)
  |_=>[]
 | .g d,a=>match a with
  | .agg b=>gJ c d b
  |_=>[]
 |_,_=>[]
def gJ{b:Nat->Type}(a:List (Ob b)):List CP->List (TV b)->List Nat
 |c::f,d::e=>aX (jn a c d) (gJ a f e)
 |_,_=>[]
end
def eW{e:Nat->Type}(a:List (Ob e)):List (Nat×List Nat×OP)->List Rf->List Nat
 |(_,_,.box _ f)::b,.bG r::c=>aX (match nth a r with
  |some ⟨_,_,.box _ d⟩=>gJ a f d
  |_=>[]) (eW a b c)
 |_::b,_::c=>eW a b c
 |_,_=>[]
def gK{c:Nat->Type}(a:St c):List (Nat×CP)->List Nat
 |[]=>[]
 |b::d=>aX (jn a.H b.2 (lk a.E b.1)) (gK a d)
mutual
def Kk(f:Nat->Bool):CP->Bool
 | .v c=>f c
 | .q _=>false
 | .f _ a b=>bif rr f a then rr f b else false
 | .g a=>rr f a
 |_=>true
def rr(f:Nat->Bool):List CP->Bool
 |[]=>true
 |b::a=>bif Kk f b then rr f a else false
end
def uT(f:Nat->Bool)(c:Nat->Nat):OP->Bool
 | .rows _ d=>f (c d)
 | .box _ b=>rr f b
 | .dead=>true
 | .refs _ a=>rr f (iQ a)
def oN(f:Nat->Bool)(a:Nat->Nat):List (Nat×List Nat×OP)->Bool
 |[]=>true
 |b::c=>bif uT f a b.2.2 then oN f a c else false
def tJ(f:Nat->Bool):List (Nat×CP)->Bool
 |[]=>true
 |b::a=>bif Kk f b.2 then tJ f a else false
def zc:List Nat->Bool
 |[]=>true
 |_=>false
def kA:Nat->List Rf->Bool
 |0,_=>true
 |a+1,.bG _::b=>kA a b
 |_,_=>false
def here{b:Nat->Type}(a:List (Ob b)):List Nat->Bool
 |[]=>true
 |i::c=>match nth a i with
  |some _=>here a c
  |none=>false
def Nv(b:St B.D)(a:aq B)(c:List Rf)(g:List (TV B.D))(i:cr B.D->Option R):Option R:=
 let e:=aX (eW b.H a.par.dF c) (gK b a.par.dE)
 bif (bif zc e then true else bif oN B.flat B.el a.az.dF then tJ B.flat a.az.dE else false) then bif kA a.low c then bif here b.H e then
  m9 B a.par.bX g λj=>(a.F j).bind λh=>
   match nI B (gu b.H c a.low (len b.H)) a.az h with
   |⟨f,d⟩=>bif f9 a.low (len d) then i ⟨kR f,aX (iF b.H (tk a.low c) (tk a.low d)) (aX (jL b.H (drop a.low c)) (news (len b.H) (drop a.low d))),len (drop a.low d),aX (bL c) e⟩ else c6
 else c6 else c6 else c6
def nz(f:Nat)(a:St B.D)(c:cr B.D->Option R):List (aq B)->Option R
 |[]=>c6
 |b::d=>bif (bif d6 b.cO f then d6 (len a.E) b.na else false) then
  match leaves b.par a (nQ a b.par.dF) with
  |some e=>Nv B a b (nQ a b.par.dF) e c
  |none=>nz f a c d
  else nz f a c d
def nf{b:Type}:List b->List b->List b
 |[],a=>a
 |c::d,a=>nf d (c::a)
def sV(f:Nat)(b:St B.D)(c:cr B.D->Option R):List (aq B)->Option R
 |[]=>c6
 |a::d=>bif (bif d6 (len b.E) a.na then(leaves a.par b (nQ b a.par.dF)).isSome else false) then cond (d6 f a.cO) (nz B a.cO b c [a]) (sV f b c d) else sV f b c d
def Dm(f:Int->Int->Int):List (TV B.D)->Option (TV B.D)
 |[.int a d,.int b c]=>bif fV a b then c4 (.int a (f d c)) else c6
 |_=>c6
def KP{e:Nat->Type}(d:Bool)(c a:TV e):TV e:=
 match c,a with
 | .bool f,.bool b=>.bool (cond d f b)
 |c,a=>cond d c a
def Cf:Operand->Operand->Bool
 | .tmp a,.tmp b=>d6 a b
 | .const (.int a d),.const (.int b c)=>bif fV a b then c3 (d=c) else false
 |_,_=>false
def lB(a:Nat)(b:Option Nat)(z:Option Value):Bool:=
 match b,z with
 |some c,c4 z=>bif d6 a c then d6 z.cells.size a else false
 |_,_=>false
def Ax:List Value->Bool
 |[]=>true
 |v::a=>bif v.oneCell' then Ax a else false
def Ix(z:Option Value):Bool:=
 match z with
 |some z=>Ax z.cells.toList
 |none=>false
def iG{a:Type}(z:a)(d b:Nat)(c:List a):List a:=c.take d++(f6 b z++c.drop (d+b))
def mg{a:Type}(c:List a)(b e:Nat)(d:List a):List a:=d.take b++(c.take e++d.drop (b+(c.take e).length))
def B4(c:List (Ob B.D))(f:TV B.D)(d:Nat->Nat->Nat->Nat->(a:Nat)->List (B.D a)->Option R):Option R:=
 match f with
 | .fl r v=>match aK c r v with
  |some (.rows a b)=>d r v 0 b.length a b
  |_=>c6
 | .sl r v e len=>match aK c r v with
  |some (.rows a b)=>d r v e len a b
  |_=>c6
 |_=>c6
def GF(d:List (Ob B.D))(c:TV B.D)(b:cr B.D->Option R):Option R:=
 match c with
 | .fl r v=>match aK d r v with
  |some (.rows _ a)=>b ⟨.int .i64 (a.length:Int),[],0,[r]⟩
  |some (.hole _ a f)=>b ⟨.int .i64 ((a.length+len f:Nat):Int),[],0,[r]⟩
  |_=>c6
 |c=>rowOf B d c λ_ a e=>b ⟨.int .i64 (a.length:Int),[],0,e⟩
def FK(a:En B.D)(b:List (Ob B.D))(c:Nat)(d:List (Nat×Operand))(e:Nat)(f:cr B.D->Option R):Option R:=
 match d with
 |[p]=>bif d6 p.1 0 then bif d6 e 1 then bif d6 (len (dN (pe a p.2))) (B.sz c) then bif jj (dN (pe a p.2)) then bif tF (pe a p.2) then f ⟨.fl (len b) 1,[(len b,⟨1,1,.hole c [] [pe a p.2]⟩)],1,[]⟩ else c6 else c6 else c6 else c6 else c6
 |_=>c6
def GI(b:List (Ob B.D))(d f:Nat)(k l:TV B.D)(g:cr B.D->Option R):Option R:=
 match l with
 | .fl q j=>match aK b q j with
  |some (.hole i [] c)=>bif d6 i d then match k with
   | .bg=>bif f9 (len c*f) 140737488355328 then g ⟨.fl (len b) 1,[(len b,⟨1,1,.hole d [] c⟩)],1,[q]⟩ else c6
   | .fl r v=>match aK b r v with
    |some (.hole e a h)=>tr (sU B e d a) λa=>bif f9 ((a.length+len h+len c)*f) 140737488355328 then g ⟨.fl r (v+1),[(r,⟨dJ b r,v+1,.hole d a (aX h c)⟩)],0,[r,q]⟩ else c6
    |some (.rows e a)=>tr (sU B e d a) λa=>bif f9 ((a.length+len c)*f) 140737488355328 then g ⟨.fl r (v+1),[(r,⟨dJ b r,v+1,.hole d a c⟩)],0,[r,q]⟩ else c6
    |_=>c6
   |_=>c6
   else c6
  |_=>c6
 |_=>c6
def SG(a:List (Ob B.D))(c:TV B.D):Bool:=
 match c with
 | .fl q b=>match aK a q b with
  |some (.hole _ _ _)=>true
  |_=>false
 |_=>false
def step(J:List (aq B))(K:Bool)(d:En B.D)(h:List (Ob B.D))(x:Op)(g:cr B.D->Option R):Option R:=
 let mk (a:Nat) (l:List (B.D a)) (m:List Nat):Option R:=
  bif K then g ⟨.row a l,[],0,m⟩ else g ⟨.fl (len h) 1,[(len h,⟨1,1,.rows a l⟩)],1,m⟩
 match x with
 | .move c=>g ⟨pe d c,[],0,[]⟩
 | .assign c=>g ⟨pe d c,[],0,[]⟩
 | .pick k q b=>match pe d k with
  | .bool k=>g ⟨KP k (pe d q) (pe d b),[],0,[]⟩
  |_=>c6
 | .binOp x e c u _=>bin B P x e (pe d c) (pe d u) λv=>g ⟨v,[],0,[]⟩
 | .unOp x _ c=>HY B x (pe d c) λv=>g ⟨v,[],0,[]⟩
 | .convert N S c=>match pe d c,yi P S with
  | .int _ w,c4 q=>bif (P.underlying N).isSome then g ⟨.int q (q.wrap w),[],0,[]⟩ else c6
  |_,_=>c6
 | .extract c i=>match pe d c with
  | .bu j=>tr (nth j i) λv=>g ⟨v,[],0,[]⟩
  |_=>c6
 | .nilCheck c=>match pe d c with
  | .ptr r v i p=>g ⟨.ptr r v i p,[],0,[]⟩
  | .vp j p=>g ⟨.vp j p,[],0,[]⟩
  | .fn f j G=>g ⟨.fn f j G,[],0,[]⟩
  |_=>c6
 | .field e c f=>match pe d c,nU P e f with
  | .agg j,c4 (H,o)=>tr (piece P H j o) λv=>g ⟨v,[],0,[]⟩
  |_,_=>c6
 | .fieldAddr e c f=>match nU P e f with
  |some (H,o)=>match cH P H with
   |some (_+1)=>match pe d c with
    | .ptr r v i p=>g ⟨.ptr r v i (p+o),[],0,[]⟩
    | .vp j p=>g ⟨.vp j (p+o),[],0,[]⟩
    |_=>c6
   |_=>c6
  |none=>c6
 | .indexAddr e c i=>indexAddr B P h e (pe d c) (pe d i) g
 | .index e c i=>index B P e (pe d c) (pe d i) g
 | .load e c=>load B P h e (pe d c) g
 | .store e c u=>store B P h e (pe d c) (pe d u) g
 | .slice e c M A c6=>bif K then(match M with |none=>shrink B P d h e (pe d c) A g |some _=>c6) else slice B P d h e (pe d c) M A g
 | .slice e c c6 (c4 A) (c4 Q)=>bif pP (pe d A) then bif pP (pe d Q) then rowOf B h (pe d c) λa _ m=>bif kX B P e a then g ⟨.z0,[],0,m⟩ else c6 else c6 else c6
 | .box e c=>match dN (pe d c) with
  |j=>bif jj j then bif hQ 0 (len j) then g ⟨.ptr (len h) 1 0 0,[(len h,⟨1,1,.box e j⟩)],1,[]⟩ else c6 else c6
 | .alloc e=>match dV P e with
  |some z=>match dN (cv z) with
   |j=>bif jj j then bif hQ 0 (len j) then g ⟨.ptr (len h) 1 0 0,[(len h,⟨1,1,.box e j⟩)],1,[]⟩ else c6 else c6
  |none=>c6
 | .build e C=>match dV P e,placesOf P e with
  |some (.agg z),c4 T=>match rq z.toList with
   |j=>bif jj j then tr (ul B d C.toList) λn=>tr (fill T j n) λj=>g ⟨.agg j,[],0,[]⟩ else c6
  |_,_=>c6
 | .buildSlice e n C=>match dU P e with
  |some a=>bif lB (B.sz a) (cH P a) (dV P a) then bif Ix (dV P a) then bif f9 (n*B.sz a) 16777216 then match rn B d a 0 C.toList with
   |some l=>bif d6 (len l) n then mk a l [] else c6
   |none=>FK B d h a C.toList n g
   else c6 else c6 else c6
  |none=>c6
 | .makeSlice e n k=>bif Cf n k then match dU P e,pe d n with
  |some a,.int _ w=>match dV P a,kB P a with
   |some z,c4 (t+1)=>bif lB (B.sz a) (cH P a) (dV P a) then bif jj (dN (cv (D:=B.D) z)) then tr (B.up a (cv z)) λz=>(gP (t+1) z w).bind λl=>mk a l [] else c6 else c6
   |_,_=>c6
  |_,_=>c6 else c6
 | .makeFunc (.func f) q k=>g ⟨.fn f (fB d q.toList) (fB d k.toList),[],0,[]⟩
 | .call k=>match k.callee with
  | .value f=>match pe d f with
   | .fn I j G=>nz B I ⟨fi 0 (aX j (aX (fB d k.args.toList) G)),h⟩ g (bif K then nf J [] else J)
   | .jC O=>O.bind λI=>sV B I ⟨fi 0 (fB d k.args.toList),h⟩ g J
   |_=>c6
  | .builtin b=>match b with
   | .len=>match fB d k.args.toList,k.argTypes.toList with
    |[c],[e]=>match dU P e with
     |some _=>(match c with
      | .bg=>g ⟨.int .i64 0,[],0,[]⟩
      | .z0=>g ⟨.int .i64 0,[],0,[]⟩
      |c=>GF B h c g)
     |none=>c6
    |_,_=>c6
   | .min=>tr (Dm B min (fB d k.args.toList)) λv=>g ⟨v,[],0,[]⟩
   | .max=>tr (Dm B max (fB d k.args.toList)) λv=>g ⟨v,[],0,[]⟩
   | .append=>match fB d k.args.toList,k.argTypes.toList with
    |[L,c],[e,F]=>bif d6 e F then match dU P e with
     |some a=>match kB P a with
      |some (t+1)=>bif lB (B.sz a) (cH P a) (dV P a) then bif SG B h c then GI B h a (t+1) L c g else CK B h a c λs m=>match L with
       | .bg=>(bj (t+1) [] s).bind λy=>mk a y m
       | .z0=>(bj (t+1) [] s).bind λy=>mk a y m
       | .fl r v=>match aK h r v with
        |some (.rows w l)=>tr (sU B w a l) λl=>(bj (t+1) l s).bind λy=>g ⟨.fl r (v+1),[(r,⟨dJ h r,v+1,.rows a y⟩)],0,r::m⟩
        |_=>c6
       |_=>c6
       else c6
      |_=>c6
     |none=>c6 else c6
    |_,_=>c6
   | .clear=>match fB d k.args.toList,k.argTypes.toList with
    |[c],[e]=>B4 B h c λr v o E a l=>bif KK (dU P e) a then bif lB (B.sz a) (cH P a) (dV P a) then match dV P a with
     |some z=>bif jj (dN (cv (D:=B.D) z)) then tr (B.up a (cv z)) λz=>g ⟨.bu [],[(r,⟨dJ h r,v,.rows a (iG z o E l)⟩)],0,[r]⟩ else c6
     |none=>c6 else c6 else c6
    |_,_=>c6
   | .copy=>match fB d k.args.toList,k.argTypes.toList with
    |[c,u],[e,F]=>bif d6 e F then B4 B h c λr v o E a l=>bif KK (dU P e) a then bif lB (B.sz a) (cH P a) (dV P a) then CK B h a u λs m=>g ⟨.int .i64 ((min E s.length:Nat):Int),[(r,⟨dJ h r,v,.rows a (mg s o E l)⟩)],0,r::m⟩ else c6 else c6 else c6
    |_,_=>c6
   |_=>c6
  |_=>c6
 |_=>c6
end
structure Hn where
 fz:List Nat
 outs:List (Nat×lD)
 lp:Option lD
abbrev h0:Hn:=⟨[],[],c6⟩
def hint:List (Nat×Hn)->Nat->Hn
 |[],_=>h0
 |p::a,n=>bif d6 p.1 n then p.2 else hint a n
structure Lg where
 rt:List Nat
 wt:List Nat
 rd:List Nat
 wr:List Nat
def tmpsOf:List Operand->List Nat
 |[]=>[]
 | .tmp b::a=>b::tmpsOf a
 |_::a=>tmpsOf a
def yI:Option Nat->List Nat
 |some a=>[a]
 |none=>[]
section
variable (L : Lp) (B : Tb) (P : Program) (G : List (aq B)) (n : Nat)
def gr{a:Nat->Type}(b:En a):Option Nat->TV a->En a
 |some c,v=>(c,v)::b
 |none,_=>b
def zL(i:Nat):List Oper->Bool
 |[]=>false
 |a::r=>bif (match a.guard with |some (b,_)=>d6 i b |none=>false) then true else zL i r
def eV{b:Type}:List (Nat×b)->List Nat
 |[]=>[]
 |p::a=>p.1::eV a
def xt{a:Nat->Type}:Ob a:=⟨0,0,.dead⟩
def dx{a:Nat->Type}:Nat->List (Ob a)
 |0=>[]
 |n+1=>xt::dx n
def behind{a:Nat->Type}(b:List (Ob a))(r:cr a):List (Ob a):=b8 (aX b (dx r.nw)) r.wr
def sZ(c:List Oper)(b:Oper):List Nat:=match b.guard with
 |some (d,_)=>match nth c d with
  |some a=>yI a.dst
  |none=>[]
 |none=>[]
def gU{b:Nat->Type}(a:List (Ob b)):List Nat->List (Nat×Ob b)
 |[]=>[]
 |r::d=>match nth a r with
  |some c=>(r,⟨c.st+1,c.aF+1,.dead⟩)::gU a d
  |none=>gU a d
def G0{a:Nat->Type}(b:List (Ob a)):TV a->TV a
 | .bu c=>.bu (jS b [] c)
 |d=>kJ b [] d
def Jd{b:Nat->Type}(n:Nat)(a:List (Nat×Ob b)):List Nat->Bool
 |[]=>true
 |r::c=>bif f9 n r then bif has (eV a) r then Jd n a c else false else false
def Fs{c:Nat->Type}(b:List (Ob c))(a:cr c):Option (cr c):=
 bif Jd (len b) a.wr (refs a.val) then bif zc (kY (behind b a) (refs a.val)) then c4 ⟨G0 (behind b a) a.val,aX a.wr (gU (behind b a) (refs a.val)),a.nw,a.rd⟩ else c6 else c6
def zM{a:Type}(e h:Bool)(g:En B.D)(c:List (Ob B.D))(f:Op)(d:cr B.D->Option a):Option a:=
 step B P G e g c f λb=>bif h then tr (Fs c b) d else d b
def rV{b:Nat->Type}(c:List Oper)(a:Oper)(r:cr b):Lg:=⟨aX (sZ c a) (tmpsOf a.op.operands.toList),yI a.dst,r.rd,eV r.wr⟩
def xo(b:List Oper)(a:Oper):Lg:=⟨sZ b a,yI a.dst,[],[]⟩
def Dp(n:Nat):List Nat->Bool
 |[]=>true
 |b::a=>bif hQ b n then Dp n a else false
def ops{k:Type}(f:List Nat)(c:List Oper)(g:List Lg->St B.D->Option k):Nat->List Oper->List Lg->St B.D->Option k
 |_,[],e,a=>g e a
 |i,d::r,e,a=>
  let go:=zM B P G (has f i) (has f (i+1000)) a.E a.H d.op λh=>bif Dp (len a.H) h.rd then
   let j:=behind a.H h
   let e:=rV c d h::e
   bif zL i c then match h.val with
    | .bool m=>cond m (ops f c g (i+1) r e ⟨gr a.E d.dst (.bool true),j⟩) (ops f c g (i+1) r e ⟨gr a.E d.dst (.bool false),j⟩)
    |_=>c6
   else ops f c g (i+1) r e ⟨gr a.E d.dst h.val,j⟩
   else c6
  match d.guard with
  |none=>go
  |some (l,p)=>match nth c l with
   |some q=>match q.dst with
    |some o=>match lk a.E o with
     | .bool b=>cond (Bool.xor b p) (ops f c g (i+1) r (xo c d::e) ⟨gr a.E d.dst (.bu []),a.H⟩) go
     | .bu []=>ops f c g (i+1) r (xo c d::e) ⟨gr a.E d.dst (.bu []),a.H⟩
     |_=>c6
    |none=>c6
   |none=>c6
def meets:List Nat->List Nat->Bool
 |[],_=>false
 |c::b,a=>bif has a c then true else meets b a
def iw:List Edge->List Nat
 |[]=>[]
 |b::a=>bif Region.binds .any b then b.on::iw a else iw a
def oF(p:Nat->Bool):List Nat->Bool
 |[]=>false
 |b::a=>bif p b then true else oF p a
def before(a:List Oper):Nat->Nat->Nat->Bool
 |0,_,_=>false
 |f+1,i,d=>match nth a d with
  |some b=>bif has (iw b.after.toList) i then true else oF (λc=>before a f i c) (iw b.after.toList)
  |none=>false
def mm(a b:Lg):Bool:=bif meets a.wr b.rd then true else bif meets a.wr b.wr then true else bif meets b.wr a.rd then true else bif meets a.wt b.rt then true else bif meets a.wt b.wt then true else meets b.wt a.rt
def vK(a:List Oper)(d:Lg)(c:Nat):Nat->List Lg->Bool
 |_,[]=>true
 |i,b::e=>bif (bif mm d b then before a (len a) i c else true) then vK a d c (i+1) e else false
def n4(a:List Oper):List Lg->Nat->List Lg->Bool
 |_,_,[]=>true
 |b,c,d::e=>bif vK a d c 0 b then n4 a (aX b [d]) (c+1) e else false
def m7:Nat->List Oper->Bool
 |_,[]=>true
 |i,a::b=>bif oF (λc=>f9 i c) (iw a.after.toList) then false else m7 (i+1) b
def tI:List Oper->List Nat->List Nat
 |[],ws=>ws
 |a::r,ws=>match a.dst with
  |some b=>b::tI r ws
  |none=>tI r ws
def cQ:Code->List Nat->List Nat
 | .region _ c _,ws=>tI c.toList ws
 | .seq a b,ws=>cQ a (cQ b ws)
 | .cond _ a b,ws=>cQ a (cQ b ws)
 | .block _ a,ws=>cQ a ws
 | .loop a,ws=>cQ a ws
 |_,ws=>ws
def Ej(a:Nat):List Oper->Bool
 |[]=>true
 |b::r=>bif fL a b.dst then Ej a r else false
def gB(a:Nat):Code->Bool
 | .region _ d _=>Ej a d.toList
 | .seq c b=>bif gB a c then gB a b else false
 | .cond _ c b=>bif gB a c then gB a b else false
 | .block _ c=>gB a c
 | .loop c=>gB a c
 |_=>true
def qM:List (Nat×lD)->Type
 |[]=>Empty
 |[p]=>bi B.D p.2.bX
 |p::q::r=>bi B.D p.2.bX⊕qM (q::r)
variable (S0 : St B.D) (ws : List Nat)
def inj{d:Type}:(e:List (Nat×lD))->Nat->St B.D->(qM B e->Option d)->Option d
 |[],_,_,_=>c6
 |[p],b,a,c=>bif d6 p.1 b then nW B n S0 ws p.2 a c else c6
 |p::q::r,b,a,c=>bif d6 p.1 b then nW B n S0 ws p.2 a (λg=>c (.inl g)) else inj (q::r) b a (λf=>c (.inr f))
def out{d:Type}:(e:List (Nat×lD))->qM B e->(Nat->St B.D->Option d)->Option d
 |[],_,_=>c6
 |[p],c,a=>a p.1 (ik B S0 ws p.2 c)
 |p::q::r,c,a=>Sum.elim (λf=>a p.1 (ik B S0 ws p.2 f)) (λb=>out (q::r) b a) c
def join{d:Type}(e:Code)(f:Hn)(c:Nat->St B.D->Option d)(b:{R':Type}->(Nat->St B.D->Option R')->Option R'):Option d:=
 match f.outs with
 |[]=>b c
 |p::a=>(b (R':=qM B (p::a)) λg h=>inj B n S0 (cQ e []) (p::a) g h c4).bind λi=>out B S0 (cQ e []) (p::a) i c
def D8{a:Type}(f:(Nat->St B.D->Option a)->St B.D->Option a)(e:St B.D->Option a)(c:Nat->St B.D->Option a):Nat->St B.D->Option a
 |0,b=>e b
 |h+1,b=>f (λd g=>bif d6 d 0 then D8 f e c h g else c d g) b
def zP:List Nat->Nat
 |[]=>0
 |a::_=>a
def exec(d:List (Nat×Hn)):Code->Nat->{R:Type}->(Nat->St B.D->Option R)->St B.D->Option R
 | .skip,_,_,c,a=>c 0 a
 | .ret,_,_,c,a=>c 1 a
 | .exit g,_,_,c,a=>c (g+2) a
 | .label _,_,_,c,a=>c 0 a
 | .region g h m,p,_,c,a=>join B n a (.region g h m) (hint d p) c λc=>ops B P G (hint d p).fz h.toList (λr a=>bif m then(bif m7 0 h.toList then bif n4 h.toList [] 0 (nf r []) then c 0 a else c6 else c6) else c 0 a) 0 h.toList [] a
 | .seq e b,p,_,c,a=>join B n a (.seq e b) (hint d p) c λc=>exec d e (2*p) (λf a=>bif d6 f 0 then exec d b (2*p+1) c a else c f a) a
 | .cond i e b,p,_,c,a=>join B n a (.cond i e b) (hint d p) c λc=>match pe a.E i with
  | .bool i=>cond i (exec d e (2*p) c a) (exec d b (2*p+1) c a)
  |_=>c6
 | .block g e,p,_,c,a=>join B n a (.block g e) (hint d p) c λc=>exec d e (2*p) (λf a=>bif d6 f (g+2) then c 0 a else c f a) a
 | .loop e,p,_,c,a=>D8 B (λs j=>exec d e (2*p) s j) (λa=>match (hint d p).lp with
  |some q=>nW B n a (cQ e []) q a λo=>(L.loop (λl=>exec d e (2*p) (R:=bi B.D q.bX⊕qM B (hint d p).outs) (λf j=>bif d6 f 0 then nW B n a (cQ e []) q j (λl=>c4 (.inl l)) else inj B n a (cQ e []) (hint d p).outs f j λk=>c4 (.inr k)) (ik B a (cQ e []) q l)) o).bind λk=>out B a (cQ e []) (hint d p).outs k c
  |none=>c6) c (zP (hint d p).fz) a
 |_,_,_,_,_=>c6
def nh{f:Type}(a:St B.D):Nat->List ResultVar->En B.D->(En B.D->Option f)->Option f
 |_,[],b,c=>c b
 |i,.tmp e::d,b,c=>nh a (i+1) d ((i,lk a.E e)::b) c
 |i,.cell g e::d,b,c=>load B P a.H e (lk a.E g) λr=>nh a (i+1) d ((i,r.val)::b) c
def gl(a:aq B)(d:List ResultVar)(code:Code)(f:List (Nat×Hn))(g:bi B.D a.par.bX):Option (bi B.D a.az.bX):=
 exec L B P G a.low f code 1 (λc b=>bif f9 c 1 then nh B P b 0 d [] λe=>take B a.low a.az ⟨e,b.H⟩ c4 else c6) (cz B a.par g)
end
end Go.X
namespace Go.Bml
open Go
theorem VR.dH{g:Gh}{H:List aO}{w:World}{c:PV}{x:Value}(h:VR g H w c x)(k:cE 0 c):VI g.F w c x:=by
 induction h with
 |aW h=>exact h
 |ptr r v i J o a y m K=>cases k with |ptr _ _ _ _ h=>omega
 |sl r v off len o x y m D j=>cases k with |sl _ _ _ _ h=>omega
 |fl r v o x y m D j=>cases k with |fl _ _ h=>omega
 |agg s l n m t=>cases k with |agg _ u=>exact .agg s l n λi c x e j=>t i c x e j (u c (d4 e))
 |bu s l n m t=>cases k with |bu _ u=>exact .bu s l n λi c x e j=>t i c x e j (u c (d4 e))
 |fn f s C l F n m B I t G=>
  cases k with |fn _ _ _ u A=>exact .fn f s C l F n (λi c x e j=>t i c x e j (u c (d4 e))) B (λi c x e j=>G i c x e j (A c (d4 e)))
theorem ako{j:Nat}{a:PV}(e:cE j a){h:Nat}{c:PV}(b:a.cells[h]? =c4 c):cE j c:=by
 by_cases f:∃i,a= .agg i
 ·obtain⟨i,rfl⟩:=f;cases e with |agg _ k=>exact k c (d4 b)
 ·have l:a.cells=[a]:=by cases a <;> first |rfl |exact absurd ⟨_,rfl⟩ f
  rw[l] at b
  match h,b with
  |0,b=>simp at b;subst b;exact e
theorem nR{f:Nat}{es:List PV}(h:∀a,a∈es->cE f a){i j:Nat}{e:PV}(b:cellOf es i j=c4 e):cE f e:=by
 obtain⟨a,c,_⟩:=gw b;unfold cellOf at b;rw[c] at b;exact ako (h a (d4 c)) b
theorem Ed{g:Gh}{H:List aO}{w:World}{r c len:Nat}{o:aO}{q:Value}{F:Nat->Prop}(x:qT g H w r o)(h:SL g o r c len q)(K:∀l,l∈o.es->cE 0 l)
 (A:∀b,g.F b->F b) (C:∀b m,g.β r=c4 (b,m)->F b):VI F w (.vs o.sz ((o.es.drop c).take len)) q:=by
 unfold SL at h;obtain⟨Q,h⟩:=h;have s:((o.es.drop c).take len).length=len:=by simp;omega
 cases k:g.β r with
 |none=>
  rw[k] at h;obtain⟨rfl,rfl,n,rfl⟩:=h;simp only[List.take_zero];exact .eX o.sz n 0
 |some N=>
  obtain⟨b,m⟩:=N;rw[k] at h;obtain⟨cap,n,rfl,U,L,_⟩:=h
  by_cases h0:len=0
  ·subst h0;simp only[List.take_zero];exact .eX o.sz n cap
  ·obtain rfl:=L h0;have v:=x.mem;rw[k] at v;obtain⟨_,cells,O,R,S,T,z⟩:=v;have B:∀i a e,cellOf ((o.es.drop c).take len) i a=c4 e->cellOf o.es (c+i) a=c4 e:=λi a e f=>by
    unfold cellOf at f⊢
    by_cases y:i<len
    ·rw[d5 y,d9] at f;exact f
    ·rw[f8 (by rw[s];omega)] at f;simp at f
   have p:∀i a e,cellOf ((o.es.drop c).take len) i a=c4 e->cells[(c+i)*o.sz+a]? =c4 (cells.getD (c*o.sz+(i*o.sz+a)) undef)/\(cells.getD (c*o.sz+(i*o.sz+a)) undef).oneCell'=true/\VI F w e (cells.getD (c*o.sz+(i*o.sz+a)) undef):=λi a e f=>by
    have t:=B i a e f;obtain⟨I,u,D,G⟩:=z _ _ _ t;have M:(c+i)*o.sz+a=c*o.sz+(i*o.sz+a):=by rw[e0];omega
    have J:cells.getD (c*o.sz+(i*o.sz+a)) undef=I:=by rw[<-M];simp[ga,u]
    rw[J];exact⟨u,D,(G.dH (nR K t)).mono A λ_ _=>rfl⟩
   have:=VI.vs (F:=F) (w:=w) o.sz ((o.es.drop c).take len) b (c*o.sz) cap (λi a=>cells.getD (c*o.sz+(i*o.sz+a)) undef) (by omega) (C b m k)
    (λi l j=>by
     rw[eE] at j
     split at j
     ·rw[d9] at j;exact x.width _ l j
     ·cases j)
    (λi a e f=>by
     rw[cell_of_row w b _ cells o.ty (0,0) O];have:=(p i a e f).1;rw[<-this]
     congr 1
     rw[e0];omega)
    (λi a e f=>(p i a e f).2.1) (λi a e f=>(p i a e f).2.2)
   rw[s] at this;exact this
section
variable {g : Gh} {H : List aO} {w : World}
def Gh.plus(g:Gh)(k:Nat):Gh:=⟨λb=>g.F b\/b=k,g.β⟩
theorem bF.afW(h:bF g H w)(ty:Nat)(cells:Array Value):
 GStep H.length g H w (g.plus w.heap.size) H (w.alloc (.cells cells ty))/\bF (g.plus w.heap.size) H (w.alloc (.cells cells ty)):=by
 have l:GStep H.length g H w (g.plus w.heap.size) H (w.alloc (.cells cells ty)):=
  ⟨rfl,rfl,rfl,by simp,λ_ a=>.inl a,λb a=>eo w _ b (h.fb b a),λb a _=>eo w _ b a,λb a=>a.elim .inl (λe=>.inr (.inl (by omega))),λr b C a=>.inr ⟨r,C,a⟩,λr o L k=>⟨o,k,dt _,λ_=>⟨rfl,rfl,rfl⟩⟩⟩
 refine⟨l,⟨λb a=>?_,h.inj,h.m8,λr o k=>?_⟩⟩
 ·rcases a with a |a
  ·exact hM (h.fb b a) l.size
  ·subst a;simp
 ·obtain⟨a1,K,j⟩:=h.obj r o k;refine⟨a1,K,?_⟩
  show match g.β r with
   |none=>o.es=[]
   |some (b,C)=>¬(g.F b\/b=w.heap.size)/\_
  cases a:g.β r with
  |none=>rw[a] at j;exact j
  |some p=>
   obtain⟨b,M⟩:=p;rw[a] at j;obtain⟨y,B,m,t,u,I,n⟩:=j;refine⟨λs=>s.elim y (λe=>by have:=nN m;omega),B,(eo w _ b (nN m)).trans m,t,u,I,λi F c J=>?_⟩
   obtain⟨G,A,D,x⟩:=n i F c J;exact⟨G,A,D,x.nZ l⟩
end
section
variable {P : Program} {nt : Nat} {E : Env} {H : List aO} {o : Oper}
theorem J5{elem c m:Nat}{e:List PV}(C:nY P E H o elem c e (λq L=>.sl q L 0 m))(G:e.length=m)(U:∀u,u∈e->cE 0 u):
 fJ P o E H λx H1=>x= .vs c e/\H1=H:=by
 subst G;intro g nt J w j ag ah V;obtain⟨cells,y,r,b,W,O,ae,I,ai,ad,af,ab,z⟩:=C g nt J w j;unfold i6;rw[W];have X:bF g H b/\GStep H.length g H w g H b/\b.heap.size=w.heap.size:=by
  rcases O with rfl |rfl
  ·exact⟨j.m,GStep.refl _ _ _ _,rfl⟩
  ·obtain⟨aa,S⟩:=Ez (m:=H.length) j.m;exact⟨S,aa,rfl⟩
 obtain⟨Y,t,p⟩:=X;obtain⟨l,D⟩:=Y.afW elem cells;have Q:=z ⟨λ_=>False,λq=>if q=0 then c4 (w.heap.size,y) else c6⟩ [⟨elem,c,e,0⟩] (b.alloc (.cells cells elem)) 0 0 rfl rfl;have n:=lh (o:=⟨elem,c,e,0⟩) Q rfl rfl;unfold SL at n;obtain⟨_,cap,B,v,ac,Z,_⟩:=n;have A:(b.alloc (.cells cells elem)).heap[w.heap.size]? =c4 (.cells cells elem (0,0)):=by rw[<-p];exact heap_alloc_new b _
 have K:VI (g.plus b.heap.size).F (b.alloc (.cells cells elem)) (.vs c e) r:=by
  rw[v]
  by_cases h0:e.length=0
  ·rw[d7 h0];exact .eX c B cap
  ·obtain rfl:=Z h0;have k:∀i a f,cellOf e i a=c4 f->cells[i*c+a]? =c4 (cells.getD (i*c+a) undef)/\(cells.getD (i*c+a) undef).oneCell'=true/\VI (g.plus b.heap.size).F (b.alloc (.cells cells elem)) f (cells.getD (i*c+a) undef):=λi a f h=>by
    obtain⟨R,s,M,N⟩:=ab i a f h;have T:cells.getD (i*c+a) undef=R:=by simp[ga,s]
    rw[T];exact⟨s,M,((N.nZ t).nZ l).dH (nR U h)⟩
   have:=VI.vs (F:=(g.plus b.heap.size).F) (w:=b.alloc (.cells cells elem)) c e w.heap.size 0 cap (λi a=>cells.getD (i*c+a) undef) ac (.inr p.symm) I
    (λi a f h=>by
     rw[cell_of_row _ _ _ cells elem (0,0) A,ev];exact(k i a f h).1)
    (λi a f h=>(k i a f h).2.1) (λi a f h=>(k i a f h).2.2)
   simpa using this
 exact V r _ (g.plus b.heap.size) _ H ⟨rfl,rfl⟩ (.aW K) D (t.trans l)
theorem ab0{d:Option Nat}{ty:TypeId}{pos:String}{aft:Array Edge}{l:TypeId}{e k:Operand}{j b x:Nat}{p:PV}{f:List PV}{q:Value}(c:PE E e= .bg\/PE E e= .z0)(u:PE E k=p)(s:lE H p b f)(n:0<b)
 (t:dU P l=c4 j) (r:cH P j=c4 b) (C:kB P j=c4 x) (z:dV P j=c4 q) (B:q.cells.size=b) (K:f.length*x<=140737488355328) (J:f.length<=9223372036854775807) (D:∀v,v∈f->cE 0 v):
 fJ P ⟨d,.call {callee:=.builtin .append,args:=#[e,k],argTypes:=#[l,l]},ty,pos,aft,c6⟩ E H λy H1=>y= .vs b f/\H1=H:=by
 by_cases m:f=[]
 ·subst m;have I:∀g nt (h:Act) w,Rel g nt E H h w->∃i,h.eval e= .slice i 0 0:=λg nt h w a=>by
   rcases c with c |c
   ·exact⟨c6,(c▸a.e.eval e).pF⟩
   ·exact(c▸a.e.eval e).rh
  intro g nt h w a N O F;obtain⟨i,G⟩:=I g nt h w a;obtain⟨_,L,M,A,_⟩:=s.real a.m (u▸a.e.eval k) n;unfold i6;rw[Ei,G,A,hD,xr (gD t) r (dt _)];exact F (.slice i 0 0) w g _ H ⟨rfl,rfl⟩ (.aW (.eX b i 0)) a.m (GStep.refl _ _ _ _)
 ·exact J5 (PO c u s n t r C z B K J m) rfl D
end
section
variable {P : Program} {E : Env} {H : List aO} {d : Option Nat} {ty : TypeId} {pos : String} {aft : Array Edge} {gd : Option (Nat × Bool)}
theorem apw{f:FuncId}{bs cs:List Operand}:cM P ⟨d,.makeFunc (.func f) bs.toArray cs.toArray,ty,pos,aft,gd⟩ E H (.fn f (bs.map (PE E)) (cs.map (PE E))):=by
 intro g nt e w m;refine⟨.func (.func f) (bs.map e.eval).toArray (cs.map e.eval).toArray,by simp[execOp,Instr.makeFunc],?_⟩
 have k:∀(c:List Operand) (i:Nat) (h:PV) (j:Value),(c.map (PE E))[i]? =c4 h->(c.map e.eval)[i]? =c4 j->VR g H w h j:=λc i h j a b=>by
  rw[d8] at a b;cases l:c[i]? with
  |none=>rw[l] at a;cases a
  |some o=>
   rw[l] at a b;injection a with a;injection b with b
   subst a;subst b;exact m.e.eval o
 exact .fn f _ _ _ _ (by simp) (k bs) (by simp) (k cs)
end
inductive Cc:PV->PV->Prop
 |refl (c:PV):Cc c c
 |nil (sz:Nat):Cc .bg (.vs sz [])
 |z0 (sz:Nat):Cc .z0 (.vs sz [])
 |agg (cs ds:List PV) (hl:cs.length=ds.length) (h:∀(i:Nat) (c d:PV),cs[i]? =c4 c->ds[i]? =c4 d->Cc c d):Cc (.agg cs) (.agg ds)
theorem Cc.vi{F:Nat->Prop}{w:World}{c d:PV}(h:Cc c d):∀{x:Value},VI F w c x->VI F w d x:=by
 induction h with
 |refl c=>exact id
 |nil sz=>intro x h;cases h;exact .eX sz c6 0
 |z0 sz=>intro x h;cases h;exact .eX sz _ 0
 |agg s m u t k=>
  intro x h;cases h with
  |agg _ j y l=>
   refine .agg m j (by omega) λi c x e n=>?_
   have a:i<s.length:=by
    have:=(c7.1 e).1;omega
   exact k i _ c (c5 a) e (l i _ x (c5 a) n)
theorem Cc.vr{g:Gh}{H:List aO}{w:World}{c d:PV}(h:Cc c d):∀{x:Value},VR g H w c x->VR g H w d x:=by
 induction h with
 |refl c=>exact id
 |nil sz=>intro x h;rw[h.pF];exact .aW (.eX sz c6 0)
 |z0 sz=>
  intro x h;obtain⟨a,rfl⟩:=h.rh;exact .aW (.eX sz _ 0)
 |agg t n y u l=>
  intro x h;obtain⟨k,rfl,A,m⟩:=h.ky;refine .agg n k (by omega) λi c x j s=>?_
  have e:i<t.length:=by
   have:=(c7.1 j).1;omega
  exact l i _ c (c5 e) j (m i _ x (c5 e) s)
theorem Cc.cells{c d:PV}(h:Cc c d):c.cells.length=d.cells.length/\∀(i:Nat) (a b:PV),c.cells[i]? =c4 a->d.cells[i]? =c4 b->Cc a b:=by
 cases h with
 |refl=>exact⟨rfl,λi a b j e=>by rw[j] at e;injection e with e;subst e;exact .refl _⟩
 |nil sz=>exact⟨rfl,λi a b j e=>by
  match i,j,e with
  |0,j,e=>simp[PV.cells] at j e;subst j;subst e;exact .nil sz⟩
 |z0 sz=>exact⟨rfl,λi a b j e=>by
  match i,j,e with
  |0,j,e=>simp[PV.cells] at j e;subst j;subst e;exact .z0 sz⟩
 |agg n m l k=>exact⟨l,k⟩
structure jB (o o':aO):Prop where
 ty:o'.ty=o.ty
 sz:o'.sz=o.sz
 aF:o'.aF=o.aF
 len:o'.es.length=o.es.length
 wid:∀(i:Nat) (e:PV),o'.es[i]? =c4 e->e.cells.length=o'.sz
 cells:∀(i j:Nat) (c':PV),cellOf o'.es i j=c4 c'->∃c,cellOf o.es i j=c4 c/\Cc c c'
theorem jB.of{ty sz aF:Nat}{es j:List PV}(t:es.length=j.length)(h:∀(i:Nat) (c d:PV),es[i]? =c4 c->j[i]? =c4 d->Cc c d)(s:∀(i:Nat) (e:PV),j[i]? =c4 e->e.cells.length=sz):jB ⟨ty,sz,es,aF⟩ ⟨ty,sz,j,aF⟩:=by
 refine⟨rfl,rfl,rfl,t.symm,s,λi k u a=>?_⟩
 unfold cellOf at a⊢;cases he:j[i]? with
 |none=>rw[he] at a;cases a
 |some e=>
  rw[he] at a;have l:i<es.length:=by
   have:=(c7.1 he).1;omega
  obtain⟨x,n⟩:=(h i _ e (c5 l) he).cells;simp only[g4] at a;have m:k<es[i].cells.length:=by
   have:=(c7.1 a).1;omega
  exact⟨es[i].cells[k],by rw[c5 l];exact c5 m,n k _ u (c5 m) a⟩
section
variable {g : Gh} {H : List aO} {w : World} {r : Nat} {o o' : aO}
theorem SL.cv(h:jB o o'){q off len:Nat}{x:Value}(a:SL g o q off len x):SL g o' q off len x:=by
 unfold SL at*;rw[h.len,h.sz];exact a
theorem VR.qN(G:H[r]? =c4 o)(h:jB o o'){c:PV}{x:Value}(j:VR g H w c x):VR g (H.set r o') w c x:=by
 have M:r<H.length:=(c7.1 G).1;have C:∀q p,H[q]? =c4 p->∃d,(H.set r o')[q]? =c4 d/\d.aF=p.aF/\d.sz=p.sz/\d.es.length=p.es.length/\∀{s off len x},SL g p s off len x->SL g d s off len x:=λq p m=>by
  by_cases e:r=q
  ·subst e;rw[G] at m;injection m with m
   subst m;exact⟨o',dk M,h.aF,h.sz,h.len,λL=>L.cv h⟩
  ·exact⟨p,by rw[e5 e];exact m,rfl,rfl,rfl,id⟩
 induction j with
 |aW h=>exact .aW h
 |ptr q v i N p a t j O=>
  obtain⟨d,l,I,E,B,A⟩:=C q p t;exact .ptr q v i N d a l (by omega) λe=>by rw[E,B];exact O (by omega)
 |sl q v off len p x t j D F=>
  obtain⟨d,l,I,E,B,A⟩:=C q p t;exact .sl q v off len d x l (by omega) D λe=>A (F (by omega))
 |fl q v p x t j D F=>
  obtain⟨d,l,I,E,B,A⟩:=C q p t;exact .fl q v d x l (by omega) D λe=>by rw[B];exact A (F (by omega))
 |agg u k n j y=>exact .agg u k n y
 |bu u k n j y=>exact .bu u k n y
 |fn f u K k P n j J R y Q=>exact .fn f u K k P n y J Q
theorem bF.qN(k:bF g H w)(l:H[r]? =c4 o)(h:jB o o'):bF g (H.set r o') w:=by
 have L:r<H.length:=(c7.1 l).1;refine⟨k.fb,k.inj,λq b C d=>by rw[List.length_set];exact k.m8 q b C d,λq p j=>?_⟩
 by_cases e:r=q
 ·subst e;rw[dk L] at j;injection j with j
  subst j;obtain⟨a1,I,a⟩:=k.obj r o l;refine⟨by rw[h.sz];exact a1,h.wid,?_⟩
  cases d:g.β r with
  |none=>
   rw[d] at a;have:o'.es.length=0:=by rw[h.len,a];rfl
   exact d7 this
  |some E=>
   obtain⟨b,C⟩:=E;rw[d] at a;obtain⟨x,cells,F,s,t,D,n⟩:=a;refine⟨x,cells,by rw[h.ty];exact F,by rw[h.sz];exact s,t,by rw[h.len];exact D,λi m c G=>?_⟩
   obtain⟨K,J,M⟩:=h.cells i m c G;obtain⟨B,y,A,u⟩:=n i m K J;exact⟨B,by rw[h.sz];exact y,A,(M.vr u).qN l h⟩
 ·rw[e5 e] at j;obtain⟨a1,I,a⟩:=k.obj q p j;refine⟨a1,I,?_⟩
  cases d:g.β q with
  |none=>rw[d] at a;exact a
  |some E=>
   obtain⟨b,C⟩:=E;rw[d] at a;obtain⟨x,cells,F,s,t,D,n⟩:=a;exact⟨x,cells,F,s,t,D,λi m c G=>let ⟨B,y,A,u⟩:=n i m c G;⟨B,y,A,u.qN l h⟩⟩
theorem GStep.qN{n:Nat}{m:Gh}{H0:List aO}{k:World}(a:GStep n m H0 k g H w)(l:H[r]? =c4 o)(h:jB o o'):GStep n m H0 k g (H.set r o') w:=by
 have t:r<H.length:=(c7.1 l).1;refine⟨a.os,a.tape,a.output,a.size,a.F,a.jh,a.rest,a.oY,a.oZ,λq p s x=>?_⟩
 obtain⟨u,c,j,d⟩:=a.dF q p s x
 by_cases e:r=q
 ·subst e;rw[l] at c;injection c with c
  subst c;exact⟨o',dk t,by rw[h.aF];exact j,λe=>by rw[h.sz,h.len];exact d (by rw[<-h.aF];exact e)⟩
 ·exact⟨u,by rw[e5 e];exact c,j,d⟩
end
theorem tu{j:Program}{h:Oper}{i:Env}{H:List aO}{f c:PV}{r:Nat}{o o':aO}(p:fJ j h i H λv b=>v=f/\b=H.set r o)(y:r<H.length)(e:jB o o')(u:Cc f c):fJ j h i H λv b=>v=c/\b=H.set r o':=by
 intro g q t w B z C A;refine p g q t w B z C ?_
 rintro x k m v D ⟨rfl,rfl⟩ l s n;have a:(H.set r o)[r]? =c4 o:=dk y;have d:(H.set r o).set r o'=H.set r o':=by rw[List.set_set]
 refine A x k m c (H.set r o') ⟨rfl,rfl⟩ (u.vr ?_) ?_ ?_
 ·have:=l.qN a e;rwa [d] at this
 ·have:=s.qN a e;rwa [d] at this
 ·have:=n.qN a e;rwa [d] at this
theorem ZN{n:Nat->Prop}{w:World}{d:Nat}{k f:List PV}{m:Value}(c:VI n w (.vs d k) m)(j:jB ⟨0,d,k,0⟩ ⟨0,d,f,0⟩):VI n w (.vs d f) m:=by
 have l:f.length=k.length:=j.len;cases c with
 |eX _ s cap=>
  have:f=[]:=d7 (by rw[l];rfl);subst this;exact .eX d s cap
 |vs _ _ b y cap u A q z x t p=>
  rw[<-l];refine .vs d f b y cap u (by omega) q j.wid (λi a h c=>?_) (λi a h c=>?_) (λi a h c=>?_)
  ·obtain⟨e,h0,_⟩:=j.cells i a h c;exact x i a e h0
  ·obtain⟨e,h0,_⟩:=j.cells i a h c;exact t i a e h0
  ·obtain⟨e,h0,v⟩:=j.cells i a h c;exact v.vi (p i a e h0)
theorem Pf{i:Program}{e:Oper}{h:Env}{H:List aO}{a:Nat}{d f:List PV}(m:fJ i e h H λv c=>v= .vs a d/\c=H)(z:jB ⟨0,a,d,0⟩ ⟨0,a,f,0⟩):fJ i e h H λv c=>v= .vs a f/\c=H:=by
 intro g n q w x t y u;refine m g n q w x t y ?_
 rintro s j k v A ⟨rfl,rfl⟩ b p l;refine u s j k _ _ ⟨rfl,rfl⟩ ?_ p l
 cases b with
 |aW b=>exact .aW (ZN b z)
theorem qX{f:Program}{c:Oper}{e:Env}{H H1:List aO}{q v d:Nat}{o:aO}(m:fJ f c e H λa b=>a= .sl q v 0 d/\b=H1)(i:ek H1 q o)(t:d=o.es.length):fJ f c e H λa b=>a= .fl q v/\b=H1:=by
 intro g n s w y u z x;refine m g n s w y u z ?_
 rintro a h k A B ⟨rfl,rfl⟩ j p l;exact x a h k _ _ ⟨rfl,rfl⟩ (j.aa1 i t) p l
theorem P6{c e:Nat}(v:PV):jB ⟨c,v.cells.length,[v],e⟩ ⟨c,v.cells.length,[.agg v.cells],e⟩:=by
 refine⟨rfl,rfl,rfl,rfl,λi f a=>?_,λi h d b=>?_⟩
 ·match i,a with
  |0,a=>simp at a;subst a;rfl
 ·match i,b with
  |0,b=>exact⟨d,b,.refl d⟩
end Go.Bml
namespace Go.X
open Go Go.Aml Go.Bml
section
variable {α : Type}
theorem cJ:∀(a:List α) (i:Nat),nth a i=a[i]?
 |[],_=>by simp[nth]
 |_::_,0=>rfl
 |_::a,i+1=>by simpa[nth] using cJ a i
theorem bK:∀(b a:List α),aX b a=b++a
 |[],_=>rfl
 |c::b,a=>by simp[aX,bK b a]
theorem eu:∀(a:List α),len a=a.length
 |[]=>rfl
 |_::a=>by simp[len,eu a]
theorem iL:∀(a:List α) (i:Nat) (b:α),me a i b=a.set i b
 |[],_,_=>rfl
 |_::_,0,_=>rfl
 |c::a,i+1,b=>by simp[me,iL a i b]
theorem kK:∀(a:Nat) (b:List α),tk a b=b.take a
 |0,_=>by simp[tk]
 |_+1,[]=>rfl
 |a+1,c::b=>by simp[tk,kK a b]
theorem drop_eq:∀(a:Nat) (b:List α),drop a b=b.drop a
 |0,_=>rfl
 |_+1,[]=>rfl
 |a+1,c::b=>by simpa[drop] using drop_eq a b
theorem oO:∀(b:List Nat) (a:Nat),has b a=true↔a∈b
 |[],a=>by simp[has]
 |d::b,a=>by
  simp only[has,i4];cases c:d6 d a with
  |true=>simp[(ez c).symm]
  |false=>
   have:a≠d:=λe=>by rw[e,h7] at c;cases c
   simp[this,oO b a]
theorem nA{b:List Nat}{a:Nat}(c:has b a=false):a∉b:=λd=>by rw[(oO b a).2 d] at c;cases c
theorem tw:∀(a:List Nat),rj a=true↔a.Nodup
 |[]=>by simp[rj]
 |c::a=>by
  simp only[rj,List.nodup_cons];cases b:has a c with
  |true=>simp[(oO a c).1 b]
  |false=>simp[nA b,tw a]
theorem beq_eq{a b:Nat}(c:d6 a b=true):a=b:=ez c
theorem fq{e d:Type}{b:Option e}{f:e->Option d}{r:d}(c:tr b f=c4 r):∃a,b=c4 a/\f a=c4 r:=by
 cases b with
 |none=>cases c
 |some a=>exact⟨a,rfl,c⟩
theorem a8{a:Bool}{c:Option α}{r:α}(b:(bif a then c else c6)=c4 r):a=true/\c=c4 r:=by
 cases a with
 |true=>exact⟨rfl,b⟩
 |false=>cases b
theorem qy:∀(a:List (Nat×α)) (H:List α),(b8 H a).length=H.length
 |[],_=>rfl
 |p::a,H=>by rw[b8,qy a,iL,List.length_set]
theorem qV{b:Nat->Type}:∀a,(dx a:List (Ob b)).length=a
 |0=>rfl
 |a+1=>by simp[dx,qV a]
theorem qh{a b:IntKind}(c:fV a b=true):a=b:=of_decide_eq_true c
end
section
variable (B : Tb)
mutual
def pv:TV B.D->PV
 | .any=>.any
 | .z0=>.z0
 | .fS=>.fS
 | .bg=>.bg
 | .dB=>.dB
 | .int l c=>.int l c
 | .bool b=>.bool b
 | .str k=>.str k
 | .row c e=>.vs (B.sz c) (e.map (B.ty c).enc)
 | .rv c j=>.vs (B.sz c) (aP j)
 | .ptr r v i d=>.ptr r v i d
 | .fl r v=>.fl r v
 | .sl r v g len=>.sl r v g len
 | .vp a d=>.dw (aP a) d
 | .agg a=>.agg (aP a)
 | .bu a=>.bu (aP a)
 | .fn f a h=>.fn f (aP a) (aP h)
 | .jC c6=>.dB
 | .jC (c4 f)=>.fn f [] []
def aP:List (TV B.D)->List PV
 |[]=>[]
 |b::a=>pv b::aP a
end
theorem db:∀a,aP B a=a.map (pv B)
 |[]=>rfl
 |b::a=>by simp[aP,db a]
def aU:En B.D->Env
 |[]=>[]
 |p::r=>(p.1,pv B p.2)::aU r
def aY(b:Ob B.D):aO:=
 match b.bd with
 | .rows a c=>⟨a,B.sz a,c.map (B.ty a).enc,b.aF⟩
 | .box e d=>⟨e,d.length,[.agg (aP B d)],b.aF⟩
 | .dead=>⟨0,1,[],b.aF⟩
 | .hole a c f=>⟨a,B.sz a,c.map (B.ty a).enc++aP B f,b.aF⟩
def av(H:List (Ob B.D)):List aO:=H.map (aY B)
theorem ep:∀(b:En B.D) (a:Nat),Bml.look (aU B b) a=pv B (lk b a)
 |[],a=>by simp[aU,Bml.look,lk,pv]
 |p::r,a=>by
  simp only[aU,Bml.look,lk];cases d6 p.1 a with
  |true=>rfl
  |false=>exact ep r a
theorem OD(v:Value):pv B (Cs v)=jq v:=by
 unfold Cs jq
 split <;> simp[pv]
theorem r8:∀a:List Value,aP B (rq a)=a.map jq
 |[]=>rfl
 |v::a=>by simp[rq,aP,OD,r8 a]
theorem DK(v:Value):pv B (cv v)=kP v:=by
 cases v <;> first
  |(simp only[cv,kP];exact OD B _)
  |simp[cv,kP,pv,r8]
theorem Bw(a:En B.D)(c:Operand):PE (aU B a) c=pv B (pe a c):=by
 cases c with
 |tmp d=>exact ep B a d
 |const v=>exact(DK B v).symm
 |global b=>simp[PE,pe,pv]
 |func f=>simp[PE,pe,pv,aP]
theorem sx(b:En B.D)(a:Option Nat)(v:TV B.D):aU B (gr b a v)=li (aU B b) a (pv B v):=by
 cases a <;> rfl
theorem nB(a:TV B.D):(pv B a).cells=(dN a).map (pv B):=by
 cases a <;> first
  |rfl
  |(rename_i b;cases b <;> rfl;done)
  |simp[pv,PV.cells,dN,db]
end
structure cU (P:Program) (B:Tb):Prop where
 row:∀(n m:Nat) (xs:List (B.D m)) (x:B.D n),B.up n (.row m xs)=c4 x->B.tv n x= .row m xs
 el:∀(n:Nat) (x:B.D n) (m:Nat) (xs:List (B.D m)),B.tv n x= .row m xs->m=B.el n
 tv:∀(n:Nat) (x:B.D n),pv B (B.tv n x)=(B.ty n).enc x
 lt:∀(n:Nat) (x:B.D n),cE 0 ((B.ty n).enc x)
 up:∀(n:Nat) (t:TV B.D) (x:B.D n),B.up n t=c4 x->cE 0 (pv B t)/\Cc (pv B t) ((B.ty n).enc x)
 wid:∀(n:Nat) (x:B.D n),((B.ty n).enc x).cells.length=B.sz n
 one:∀(n:Nat) (x:B.D n),((B.ty n).enc x).cells.all PV.one=true
 pos:∀(n:Nat),0<B.sz n
 xw:∀(n:Nat) (x:B.D n) (vs:List PV),(B.ty n).enc x≠ .bu vs
 ic:∀(n:Nat),B.D n->cH P n=c4 (B.sz n)
 flat:∀(n:Nat) (x:B.D n),B.flat n=true->∀(j:Nat) (c:PV),((B.ty n).enc x).cells[j]? =c4 c->∀(F F':Nat->Prop) (w w':World) (v:Value),VI F w c v->VI F' w' c v
theorem cU.aqv{A:Program}{B:Tb}(s:cU A B)(n:Nat)(x:B.D n)(w:B.flat n=true)(F k:Nat->Prop)(d a:World)(v:Value)(h:VI F d ((B.ty n).enc x) v):VI k a ((B.ty n).enc x) v:=by
 have key:=s.flat n x w;generalize (B.ty n).enc x=e at key h
 by_cases l:∃j,e= .agg j
 ·obtain⟨j,rfl⟩:=l;cases h with
  |agg _ o u t=>exact .agg j o u λi c x m y=>key i c m F k d a x (t i c x m y)
 ·have C:e.cells=[e]:=by cases e <;> first |rfl |exact absurd ⟨_,rfl⟩ l
  exact key 0 e (by rw[C];rfl) F k d a v h
section
variable {B : Tb} {H : List (Ob B.D)}
theorem fx{r v:Nat}{b:Bd B.D}(a:aK H r v=c4 b):∃d,nth H r=c4 ⟨d,v,b⟩:=by
 unfold aK at a
 split at a
 ·rename_i f e;obtain⟨d,g,h⟩:=f;cases c:d6 g v with
  |true=>
   simp only[c,cond_true,hX] at a;subst a;exact⟨d,by rw[e,beq_eq c]⟩
  |false=>simp[c] at a
 ·cases a
theorem df{r:Nat}{b:Ob B.D}(a:nth H r=c4 b):ek (av B H) r (aY B b):=by
 unfold ek av;rw[cJ] at a;rw[d8,a]
 rfl
theorem qL:(av B H).length=H.length:=by simp[av]
theorem Zc{r:Nat}{a:Ob B.D}:av B (me H r a)=(av B H).set r (aY B a):=by
 unfold av;rw[iL,List.map_set]
end
theorem ajP{e:Program}{d:Oper}{c:Env}{H:List aO}{v:PV}(h:cM e d c H v):fJ e d c H λf n=>f=v/\n=H:=by
 intro g i j b a q p m;obtain⟨o,l,k⟩:=h g i j b a;unfold i6;rw[l];exact m o b g v H ⟨rfl,rfl⟩ k a.m (GStep.refl _ _ _ _)
theorem lI{e:Program}{c:Oper}{d:Env}{H:List aO}{b a:PV->List aO->Prop}(i:fJ e c d H b)(p:∀v H,b v H->a v H):fJ e c d H a:=
 λg j k t n o s q=>i g j k t n o s λm f h v l r=>q m f h v l (p _ _ r)
section
variable {P : Program} {B : Tb} {R : Type} {r : R}
structure Ag (op:Op) (l:List Nat) (E E':En B.D) (X H':List (Ob B.D)):Prop where
 e:∀x,x∈op.operands->pe E' x=pe E x
 h:∀i,i∈l->nth H' i=nth X i
 le:X.length<=H'.length
def gY(P:Program)(c:Op)(i:En B.D)(h:List (Ob B.D))(a:cr B.D):Prop:=
 ∀j f g k d b,Ag c (aX a.rd (eV a.wr)) i d (aX h (dx a.nw)) b->
  fJ P ⟨j,c,f,g,k,c6⟩ (aU B d) (av B b) λv e=>v=pv B a.val/\e=av B (b8 b a.wr)
def fW(P:Program)(b:Op)(k:En B.D)(j:List (Ob B.D))(f:List Nat)(v:TV B.D):Prop:=
 ∀l g h m d e,(∀a,a∈b.operands->PE (aU B d) a=pv B (pe k a))->(∀i c,i∈f->nth j i=c4 c->nth e i=c4 c)->cM P ⟨l,b,g,h,m,c6⟩ (aU B d) (av B e) (pv B v)
theorem Dy{c:List (Ob B.D)}{n i:Nat}{b:Ob B.D}(a:nth c i=c4 b):nth (aX c (dx n)) i=c4 b:=by
 rw[cJ] at a⊢;rw[bK,d3 (c7.1 a).1];exact a
theorem fW.sound{c:Op}{E:En B.D}{H:List (Ob B.D)}{rd:List Nat}{v:TV B.D}(h:fW P c E H rd v):gY P c E H ⟨v,[],0,rd⟩:=by
 intro d ty pos n k m a;refine ajP (h d ty pos n k m (λx l=>?_) λi o e j=>?_)
 ·rw[Bw,a.e x l]
 ·rw[a.h i (by simp[bK,e])];exact Dy j
theorem anB{a:Operand}{b:En B.D}{c:List (Ob B.D)}:fW P (.move a) b c [] (pe b a):=
 λ_ _ _ _ _ _ d _=>aik (d a (by simp[d0]))
theorem aqt{a:Operand}{b:En B.D}{c:List (Ob B.D)}:fW P (.assign a) b c [] (pe b a):=
 λ_ _ _ _ _ _ d _=>ak6 (d a (by simp[d0]))
theorem Ra{g:Gh}{t:List aO}{u:World}{v:TypeId}{d:List (TV B.D)}{c:List Value}{b:Nat}{p:TV B.D}(q:d.length=c.length)(w:∀(i:Nat) (l:PV) (j:Value),(aP B d)[i]? =c4 l->c[i]? =c4 j->VR g t u l j)(a:piece P v d b=c4 p):
 ∃s,(∀f,(part v c.toArray b).run P f= .ok s f)/\VR g t u (pv B p) s:=by
 unfold piece at a
 split at a
 ·rename_i m
  split at a
  ·rename_i n y;obtain⟨z,k⟩:=a8 a;rw[kK,drop_eq] at k;injection k with k
   subst k;refine⟨.agg ((c.drop b).take n).toArray,λf=>?_,?_⟩
   ·simp[part,o5 m,Go.Bml.run_sizeOf y,List.extract_eq_take_drop,h6]
   ·have:pv B (.agg ((d.drop b).take n))= .agg (aP B ((d.drop b).take n)):=rfl;rw[this];refine .agg _ _ (by rw[db];simp[q]) λi l j e h=>?_
    rw[db,d8,eE] at e;rw[eE] at h
    split at e
    ·rename_i x;rw[if_pos x] at h;rw[d9] at e h;exact w _ l j (by rw[db,d8];exact e) h
    ·simp at e
  ·cases a
 ·rename_i m;rw[cJ] at a;have o:b<c.length:=by rw[<-q];exact(c7.1 a).1
  refine⟨c[b],λf=>by simp[part,o5 m,o],w b _ _ ?_ (c5 o)⟩
  rw[db,d8,a]
  rfl
 ·cases a
theorem Q1{g:Gh}{h:List aO}{d:World}{C:TypeId->TV B.D->TV B.D->Option Bool}{w:Nat}{n l:List (TV B.D)}{k m:List Value}(u:n.length=k.length)(D:∀(i:Nat) (e:PV) (c:Value),(aP B n)[i]? =c4 e->k[i]? =c4 c->VR g h d e c)
 (t:l.length=m.length) (s:∀(i:Nat) (e:PV) (c:Value),(aP B l)[i]? =c4 e->m[i]? =c4 c->VR g h d e c)
 (z:∀(A:Nat) (x c:TV B.D) (b:Bool),C A x c=c4 b->∀(y v:Value),VR g h d (pv B x) y->VR g h d (pv B c) v->(gy w A y v).run P d= .ok b d):
 ∀(j:List Field) (b:Bool),A6 P C n l j=c4 b->(Op.eqFields w k.toArray m.toArray j).run P d= .ok b d
 |[],b,a=>by
  injection a with a
  subst a;simp[Op.eqFields]
 |f::j,b,a=>by
  unfold A6 at a;obtain⟨o,a⟩:=a8 a
  split at a
  ·rename_i S Q K H
   split at a
   ·rename_i p q L E;injection a with a
    subst a;obtain⟨T,I,F⟩:=Ra u D K;obtain⟨O,G,M⟩:=Ra t s H;have J:=z _ _ _ _ L _ _ F M;have N:=Q1 u D t s z j q E;have o:f.name≠ "_":=by simpa using o
    simp only[Op.eqFields,if_pos o,ej,I,G,e6,J];cases p with
    |true=>simpa using N
    |false=>simp
   ·cases a
  ·cases a
theorem Hq{g:Gh}{q:List aO}{w:World}:∀(d c:Nat) (h f:TV B.D) (b:Bool),yq P d c h f=c4 b->∀(m v:Value),VR g q w (pv B h) m->VR g q w (pv B f) v->(gy d c m v).run P w= .ok b w
 |0,_,_,_,_,a=>by cases a
 |d+1,c,h,f,b,a=>by
  intro m v l i;unfold yq at a
  split at a
  ·rename_i e
   split at a
   ·rename_i u z;injection a with a
    subst a;rw[VR.n5 l,VR.n5 i];exact run_equalIn_bool' w d c _ _ e
   ·cases a
  ·rename_i G e
   split at a
   ·rename_i D u F z;obtain⟨y,k⟩:=a8 a;obtain rfl:=qh y;injection k with k
    subst k;rw[VR.fQ l,VR.fQ i];exact run_equalIn_int w d c _ _ _ _ e
   ·cases a
  ·rename_i s e;cases j:P.stoodInHeld c with
   |true=>rw[j] at a;cases a
   |false=>
    rw[j] at a;simp only[cond_false] at a
    split at a
    ·rename_i I E;obtain⟨C,rfl,p,A⟩:=VR.ky l;obtain⟨H,rfl,n,t⟩:=VR.ky i;have o:P.fieldsOf c=s:=by unfold Program.fieldsOf;rw[e]
     rw[run_equalIn_struct w d c _ _ (by rw[o];exact e) j,o];rw[db,d1] at p n;exact Q1 p A n t (λc h f b x=>Hq d c h f b x) s.toList b a
    ·cases a
  ·cases a
theorem Et{w:World}{a:TypeId}{h k:Array TypeId}{j:Bool}(d:P.underlying a=c4 (.func h k j)):
 ((binOp .eql a .nilFunc .nilFunc).run P w= .ok (.bool true) w/\∀f b v,(binOp .eql a (.func f b v) .nilFunc).run P w= .ok (.bool false) w)/\
 ((binOp .neq a .nilFunc .nilFunc).run P w= .ok (.bool false) w/\∀f b v,(binOp .neq a (.func f b v) .nilFunc).run P w= .ok (.bool true) w):=by
 have l:∀c,(gy (c+1) a .nilFunc .nilFunc).run P w= .ok true w:=λc=>by simp[gy,run_underlying d]
 have i:∀c f b v,(gy (c+1) a (.func f b v) .nilFunc).run P w= .ok false w:=λc f b v=>by simp[gy,run_underlying d]
 have g:(i5 a .nilFunc .nilFunc).run P w= .ok true w:=l 9999;have e:∀f b v,(i5 a (.func f b v) .nilFunc).run P w= .ok false w:=i 9999;refine⟨⟨?_,λf b v=>?_⟩,?_,λf b v=>?_⟩
 ·show(do pure (.bool (<-i5 a .nilFunc .nilFunc)):Sem Value).run P w=_
  simp[g]
 ·show(do pure (.bool (<-i5 a (.func f b v) .nilFunc)):Sem Value).run P w=_
  simp[e]
 ·show(do pure (.bool !(<-i5 a .nilFunc .nilFunc)):Sem Value).run P w=_
  simp[g]
 ·show(do pure (.bool !(<-i5 a (.func f b v) .nilFunc)):Sem Value).run P w=_
  simp[e]
theorem afA{n:BinOp}{m yt:TypeId}{e i:Operand}{s:En B.D}{H:List (Ob B.D)}{ag:TV B.D->Option R}(k:bin B P n m (pe s e) (pe s i) ag=c4 r):
 ∃v,ag v=c4 r/\fW P (.binOp n m e i yt) s H [] v:=by
 unfold bin at k
 split at k
 ·rename_i l ai b ak D x;have h:∀{c:En B.D},(∀z,z∈(hP n m e i yt).operands->PE (aU B c) z=pv B (pe s z))->PE (aU B c) e= .int l ai:=λa=>by rw[a e (by simp[d0]),D];rfl
  have j:∀{c:En B.D},(∀z,z∈(hP n m e i yt).operands->PE (aU B c) z=pv B (pe s z))->PE (aU B c) i= .int b ak:=λa=>by rw[a i (by simp[d0]),x];rfl
  cases n <;> simp only at k
  case shl=>
   obtain⟨q,u,d⟩:=dd.1 k;obtain⟨h0,y⟩:=alN u;exact⟨_,d,λ_ _ _ _ _ _ a _=>apg (h a) (j a) h0 y⟩
  case shr=>
   obtain⟨q,u,d⟩:=dd.1 k;obtain⟨h0,y⟩:=adR u;exact⟨_,d,λ_ _ _ _ _ _ a _=>abz (h a) (j a) h0 y⟩
  all_goals
   obtain⟨aj,d⟩:=a8 k;obtain rfl:=qh aj
  case add=>exact⟨_,d,λ_ _ _ _ _ _ a _=>Vz (h a) (j a) rfl⟩
  case sub=>exact⟨_,d,λ_ _ _ _ _ _ a _=>Zh (h a) (j a) rfl⟩
  case mul=>exact⟨_,d,λ_ _ _ _ _ _ a _=>acd (h a) (j a) rfl⟩
  case quo=>
   obtain⟨q,u,d⟩:=dd.1 d;obtain⟨h0,y⟩:=agK u;exact⟨_,d,λ_ _ _ _ _ _ a _=>ae6 (h a) (j a) h0 y⟩
  case rem=>
   obtain⟨q,u,d⟩:=dd.1 d;obtain⟨h0,y⟩:=Yg u;exact⟨_,d,λ_ _ _ _ _ _ a _=>ahN (h a) (j a) h0 y⟩
  case and=>exact⟨_,d,λ_ _ _ _ _ _ a _=>akz (h a) (j a) rfl⟩
  case or=>exact⟨_,d,λ_ _ _ _ _ _ a _=>YI (h a) (j a) rfl⟩
  case xor=>exact⟨_,d,λ_ _ _ _ _ _ a _=>abR (h a) (j a) rfl⟩
  case andNot=>exact⟨_,d,λ_ _ _ _ _ _ a _=>aeA (h a) (j a) rfl⟩
  case eql=>exact⟨_,d,λ_ _ _ _ _ _ a _=>aea (h a) (j a)⟩
  case neq=>exact⟨_,d,λ_ _ _ _ _ _ a _=>ajI (h a) (j a)⟩
  case lss=>exact⟨_,d,λ_ _ _ _ _ _ a _=>ahs (h a) (j a)⟩
  case leq=>exact⟨_,d,λ_ _ _ _ _ _ a _=>aj5 (h a) (j a)⟩
  case gtr=>exact⟨_,d,λ_ _ _ _ _ _ a _=>amQ (h a) (j a)⟩
  case geq=>exact⟨_,d,λ_ _ _ _ _ _ a _=>abe (h a) (j a)⟩
 ·rename_i l b D x;have h:∀{c:En B.D},(∀z,z∈(hP n m e i yt).operands->PE (aU B c) z=pv B (pe s z))->PE (aU B c) e= .bool l:=λa=>by rw[a e (by simp[d0]),D];rfl
  have j:∀{c:En B.D},(∀z,z∈(hP n m e i yt).operands->PE (aU B c) z=pv B (pe s z))->PE (aU B c) i= .bool b:=λa=>by rw[a i (by simp[d0]),x];rfl
  cases n <;> simp only at k <;> first |cases k |skip
  case eql=>
   obtain⟨aa,d⟩:=a8 k;exact⟨_,d,λ_ _ _ _ _ _ a _=>abj (h a) (j a) aa⟩
  case neq=>
   obtain⟨aa,d⟩:=a8 k;exact⟨_,d,λ_ _ _ _ _ _ a _=>ai2 (h a) (j a) aa⟩
 ·rename_i al ah D x;have h:∀{c:En B.D},(∀z,z∈(hP n m e i yt).operands->PE (aU B c) z=pv B (pe s z))->PE (aU B c) e=pv B (.agg al):=λa=>by rw[a e (by simp[d0]),D]
  have j:∀{c:En B.D},(∀z,z∈(hP n m e i yt).operands->PE (aU B c) z=pv B (pe s z))->PE (aU B c) i=pv B (.agg ah):=λa=>by rw[a i (by simp[d0]),x]
  cases n <;> simp only at k <;> first |cases k |skip
  case eql=>
   cases E:P.eqGuardType P.depth m with
   |true=>rw[E] at k;cases k
   |false=>
    rw[E] at k;obtain⟨b,V,d⟩:=fq k;refine⟨_,d,λZ U ae S c Y a _=>?_⟩
    intro g F l w p;have o:=h a▸p.e.eval e;have A:=j a▸p.e.eval i;obtain⟨N,K,_⟩:=VR.ky o;obtain⟨ac,L,_⟩:=VR.ky A;have J:=Hq (w:=w) 10000 m _ _ b V _ _ o A;refine⟨.bool b,?_,.aW (.bool b)⟩
    rw[K,L] at J;simp only[execOp,K,L];simp[run_eqGuard_agg w .eql m e i N.toArray ac.toArray E,run_eql_struct,J]
  case neq=>
   cases E:P.eqGuardType P.depth m with
   |true=>rw[E] at k;cases k
   |false=>
    rw[E] at k;obtain⟨b,V,d⟩:=fq k;refine⟨_,d,λZ U ae S c Y a _=>?_⟩
    intro g F l w p;have o:=h a▸p.e.eval e;have A:=j a▸p.e.eval i;obtain⟨N,K,_⟩:=VR.ky o;obtain⟨ac,L,_⟩:=VR.ky A;have J:=Hq (w:=w) 10000 m _ _ b V _ _ o A;refine⟨.bool (!b),?_,.aW (.bool _)⟩
    rw[K,L] at J;simp only[execOp,K,L];simp[run_eqGuard_agg w .neq m e i N.toArray ac.toArray E,run_neq_struct,J]
 ·rename_i C D x;obtain⟨af,o⟩:=a8 k;have I:∃l b am,P.underlying m=c4 (.func l b am):=by
   unfold LM at af
   split at af
   ·exact⟨_,_,_,by assumption⟩
   ·cases af
  obtain⟨an,ap,ao,I⟩:=I;have h:∀{c:En B.D},(∀z,z∈(hP n m e i yt).operands->PE (aU B c) z=pv B (pe s z))->PE (aU B c) e=pv B (.jC C):=λa=>by rw[a e (by simp[d0]),D]
  have j:∀{c:En B.D},(∀z,z∈(hP n m e i yt).operands->PE (aU B c) z=pv B (pe s z))->PE (aU B c) i= .dB:=λa=>by rw[a i (by simp[d0]),x];rfl
  have run:∀{c:En B.D} {ab:List aO} {g:Gh} {w:World} {l:Act} {F:Nat},Rel g F (aU B c) ab l w->PE (aU B c) e=pv B (.jC C)->PE (aU B c) i= .dB->l.eval i= .nilFunc/\((C=c6/\l.eval e= .nilFunc)\/∃f,C=c4 f/\l.eval e= .func (.func f) #[] #[]):=λ{c ab g w l F} p o A=>by
   have M:=A▸p.e.eval i;refine⟨by generalize l.eval i=ad at M;cases M with |aW M=>cases M;rfl,?_⟩
   have G:=o▸p.e.eval e;cases C with
   |none=>exact .inl ⟨rfl,by generalize l.eval e=ad at G;cases G with |aW G=>cases G;rfl⟩
   |some f=>
    refine .inr ⟨f,rfl,?_⟩
    generalize l.eval e=ad at G;have X:VR g ab w (.fn f [] []) ad:=G;cases X with
    |aW X=>
     cases X with
     |fn _ _ _ T vs W _ Q _=>
      obtain rfl:T=[]:=d7 W.symm;obtain rfl:vs=[]:=d7 Q.symm
      rfl
    |fn _ _ _ T vs W _ Q _=>
     obtain rfl:T=[]:=d7 W.symm;obtain rfl:vs=[]:=d7 Q.symm
     rfl
  cases n <;> simp only at o <;> first |cases o |skip
  case eql=>
   refine⟨_,o,λZ U ae S c Y a _=>?_⟩
   intro g F l w p;obtain⟨O,t⟩:=run p (h a) (j a);refine⟨.bool C.isNone,?_,.aW (.bool _)⟩
   rcases t with⟨rfl,t⟩ |⟨f,rfl,t⟩ <;> simp[execOp,O,t,eqGuard,(Et (w:=w) I).1,(Et (w:=w) I).2]
  case neq=>
   refine⟨_,o,λZ U ae S c Y a _=>?_⟩
   intro g F l w p;obtain⟨O,t⟩:=run p (h a) (j a);refine⟨.bool (!C.isNone),?_,.aW (.bool _)⟩
   rcases t with⟨rfl,t⟩ |⟨f,rfl,t⟩ <;> simp[execOp,O,t,eqGuard,(Et (w:=w) I).1,(Et (w:=w) I).2]
 ·cases k
theorem amY{f:UnOp}{t:TypeId}{c:Operand}{g:En B.D}{H:List (Ob B.D)}{h:TV B.D->Option R}(a:HY B f (pe g c) h=c4 r):
 ∃v,h v=c4 r/\fW P (.unOp f t c) g H [] v:=by
 unfold HY at a
 split at a
 ·rename_i j i e;exact⟨_,a,λ_ _ _ _ _ _ d _=>ajc (by rw[d c (by simp[d0]),e];rfl) rfl⟩
 ·rename_i b e;exact⟨_,a,λ_ _ _ _ _ _ d _=>rd_not (by rw[d c (by simp[d0]),e];rfl)⟩
 ·cases a
theorem afz(a:Bool)(c b:TV B.D):pv B (cond a c b)=(bif a then pv B c else pv B b):=by cases a <;> rfl
theorem akp{z x y:Operand}{E:En B.D}{H:List (Ob B.D)}{a:Bool}(h:pe E z= .bool a):fW P (.pick z x y) E H [] (KP a (pe E x) (pe E y)):=by
 intro d ty pos aft f i c _;have:=Zu (P:=P) (E:=aU B f) (H:=av B i) (d:=d) (ty:=ty) (pos:=pos) (aft:=aft) (gd:=c6) (z:=z) (x:=x) (y:=y) (b:=a) (by rw[c z (by simp[d0]),h];rfl);rw[c x (by simp[d0]),c y (by simp[d0])] at this;unfold KP
 split
 ·rename_i j b g e;rw[g,e] at this;cases a <;> exact this
 ·rw[afz];exact this
theorem ahW{a:Operand}{i:Nat}{b:En B.D}{e:List (Ob B.D)}{d:List (TV B.D)}{v:TV B.D}(g:pe b a= .bu d)(c:nth d i=c4 v):fW P (.extract a i) b e [] v:=by
 intro m h j n k l f _;refine aiG (by rw[f a (by simp[d0]),g];rfl) ?_
 rw[cJ] at c;rw[db,d8,c]
 rfl
theorem wS{f:TypeId}{d:List (TV B.D)}{c:Nat}{v:TV B.D}(a:piece P f d c=c4 v):
 (dP P f=c4 false/\d[c]? =c4 v)\/∃b,dP P f=c4 true/\cH P f=c4 b/\v= .agg ((d.drop c).take b)/\((d.drop c).take b).length=b:=by
 unfold piece at a
 split at a
 ·rename_i g
  split at a
  ·rename_i b i;obtain⟨h,e⟩:=a8 a;rw[kK,drop_eq] at e;injection e with e
   have j:c+b<=d.length:=by rw[eu] at h;exact dv h
   exact .inr ⟨b,g,i,e.symm,by simp;omega⟩
  ·cases a
 ·rename_i g;rw[cJ] at a;exact .inl ⟨g,a⟩
 ·cases a
theorem EL{a:List (TV B.D)}{b:Nat}{v:TV B.D}(c:a[b]? =c4 v):(aP B a)[b]? =c4 (pv B v):=by
 rw[db,d8,c];rfl
theorem Ht(a:List (TV B.D))(b c:Nat):((aP B a).drop b).take c=aP B ((a.drop b).take c):=by
 rw[db,db, <-gv, <-gx]
theorem aex{j:TypeId}{a:Operand}{f:Nat}{g d:Nat}{h:En B.D}{m:List (Ob B.D)}{b:List (TV B.D)}{v:TV B.D}(o:pe h a= .agg b)(i:nU P j f=c4 (g,d))(l:piece P g b d=c4 v):
 fW P (.field j a f) h m [] v:=by
 intro y u z t q x k _;have e:PE (aU B q) a= .agg (aP B b):=by rw[k a (by simp[d0]),o];rfl
 rcases wS l with⟨c,s⟩ |⟨p,c,n,rfl,w⟩
 ·exact aam e i c (EL s)
 ·exact T8 e i c n (Ht b d p)
theorem Gw{c:Operand}{g:En B.D}{k:List (Ob B.D)}{v:TV B.D}(j:(∃r e i a,v= .ptr r e i a)\/(∃b a,v= .vp b a)\/∃f b h,v= .fn f b h)(n:pe g c=v):fW P (.nilCheck c) g k [] v:=by
 intro s o p t m q l _;have d:PE (aU B m) c=pv B v:=by rw[l c (by simp[d0]),n]
 rcases j with⟨r,e,i,a,rfl⟩ |⟨b,a,rfl⟩ |⟨f,b,h,rfl⟩
 ·exact adb d
 ·exact ZL d
 ·exact VJ d
theorem R3{n:TypeId}{c:Operand}{f l h s:Nat}{j:En B.D}{q:List (Ob B.D)}{v:TV B.D}(m:nU P n f=c4 (l,h))(k:cH P l=c4 (s+1))
 (p:(∃r d i a,pe j c= .ptr r d i a/\v= .ptr r d i (a+h))\/(∃g a,pe j c= .vp g a/\v= .vp g (a+h))):fW P (.fieldAddr n c f) j q [] v:=by
 intro x u y t z w o _;have b:=o c (by simp[d0]);rcases p with⟨r,d,i,a,e,rfl⟩ |⟨g,a,e,rfl⟩
 ·rw[e] at b;exact apD b m k (by omega)
 ·rw[e] at b;exact Ze b m k (by omega)
theorem alT{a:Nat}{b:List (B.D a)}{i d:Nat}{c:B.D a}{e:PV}(f:b[i]? =c4 c)(g:((B.ty a).enc c).cells[d]? =c4 e):cellOf (b.map (B.ty a).enc) i d=c4 e:=by
 unfold cellOf;rw[d8,f];exact g
theorem NI{i f:Nat}{h:TV B.D->Option R}:∀{g:List (TV B.D)} {d:Nat},Es B i f h d g=c4 r->∃c b,g[c]? =c4 b/\i=f+d+c/\h b=c4 r
 |[],_,a=>by cases a
 |b::g,d,a=>by
  unfold Es at a;cases e:d6 i (f+d) with
  |true=>rw[e] at a;exact⟨0,b,rfl,beq_eq e,a⟩
  |false=>
   rw[e] at a;obtain⟨c,k,l,m,j⟩:=NI a;exact⟨c+1,k,l,by omega,j⟩
theorem aav{b s v a:Nat}{xs:List (B.D b)}{c:List (TV B.D)}{d:TV B.D}(e:c[a]? =c4 d):(aY B ⟨s,v,.hole b xs c⟩).es[xs.length+a]? =c4 (pv B d):=by
 show(xs.map (B.ty b).enc++aP B c)[xs.length+a]? =_
 rw[d2 (by rw[d1];omega),d1,h6,db,d8,e]
 rfl
theorem PD(S:cU P B){t:TypeId}{x:Operand}{E:En B.D}{N:List (Ob B.D)}{Q:cr B.D->Option R}(b:load B P N t (pe E x) Q=c4 r):
 ∃v M,Q ⟨v,[],0,M⟩=c4 r/\fW P (.load t x) E N M v:=by
 unfold load at b
 split at b
 ·rename_i A p K;obtain⟨v,j,m⟩:=fq b;refine⟨v,_,m,λJ H L F n I f _=>?_⟩
  have d:PE (aU B n) x= .dw (aP B A) p:=by rw[f x (by simp[d0]),K];rfl
  rcases wS j with⟨a,c⟩ |⟨u,a,l,rfl,k⟩
  ·exact acR d a (EL c)
  ·exact Z6 d a l (Ht A p u) (by rw[db,d1,k])
 ·rename_i q v i p K;have d:∀{n:En B.D},(∀z,z∈(Op.load t x).operands->PE (aU B n) z=pv B (pe E z))->PE (aU B n) x= .ptr q v i p:=λf=>by rw[f x (by simp[d0]),K];rfl
  split at b
  ·rename_i u xs c;obtain⟨s,w⟩:=fx c;obtain⟨e,f,b⟩:=dd.1 b;obtain⟨y,j,m⟩:=fq b;refine⟨y,_,m,λJ H L F n I h C=>?_⟩
   have g:=df (C q _ (by simp) w);have o:(pv B (B.tv u e)).cells=(dN (B.tv u e)).map (pv B):=nB B _;rw[S.tv] at o;rcases wS j with⟨a,c⟩ |⟨G,a,l,rfl,k⟩
   ·exact AT (d h) g rfl a (alT f (by rw[o,d8,c];rfl))
   ·refine Ig (d h) g rfl a l (e:=(B.ty u).enc e) (by simp[aY,f]) ?_ (by rw[db,d1,k])
    rw[o, <-gv, <-gx,db]
  ·rename_i W A c;obtain⟨s,w⟩:=fx c;obtain⟨D,b⟩:=a8 b;obtain rfl:=beq_eq D;obtain⟨y,j,m⟩:=fq b;refine⟨y,_,m,λJ H L F n I h C=>?_⟩
   have g:=df (C q _ (by simp) w);rcases wS j with⟨a,c⟩ |⟨G,a,l,rfl,k⟩
   ·exact AT (d h) g rfl a (by simp[aY,cellOf,PV.cells,EL c])
   ·exact Ig (d h) g rfl a l (e:=.agg (aP B A)) (by simp[aY]) (by simp only[PV.cells];exact Ht A p G) (by rw[db,d1,k])
  ·rename_i u xs U c;obtain⟨s,w⟩:=fx c;obtain⟨V,e,f,D,T⟩:=NI b;rw[hI] at D;subst D;obtain⟨y,j,m⟩:=fq T;refine⟨y,_,m,λJ H L F n I h C=>?_⟩
   have g:=df (C q _ (by simp) w);have O:=aav (s:=s) (v:=v) (xs:=xs) f;have o:=nB B e;rcases wS j with⟨a,c⟩ |⟨G,a,l,rfl,k⟩
   ·refine AT (d h) g rfl a ?_
    unfold cellOf;rw[O];show(pv B e).cells[p]? =_
    rw[o,d8,c]
    rfl
   ·refine Ig (d h) g rfl a l (e:=pv B e) O ?_ (by rw[db,d1,k])
    rw[o, <-gv, <-gx,db]
  ·cases b
 ·cases b
end
def kV(b:List aO)(p:PV)(c:Nat)(d:List PV):Prop:=lE b p c d\/∃r a,p= .fl r a.aF/\ek b r a/\a.sz=c/\d=a.es
theorem wD{c:Env}{d:Nat}{q:PV}(a:Operand)(e:a≠ .tmp d):PE ((d,q)::c) a=PE c a:=by
 cases a with
 |tmp h=>exact Ar q c λg=>e (by rw[g])
 |const v=>rfl
 |global b=>rfl
 |func f=>rfl
theorem akA(v:Value)(r a:Nat):kP v≠ .fl r a:=by
 cases v <;> simp[kP] <;> (try unfold jq) <;> (try split) <;> simp
theorem ri{e:Env}{d:Operand}{r v:Nat}(a:PE e d= .fl r v):∃c,d= .tmp c/\Bml.look e c= .fl r v:=by
 cases d with
 |tmp c=>exact⟨c,rfl,a⟩
 |const v=>exact absurd a (akA _ _ _)
 |global b=>cases a
 |func f=>cases a
theorem DP{b:List aO}{r:Nat}{a:aO}(c:ek b r a):lE b (.sl r a.aF 0 a.es.length) a.sz a.es:=
 .inr (.inr (.inr ⟨r,a.aF,0,a.es.length,a,rfl,c,rfl,rfl,by simp⟩))
theorem uL{P:Program}{i:Oper}{b:Env}{d:List aO}{x:Operand}{sz:Nat}{ys:List PV}{h:PV->List aO->Prop}(g:kV d (PE b x) sz ys)
 (c:∀f,lE d (PE f x) sz ys->(∀e p,PE b e=p->(∀r v,p≠ .fl r v)->PE f e=p)->fJ P i f d h):fJ P i b d h:=by
 rcases g with g |⟨r,a,o,k,rfl,rfl⟩
 ·exact c b g λ_ _ c _=>c
 ·obtain⟨m,rfl,l⟩:=ri o;refine yP l k rfl (c _ ?_ λe p j q=>?_)
  ·rw[show PE ((m,PV.sl r a.aF 0 a.es.length)::b) (.tmp m)= .sl r a.aF 0 a.es.length from ni _ _ _];exact DP k
  ·rw[wD e λn=>q r a.aF (by rw[<-j,n];exact l)];exact j
theorem amo{P:Program}{i:Oper}{b:Env}{d:List aO}{x:Operand}{l:Nat}{h:List PV}{v:PV}(g:kV d (PE b x) l h)
 (c:∀f,lE d (PE f x) l h->(∀e p,PE b e=p->(∀r v,p≠ .fl r v)->PE f e=p)->cM P i f d v):cM P i b d v:=by
 rcases g with g |⟨r,a,q,k,rfl,rfl⟩
 ·exact c b g λ_ _ c _=>c
 ·obtain⟨n,rfl,m⟩:=ri q;refine RO m k rfl (c _ ?_ λe p j s=>?_)
  ·rw[show PE ((n,PV.sl r a.aF 0 a.es.length)::b) (.tmp n)= .sl r a.aF 0 a.es.length from ni _ _ _];exact DP k
  ·rw[wD e λo=>s r a.aF (by rw[<-j,o];exact m)];exact j
theorem JM{e:Env}{f:List aO}{x:Operand}{k c r:Nat}{j:List PV}{b:aO}(h:kV f (PE e x) k j)(m:Bml.look e c= .fl r b.aF)(g:ek f r b):kV f (PE ((c,.sl r b.aF 0 b.es.length)::e) x) k j:=by
 by_cases i:x= .tmp c
 ·subst i;rw[show PE ((c,PV.sl r b.aF 0 b.es.length)::e) (.tmp c)= .sl r b.aF 0 b.es.length from ni _ _ _];have l:PE e (.tmp c)= .fl r b.aF:=m;rw[l] at h;rcases h with(a |⟨a,_⟩ |⟨a,_⟩ |⟨_,_,_,_,_,a,_⟩) |⟨n,o,a,d,rfl,rfl⟩
  ·cases a
  ·cases a
  ·cases a
  ·cases a
  ·injection a with h1 h2
   subst h1;unfold ek at g d;rw[g] at d;injection d with d
   subst d;exact .inl (DP g)
 ·rw[wD x i];exact h
section
variable {P : Program} {B : Tb} {R : Type} {r : R}
def yd(B:Tb)(e:List (Ob B.D))(g:TV B.D)(a:Nat)(f:List (B.D a))(d:List Nat):Prop:=
 ∀c:List (Ob B.D),(∀i b,i∈d->nth e i=c4 b->nth c i=c4 b)->kV (av B c) (pv B g) (B.sz a) (f.map (B.ty a).enc)
theorem Hd{g:List (Ob B.D)}{j:TV B.D}{i:(b:Nat)->List (B.D b)->List Nat->Option R}(a:rowOf B g j i=c4 r):
 ∃b h f,i b h f=c4 r/\yd B g j b h f:=by
 unfold rowOf at a
 split at a
 ·exact⟨_,_,_,a,λ_ _=>.inl (.inl rfl)⟩
 ·rename_i q v
  split at a
  ·rename_i b k e;obtain⟨m,c⟩:=fx e;refine⟨_,_,_,a,λn d=>.inr ⟨q,_,?_,df (d q _ (by simp) c),rfl,rfl⟩⟩
   rfl
  ·cases a
 ·rename_i q v l len
  split at a
  ·rename_i b k e;obtain⟨m,c⟩:=fx e;refine⟨_,_,_,a,λn d=>.inl (.inr (.inr (.inr ⟨q,v,l,len,_,rfl,df (d q _ (by simp) c),rfl,rfl,?_⟩)))⟩
   simp[aY,gx,gv]
  ·cases a
 ·cases a
theorem AG{b d:Nat}{e:List (B.D b)}{f:List (B.D d)}(a:sU B b d e=c4 f):∃c:b=d,c▸e=f:=by
 unfold sU at a
 split at a
 ·rename_i c;injection a with a
  exact⟨c,a⟩
 ·cases a
theorem Rz{e:List (Ob B.D)}{d:Nat}{g:TV B.D}{f:List (B.D d)->List Nat->Option R}(a:CK B e d g f=c4 r):
 ∃c b,f c b=c4 r/\yd B e g d c b:=by
 unfold CK at a
 split at a
 ·exact⟨_,_,a,λ_ _=>.inl (.inr (.inl ⟨rfl,rfl⟩))⟩
 ·exact⟨_,_,a,λ_ _=>.inl (.inr (.inr (.inl ⟨rfl,rfl⟩)))⟩
 ·obtain⟨l,k,b,a,j⟩:=Hd a;obtain⟨c,i,h⟩:=fq a;obtain⟨rfl,rfl⟩:=AG i;exact⟨_,_,h,j⟩
theorem mh{e:TypeId}{c:Nat}(b:kX B P e c=true):dU P e=c4 c/\cH P c=c4 (B.sz c):=by
 unfold kX at b
 split at b
 ·rename_i f h g i;cases d:d6 f c with
  |true=>
   rw[d] at b;rw[g,i,beq_eq d,beq_eq (a:=h) b];exact⟨rfl,rfl⟩
  |false=>rw[d] at b;cases b
 ·cases b
theorem D9{b:TypeId}{a:Nat}(c:kX B P b a=true):dU P b=c4 a:=(mh c).1
theorem KT{g:Oper}{d:Env}{c:List aO}{i:Operand}{q:Nat}{a:aO}{v:PV}(m:PE d i= .fl q a.aF)(l:ek c q a)
 (j:∀e,PE e i= .sl q a.aF 0 a.es.length->(∀b p,PE d b=p->(∀r v,p≠ .fl r v)->PE e b=p)->cM P g e c v):cM P g d c v:=by
 obtain⟨o,rfl,h⟩:=ri m;refine RO h l rfl (j _ (ni _ _ _) λb p f n=>?_)
 rw[wD b λk=>n q a.aF (by rw[<-f,k];exact h)];exact f
theorem Qj{e:Int}{d:Nat}{j:Nat->Option R}:∀{g:List (TV B.D)} {c:Nat},AK B e d j c g=c4 r->∃b,b<g.length/\e=((d+c+b:Nat):Int)/\j (d+c+b)=c4 r
 |[],_,a=>by cases a
 |l::g,c,a=>by
  unfold AK at a;cases f:c3 (e=((d+c:Nat):Int)) with
  |true=>rw[f] at a;exact⟨0,by simp,of_decide_eq_true f,a⟩
  |false=>
   rw[f] at a;obtain⟨b,k,h,i⟩:=Qj a;rw[show d+(c+1)+b=d+c+(b+1) by omega] at h i;exact⟨b+1,by simpa using k,h,i⟩
theorem amg(y:cU P B){t:TypeId}{x ix:Operand}{E:En B.D}{H:List (Ob B.D)}{J:cr B.D->Option R}(a:indexAddr B P H t (pe E x) (pe E ix) J=c4 r):
 ∃v F,J ⟨v,[],0,F⟩=c4 r/\fW P (.indexAddr t x ix) E H F v:=by
 unfold indexAddr at a
 split at a
 ·rename_i S N L;have p:∀{l:En B.D},(∀z,z∈(Op.indexAddr t x ix).operands->PE (aU B l) z=pv B (pe E z))->PE (aU B l) ix= .int S N:=λc=>by rw[c ix (by simp[d0]),L];rfl
  split at a
  ·rename_i g w k;obtain⟨j,a⟩:=a8 a;obtain⟨e,c,f⟩:=dd.1 a;obtain⟨h,c⟩:=xd c;refine⟨_,_,f,λd ty pos aft l m b _=>?_⟩
   have:=Zx (P:=P) (E:=aU B l) (H:=av B m) (d:=d) (ty:=ty) (pos:=pos) (aft:=aft) (gd:=c6) (t:=t) (x:=x) (ix:=ix) (e:=(B.ty g).enc e) (by rw[b x (by simp[d0]),k];rfl) (p b) h (by rw[d8,c];rfl) (D9 j) (y.ic g e);rw[<-y.tv g e,nB, <-db] at this;exact this
  ·rename_i q v k
   split at a
   ·rename_i g w u;obtain⟨G,o⟩:=fx u;obtain⟨j,a⟩:=a8 a;obtain⟨e,c,f⟩:=dd.1 a;obtain⟨h,c⟩:=xd c;refine⟨_,_,f,λd ty pos aft l m b s=>?_⟩
    have n:=df (s q _ (by simp) o);refine KT (by rw[b x (by simp[d0]),k];rfl) n λC A D=>?_
    have:=Hm (P:=P) (E:=C) (H:=av B m) (d:=d) (ty:=ty) (pos:=pos) (aft:=aft) (gd:=c6) (t:=t) (x:=x) (ix:=ix) A (D ix _ (p b) (by simp)) h (by simpa[aY] using(c7.1 c).1) n rfl (D9 j) (y.ic g e);rw[ev] at this;exact this
   ·rename_i g w U u;obtain⟨G,o⟩:=fx u;obtain⟨j,a⟩:=a8 a;obtain⟨I,V,h,f⟩:=Qj a;rw[hI] at h f;refine⟨_,_,f,λd ty pos aft l m b s=>?_⟩
    have n:=df (s q _ (by simp) o);refine KT (by rw[b x (by simp[d0]),k];rfl) n λC A D=>?_
    have:=Hm (P:=P) (E:=C) (H:=av B m) (d:=d) (ty:=ty) (pos:=pos) (aft:=aft) (gd:=c6) (t:=t) (x:=x) (ix:=ix) A (D ix _ (p b) (by simp)) (i:=w.length+I) (by simpa using h) (by simp[aY,db];omega) n rfl (D9 j) (mh j).2;rw[ev] at this;exact this
   ·cases a
  ·rename_i q v Y len k
   split at a
   ·rename_i g w u;obtain⟨G,o⟩:=fx u;obtain⟨j,a⟩:=a8 a;obtain⟨e,c,f⟩:=dd.1 a;obtain⟨h,c⟩:=xd c;refine⟨_,_,f,λd ty pos aft l m b s=>?_⟩
    have n:=df (s q _ (by simp) o);have O:=(c7.1 c).1;simp only[ef] at O;exact Hm (by rw[b x (by simp[d0]),k];rfl) (p b) h (by omega) n rfl (D9 j) (y.ic g e)
   ·cases a
  ·rename_i q v i I k
   split at a
   ·rename_i W
    split at a
    ·rename_i g X Q
     split at a
     ·rename_i T M;obtain⟨K,f⟩:=a8 a;refine⟨_,_,f,λd ty pos aft l m b _=>?_⟩
      exact aqx (by rw[b x (by simp[d0]),k];rfl) (p b) rfl (dv K) Q M
     ·cases a
    ·cases a
   ·cases a
  ·cases a
 ·cases a
theorem Li{g:IntKind}:∀{e:List (TV B.D)} {d:List Int},ints g e=c4 d->aP B e=d.map (PV.int g)
 |[],d,a=>by simp[ints] at a;subst a;rfl
 | .int b i::e,d,a=>by
  simp only[ints] at a;obtain⟨h,c⟩:=a8 a;clear a;obtain rfl:=qh h;cases f:ints g e with
  |none=>rw[f] at c;cases c
  |some r=>
   rw[f] at c;injection c with c
   subst c;simp[aP,pv,Li f]
 | .any::_,_,a=>by simp[ints] at a
 | .z0::_,_,a=>by simp[ints] at a
 | .fS::_,_,a=>by simp[ints] at a
 | .bg::_,_,a=>by simp[ints] at a
 | .dB::_,_,a=>by simp[ints] at a
 | .bool _::_,_,a=>by simp[ints] at a
 | .str _::_,_,a=>by simp[ints] at a
 | .row .. ::_,_,a=>by simp[ints] at a
 | .ptr .. ::_,_,a=>by simp[ints] at a
 | .fl .. ::_,_,a=>by simp[ints] at a
 | .sl .. ::_,_,a=>by simp[ints] at a
 | .vp .. ::_,_,a=>by simp[ints] at a
 | .agg _::_,_,a=>by simp[ints] at a
 | .bu _::_,_,a=>by simp[ints] at a
 | .fn .. ::_,_,a=>by simp[ints] at a
 | .jC _::_,_,a=>by simp[ints] at a
theorem Qx:∀{c:List (TV B.D)} {d:List Bool},gS c=c4 d->aP B c=d.map PV.bool
 |[],d,a=>by simp[gS] at a;subst a;rfl
 | .bool b::c,d,a=>by
  simp only[gS] at a;cases e:gS c with
  |none=>rw[e] at a;cases a
  |some r=>
   rw[e] at a;injection a with a
   subst a;simp[aP,pv,Qx e]
 | .any::_,_,a=>by simp[gS] at a
 | .z0::_,_,a=>by simp[gS] at a
 | .fS::_,_,a=>by simp[gS] at a
 | .bg::_,_,a=>by simp[gS] at a
 | .dB::_,_,a=>by simp[gS] at a
 | .int .. ::_,_,a=>by simp[gS] at a
 | .str _::_,_,a=>by simp[gS] at a
 | .row .. ::_,_,a=>by simp[gS] at a
 | .ptr .. ::_,_,a=>by simp[gS] at a
 | .fl .. ::_,_,a=>by simp[gS] at a
 | .sl .. ::_,_,a=>by simp[gS] at a
 | .vp .. ::_,_,a=>by simp[gS] at a
 | .agg _::_,_,a=>by simp[gS] at a
 | .bu _::_,_,a=>by simp[gS] at a
 | .fn .. ::_,_,a=>by simp[gS] at a
 | .jC _::_,_,a=>by simp[gS] at a
theorem aeo{f:TypeId}{e:Nat}(b:Gx P f e=true):∃c,pk P f=c4 (e,c)/\cH P c=c4 1/\dP P c=c4 false:=by
 unfold Gx at b
 split at b
 ·rename_i j c g
  split at b
  ·rename_i h k i;cases d:d6 j e with
   |true=>
    rw[d] at b;obtain rfl:=beq_eq d;obtain rfl:=beq_eq (a:=h) b;exact⟨c,g,k,i⟩
   |false=>rw[d] at b;cases b
  ·cases b
 ·cases b
theorem ame{k:TypeId}{e g:Operand}{h:En B.D}{o:List (Ob B.D)}{u:cr B.D->Option R}(a:index B P k (pe h e) (pe h g) u=c4 r):
 ∃v m,u ⟨v,[],0,m⟩=c4 r/\fW P (.index k e g) h o m v:=by
 unfold index at a
 split at a
 ·rename_i L y q x F;obtain⟨E,a⟩:=a8 a;obtain⟨K,w,z,D⟩:=aeo E;have p:∀{l:Type} (b:List l) (f:l->PV) (v:l) (i:TV B.D),aP B q=b.map f->pv B i=f v->aj b y=c4 v->fW P (.index k e g) h o [] i:=λb f v i t C c J H M G N I s _=>by
   obtain⟨A,n⟩:=xd c;have d:len q=b.length:=by
    have:=congrArg List.length t;rw[db,d1,d1] at this;rw[eu,this]
   rw[C];refine ac0 (by rw[s e (by simp[d0]),F];rfl) (by rw[s g (by simp[d0]),x];rfl) A ?_ w z D ?_
   ·rw[d];exact(c7.1 n).1
   ·rw[t,d8,n];rfl
  split at a
  ·obtain⟨b,d,a⟩:=fq a;obtain⟨v,c,j⟩:=dd.1 a;exact⟨_,_,j,p b _ v _ (Li d) rfl c⟩
  ·obtain⟨b,d,a⟩:=fq a;obtain⟨v,c,j⟩:=dd.1 a;exact⟨_,_,j,p b _ v _ (Qx d) rfl c⟩
  ·cases a
 ·cases a
theorem wk{g:En B.D}{h:Env}{dflt:Nat}{e:Option Operand}{d:Int}(a:rE B g (dflt:Int) e=c4 d)(h0:0<=d)(j:∀c,e=c4 c->∀i b,pe g c= .int i b->PE h c= .int i b):mU h dflt e d.toNat:=by
 unfold rE at a
 split at a
 ·injection a with a
  show d.toNat=dflt
  omega
 ·rename_i c
  split at a
  ·rename_i f b k;injection a with a
   subst a;exact⟨f,b,j c rfl f b k,by omega⟩
  ·cases a
theorem NN{e:En B.D}{f:Env}{c:Option Operand}(a:Bx B e c=true)(i:∀b,c=c4 b->∀h g,pe e b= .int h g->PE f b= .int h g):mU f 0 c 0:=by
 unfold Bx at a
 split at a
 ·rfl
 ·rename_i b;unfold pP at a
  split at a
  ·rename_i d j;exact⟨d,0,i b rfl d 0 j,rfl⟩
  ·cases a
theorem NF{b:TV B.D}(a:pP b=true):∃c,b= .int c 0:=by
 unfold pP at a
 split at a
 ·exact⟨_,rfl⟩
 ·cases a
theorem aqA{t:TypeId}{x:Operand}{lo hi:Option Operand}{E:En B.D}{H:List (Ob B.D)}{e:cr B.D->Option R}(h:slice B P E H t (pe E x) lo hi e=c4 r):
 ∃v A,e ⟨v,[],0,A⟩=c4 r/\fW P (.slice t x lo hi c6) E H A v:=by
 have ops:∀{n:En B.D},(∀z,z∈(Op.slice t x lo hi c6).operands->PE (aU B n) z=pv B (pe E z))->∀{j:Option Operand},j=lo\/j=hi->∀a,j=c4 a->∀e c,pe E a= .int e c->PE (aU B n) a= .int e c:=λI j k a g e c o=>by
  rw[I a ?_,o];rfl;rcases k with rfl |rfl
  ·subst g;simp[d0]
  ·subst g;simp[d0]
 unfold slice at h
 split at h
 ·rename_i c G m;obtain⟨i,h⟩:=a8 h;obtain⟨s,w,h⟩:=fq h;obtain⟨b,p,h⟩:=fq h;obtain⟨M,g,y⟩:=dd.1 h;obtain⟨h0,K,Q,rfl⟩:=Kt g;refine⟨_,_,y,λd ty pos aft n u f _=>?_⟩
  refine aaK (l:=s.toNat) (h:=b.toNat) (by rw[f x (by simp[d0]),m];rfl) (mh i).1 (mh i).2 (wk (dflt:=0) w h0 (ops f (.inl rfl))) (wk (by rw[d1];exact p) (by omega) (ops f (.inr rfl))) (by omega) (by rw[d1];omega) ?_
  simp[gx,gv]
 ·rename_i q v m
  split at h
  ·rename_i c G S;obtain⟨T,k⟩:=fx S;obtain⟨i,h⟩:=a8 h;obtain⟨s,w,h⟩:=fq h;obtain⟨b,p,h⟩:=fq h;obtain⟨M,g,y⟩:=dd.1 h;obtain⟨h0,K,Q,_⟩:=Kt g;refine⟨_,_,y,λd ty pos aft n u f O=>?_⟩
   have D:=df (O q _ (by simp) k);refine KT (by rw[f x (by simp[d0]),m];rfl) D λC J N=>?_
   have F:∀{j:Option Operand},j=lo\/j=hi->∀a,j=c4 a->∀e c,pe E a= .int e c->PE C a= .int e c:=λk a g e c o=>N a _ (ops f k a g e c o) (by simp)
   have:=SC (P:=P) (E:=C) (H:=av B u) (d:=d) (ty:=ty) (pos:=pos) (aft:=aft) (gd:=c6) (t:=t) (x:=x) (lo:=lo) (hi:=hi) (l:=s.toNat) (h:=b.toNat) J D rfl (mh i).1 (mh i).2 (wk (dflt:=0) w h0 (F (.inl rfl))) (wk (by simpa[aY] using p) (by omega) (F (.inr rfl))) (by omega) (by simp[aY];omega);rw[ev] at this;exact this
  ·cases h
 ·rename_i m;obtain⟨h0,h⟩:=a8 h;obtain⟨L,h⟩:=a8 h
  split at h
  ·rename_i c o;obtain⟨i,h⟩:=a8 h;exact⟨_,_,h,λd ty pos aft n u f _=>acJ (by rw[f x (by simp[d0]),m];rfl) (mh i).1 (mh i).2 (NN h0 (ops f (.inl rfl))) (NN L (ops f (.inr rfl)))⟩
  ·cases h
 ·cases h
theorem VT(p:cU P B){m:TypeId}{x c d:Operand}{e:En B.D}{j:List (Ob B.D)}{n:cr B.D->Option R}
 (a:(bif pP (pe e c) then bif pP (pe e d) then rowOf B j (pe e x) λh _ b=>bif kX B P m h then n ⟨.z0,[],0,b⟩ else c6 else c6 else c6)=c4 r):
 ∃v b,n ⟨v,[],0,b⟩=c4 r/\fW P (.slice m x c6 (c4 c) (c4 d)) e j b v:=by
 obtain⟨f,a⟩:=a8 a;obtain⟨g,a⟩:=a8 a;obtain⟨o,f⟩:=NF f;obtain⟨s,g⟩:=NF g;obtain⟨h,E,b,a,q⟩:=Hd a;obtain⟨k,w⟩:=a8 a;refine⟨_,_,w,λC A F z G u i y=>?_⟩
 refine amo (x:=x) (by rw[i x (by simp[d0])];exact q u y) λD t l=>?_
 exact Zm t (p.pos h) (mh k).1 (mh k).2 (l c (.int o 0) (by rw[i c (by simp[d0]),f];rfl) (by simp)) (l d (.int s 0) (by rw[i d (by simp[d0]),g];rfl) (by simp))
theorem kV.len{H:List aO}{p:PV}{sz:Nat}{j:List PV}{g:Gh}{e:World}{v:Value}(c:kV H p sz j)(d:bF g H e)(h:VR g H e p v)(l:0<sz):∃a cap,v= .slice a j.length cap:=by
 rcases c with c |⟨q,m,rfl,k,rfl,rfl⟩
 ·obtain⟨_,a,cap,h,_⟩:=c.real d h l;exact⟨a,cap,h⟩
 ·obtain⟨_,a,cap,h,_⟩:=(DP k).real d (h.ub k rfl) l;exact⟨a,cap,h⟩
theorem apb{c:List (Ob B.D)}{q v j a:Nat}{b:List (B.D a)}{e:List (TV B.D)}(g:nth c q=c4 ⟨j,v,.hole a b e⟩){f:List (Ob B.D)}(h:∀i d,i∈[q]->nth c i=c4 d->nth f i=c4 d):kV (av B f) (.fl q v) (B.sz a) (b.map (B.ty a).enc++aP B e):=
 .inr ⟨q,_,rfl,df (h q _ (by simp) g),rfl,rfl⟩
theorem Vw(o:cU P B){x:Operand}{t n:TypeId}{E:En B.D}{H:List (Ob B.D)}{l:cr B.D->Option R}(u:dU P t=c4 n)
 (b:(match pe E x with
  | .bg=>l ⟨.int .i64 0,[],0,[]⟩
  | .z0=>l ⟨.int .i64 0,[],0,[]⟩
  |x=>GF B H x l)=c4 r):
 ∃v e,l ⟨v,[],0,e⟩=c4 r/\fW P (.call {callee:=.builtin .len,args:=#[x],argTypes:=#[t]}) E H e v:=by
 have z:x∈(Op.call {callee:=.builtin .len,args:=#[x],argTypes:=#[t]}).operands:=by simp[d0,ft]
 split at b
 ·rename_i h;exact⟨_,_,b,λd ty pos aft A a k _=>ap9 (by rw[k x z,h];rfl) rfl u⟩
 ·rename_i h;exact⟨_,_,b,λd ty pos aft A a k _=>acm (by rw[k x z,h];rfl) rfl u⟩
 ·unfold GF at b;have w:∀(y:Nat) (e:List Nat) (q:Nat) (j:List PV),0<q->j.length=y->(∀a:List (Ob B.D),(∀i G,i∈e->nth H i=c4 G->nth a i=c4 G)->kV (av B a) (pv B (pe E x)) q j)->fW P (.call {callee:=.builtin .len,args:=#[x],argTypes:=#[t]}) E H e (.int .i64 (y:Int)):=λy e q j M I s d ty pos aft A a k f=>by
   subst I;exact Gi (P:=P) (E:=aU B A) (H:=av B a) (d:=d) (ty:=ty) (pos:=pos) (aft:=aft) (gd:=c6) (x:=x) (t:=t) (ci:=#[t]) (n:=j.length) ⟨n,u⟩ rfl λg N O Q F=>by
    have D:=F.e.eval x;rw[k x z] at D;exact(s a f).len F.m D M
  split at b
  ·rename_i h
   split at b
   ·rename_i c m C;obtain⟨K,p⟩:=fx C;refine⟨_,_,b,w _ _ (B.sz c) (List.map (B.ty c).enc m) (o.pos c) (by rw[d1]) λa f=>?_⟩
    rw[h];exact .inr ⟨_,_,rfl,df (f _ _ (by simp) p),rfl,rfl⟩
   ·rename_i c m J C;obtain⟨K,p⟩:=fx C;refine⟨_,_,b,w _ _ (B.sz c) (m.map (B.ty c).enc++aP B J) (o.pos c) (by rw[ec,d1,db,d1,eu]) λa f=>?_⟩
    rw[h];exact apb p f
   ·cases b
  ·obtain⟨c,j,e,L,s⟩:=Hd b;exact⟨_,_,L,w _ _ _ _ (o.pos c) (by rw[d1]) λa f=>s a f⟩
theorem adE{a:Call}{e c:Operand}{f:En B.D}{k:List (Ob B.D)}{d b:IntKind}{g h:Int}(o:a.callee= .builtin .min)(m:a.args=#[e,c])(n:pe f e= .int d g)(j:pe f c= .int b h)(l:fV d b=true):
 fW P (.call a) f k [] (.int d (min g h)):=by
 obtain rfl:=qh l;obtain⟨callee,args,u⟩:=a;subst o;subst m;exact λt q v p w s i _=>akg (by rw[i e (by simp[d0,ft]),n];rfl) (by rw[i c (by simp[d0,ft]),j];rfl)
theorem alY{a:Call}{e c:Operand}{f:En B.D}{k:List (Ob B.D)}{d b:IntKind}{g h:Int}(o:a.callee= .builtin .max)(m:a.args=#[e,c])(n:pe f e= .int d g)(j:pe f c= .int b h)(l:fV d b=true):
 fW P (.call a) f k [] (.int d (max g h)):=by
 obtain rfl:=qh l;obtain⟨callee,args,u⟩:=a;subst o;subst m;exact λt q v p w s i _=>ae4 (by rw[i e (by simp[d0,ft]),n];rfl) (by rw[i c (by simp[d0,ft]),j];rfl)
theorem DE{E d:En B.D}:∀{b:List Operand},(∀a,a∈b->PE (aU B d) a=pv B (pe E a))->aP B (fB E b)=b.map (PE (aU B d))
 |[],_=>rfl
 |a::b,c=>by rw[fB,aP,DE λf e=>c f (hB _ e),i3,c a (by simp)]
theorem W8{f:FuncId}{bs cs:Array Operand}{E:En B.D}{H:List (Ob B.D)}:fW P (.makeFunc (.func f) bs cs) E H [] (.fn f (fB E bs.toList) (fB E cs.toList)):=by
 intro d ty pos aft e g c _;have:=apw (P:=P) (E:=aU B e) (H:=av B g) (d:=d) (ty:=ty) (pos:=pos) (aft:=aft) (gd:=c6) (f:=f) (bs:=bs.toList) (cs:=cs.toList);rw[<-DE (E:=E) λb a=>c b (by simp[d0,fe.1 a]), <-DE (E:=E) λb a=>c b (by simp[d0,fe.1 a])] at this;exact this
theorem aip{f e:TypeId}{c:Operand}{g:En B.D}{i:List (Ob B.D)}{a b:IntKind}{d:Int}(j:pe g c= .int b d)(h:yi P e=c4 a)(l:(P.underlying f).isSome=true):fW P (.convert f e c) g i [] (.int a (a.wrap d)):=
 λ_ _ _ _ _ _ k _=>aoQ (by rw[k c (by simp[d0]),j];rfl) l h rfl
end
section
variable {P : Program} {B : Tb} {R : Type} {r : R}
def iZ{e:Nat->Type}(b:List (Ob e))(a:cr e):Prop:=
 ∀i c,(i,c)∈a.wr->i<b.length+a.nw/\∀d,nth b i=c4 d->d.st<c.st
theorem S6{a:Nat->Type}{d:List (Ob a)}{v:TV a}{e:Nat}{c:List Nat}:iZ d ⟨v,[],e,c⟩:=λi f b=>by cases b
theorem pz{c:Nat->Type}{a:List (Ob c)}{v:TV c}{q e:Nat}{b:Bd c}{g:List Nat}{k:Ob c}(f:nth a q=c4 k):iZ a ⟨v,[(q,⟨dJ a q,e,b⟩)],0,g⟩:=λi j d=>by
 have d:(i,j)=(q,(⟨dJ a q,e,b⟩:Ob c)):=h5.1 d;injection d with h1 h2
 subst h1;subst h2;refine⟨?_,λh l=>?_⟩
 ·rw[cJ] at f;exact(c7.1 f).1
 ·show h.st<dJ a i
  unfold dJ;rw[l];exact Nat.lt_succ_self _
theorem xO{c:Nat->Type}{b:List (Ob c)}{v:TV c}{d:Ob c}{f:List Nat}:iZ b ⟨v,[(len b,d)],1,f⟩:=λi g a=>by
 have a:(i,g)=(len b,d):=h5.1 a;injection a with h1 h2
 subst h1;subst h2;rw[eu];refine⟨Nat.lt_succ_self _,λh e=>?_⟩
 rw[cJ,f8 (dt _)] at e;cases e
theorem alQ{a:TV B.D}(b:yH a=true):(pv B a).one=true:=by
 cases a <;> first
  |rfl
  |(rename_i c;cases c <;> rfl;done)
  |(simp[yH] at b;done)
theorem oK:∀{cs:List (TV B.D)},jj cs=true->(aP B cs).all PV.one=true
 |[],_=>rfl
 |c::cs,a=>by
  simp only[jj] at a;cases b:yH c with
  |false=>rw[b] at a;cases a
  |true=>
   rw[b] at a;simp[aP,alQ b,oK (cs:=cs) a]
theorem zk{a:TV B.D}(c:tF a=true)(vs:List PV):pv B a≠ .bu vs:=by
 cases a <;> first
  |(intro b;cases b;done)
  |(rename_i d;cases d <;> (intro b;cases b);done)
  |(simp[tF] at c;done)
theorem PC{a:TV B.D}(b:jj (dN a)=true):tF a=true:=by
 cases a <;> first
  |rfl
  |(simp[dN,jj,yH] at b;done)
theorem l5(a:TV B.D):(pv B a).cells=aP B (dN a):=by rw[nB,db]
theorem aoA{a i:Nat}(c:i<a):(dx a:List (Ob B.D))[i]? =c4 xt:=by
 induction a generalizing i with
 |zero=>omega
 |succ a b=>
  cases i with
  |zero=>rfl
  |succ i=>simpa[dx] using b (by omega)
theorem PK{b:List (Ob B.D)}{a i:Nat}(c:i<a):nth (aX b (dx a)) (len b+i)=c4 xt:=by
 rw[cJ,bK,eu,d2 (by omega)];simpa using aoA c
theorem mc(b:List (Ob B.D))(q:Nat)(a:Ob B.D):av B (b8 b [(q,a)])=(av B b).set q (aY B a):=Zc
theorem Ag.ov{d:Op}{rd:List Nat}{E j:En B.D}{H a:List (Ob B.D)}{e:Ob B.D}(c:Ag d (aX rd (eV [(len H,e)])) E j (aX H (dx 1)) a):(av B a)[len H]? =c4 ⟨0,1,[],0⟩:=by
 have h:=c.h (len H) (by simp[bK,eV]);rw[show len H=len H+0 from rfl,PK (by omega)] at h;exact df h
theorem Ag.pe{a:Op}{h:List Nat}{E c:En B.D}{d k:List (Ob B.D)}(e:Ag a h E c d k){x:Operand}(j:x∈a.operands):PE (aU B c) x=pv B (pe E x):=by rw[Bw,e.e x j]
theorem Ag.lN{h:Op}{rd wr:List Nat}{E k:En B.D}{H c:List (Ob B.D)}{n i:Nat}{a:Ob B.D}(d:Ag h (aX rd wr) E k (aX H (dx n)) c)(e:i∈rd\/i∈wr)(j:nth H i=c4 a):nth c i=c4 a:=by
 rw[d.h i (by rw[bK,List.mem_append];exact e)];exact Dy j
theorem c9{b:Type}{a:List b}{i:Nat}{d:b}(c:a[i]? =c4 d):i<a.length:=(c7.1 c).1
theorem W5{b:TypeId}{x:Operand}{E:En B.D}{H:List (Ob B.D)}(e:jj (dN (pe E x))=true)(f:hQ 0 (len (dN (pe E x)))=true):
 gY P (.box b x) E H ⟨.ptr (len H) 1 0 0,[(len H,⟨1,1,.box b (dN (pe E x))⟩)],1,[]⟩:=by
 intro d ty pos aft g k a;have i:0<(pv B (pe E x)).cells.length:=by rw[nB,d1, <-eu];exact dv f
 have h:=a.pe (x:=x) (by simp[d0]);have j:=alO (P:=P) (E:=aU B g) (H:=av B k) (d:=d) (ty:=ty) (pos:=pos) (aft:=aft) (elem:=b) h rfl i (by rw[l5];exact oK e) (zk (PC e));have c:=tu (sX a.ov j) (c9 a.ov) (P6 _) (.refl _);rw[l5] at c;refine lI c ?_
 rintro v l ⟨rfl,rfl⟩;refine⟨rfl,?_⟩
 rw[mc];simp[aY,db]
theorem ac4{a:TypeId}{z:Value}{E:En B.D}{H:List (Ob B.D)}(f:dV P a=c4 z)(k:jj (dN (cv (D:=B.D) z))=true)(e:hQ 0 (len (dN (cv (D:=B.D) z)))=true):
 gY P (.alloc a) E H ⟨.ptr (len H) 1 0 0,[(len H,⟨1,1,.box a (dN (cv z))⟩)],1,[]⟩:=by
 intro d ty pos aft g j c;have h:0<(pv B (cv z)).cells.length:=by rw[nB,d1, <-eu];exact dv e
 have i:=Ug (P:=P) (E:=aU B g) (H:=av B j) (d:=d) (ty:=ty) (pos:=pos) (aft:=aft) (elem:=a) f (DK B z).symm rfl h (by rw[l5];exact oK k);have b:=tu (sX c.ov i) (c9 c.ov) (P6 _) (.refl _);rw[l5] at b;refine lI b ?_
 rintro v l ⟨rfl,rfl⟩;refine⟨rfl,?_⟩
 rw[mc];simp[aY,db]
theorem Jh(a b:List (TV B.D))(c:Nat):aP B (oJ a c b)=(aP B a).take c++aP B b++(aP B a).drop (c+b.length):=by
 unfold oJ;rw[bK,bK,kK,drop_eq,eu];simp[db,gx,gv]
theorem ap2{a b:List (TV B.D)}{c:Nat}(d:c+b.length<=a.length):(oJ a c b).length=a.length:=by
 unfold oJ;rw[bK,bK,kK,drop_eq,eu];simp;omega
theorem acV{a o i:Nat}{g:List (B.D a)}{h:B.D a}{f:PV}(l:cU P B)(s:i<g.length)(u:∀(e:Nat) (n b:PV),f.cells[e]? =c4 n->((B.ty a).enc h).cells[e]? =c4 b->Cc n b)(v:f.cells.length=B.sz a):
 jB ⟨a,B.sz a,(g.map (B.ty a).enc).set i f,o⟩ ⟨a,B.sz a,(g.set i h).map (B.ty a).enc,o⟩:=by
 refine⟨rfl,rfl,rfl,by simp,λk j d=>?_,λk e p c=>?_⟩
 ·rw[d8] at d;cases q:(g.set i h)[k]? with
  |none=>rw[q] at d;cases d
  |some t=>
   rw[q] at d;injection d with d
   subst d;exact l.wid a t
 ·unfold cellOf at c⊢;rw[List.map_set] at c
  by_cases j:i=k
  ·subst j;rw[dk (by simpa using s)] at c⊢;simp only[g4] at c⊢;have m:e<f.cells.length:=by
    have:=c9 c;rw[l.wid] at this;omega
   exact⟨f.cells[e],c5 m,u e _ p (c5 m) c⟩
  ·rw[e5 j] at c⊢;exact⟨p,c,.refl _⟩
theorem amr(h:cU P B){w:TypeId}{x c:Operand}{E:En B.D}{H:List (Ob B.D)}{T:cr B.D->Option R}(a:store B P H w (pe E x) (pe E c) T=c4 r):
 ∃F,T F=c4 r/\iZ H F/\gY P (.store w x c) E H F:=by
 unfold store at a
 split at a
 ·rename_i ae ab;obtain⟨ac,a⟩:=a8 a;obtain⟨O,a⟩:=a8 a;have Z:(pv B (pe E c)).cells.length=ae:=by rw[nB,d1, <-eu];exact beq_eq ac
  have I:(pv B (pe E c)).cells.all PV.one=true:=by rw[l5];exact oK O
  have L:=zk (B:=B) (PC O);have M:cH P w=c4 (pv B (pe E c)).cells.length:=by rw[Z];exact ab
  split at a
  ·rename_i q v i g Q
   split at a
   ·rename_i f U G;obtain⟨aa,m⟩:=fx G;obtain⟨e,J,a⟩:=dd.1 a;have af:=c9 J;have fin:∀(j:B.D f) (e':PV),e'.cells=((B.ty f).enc e).cells.take g++(pv B (pe E c)).cells++((B.ty f).enc e).cells.drop (g+(pv B (pe E c)).cells.length)->g+(pv B (pe E c)).cells.length<=B.sz f->
     (∀(g:Nat) (n b:PV),e'.cells[g]? =c4 n->((B.ty f).enc j).cells[g]? =c4 b->Cc n b)->gY P (.store w x c) E H ⟨.any,[(q,⟨dJ H q,v,.rows f (U.set i j)⟩)],0,[q]⟩:=λj e' K k u d ty pos aft S N l=>by
     have t:=df (l.lN (.inl (by simp)) m);have Y:=QH (P:=P) (E:=aU B S) (H:=av B N) (d:=d) (ty:=ty) (pos:=pos) (aft:=aft) (e:=(B.ty f).enc e) (e':=e') (by rw[l.pe (x:=x) (by simp[d0]),Q];rfl) t rfl (l.pe (x:=c) (by simp[d0])) M I L (by simp[aY,J]) (by rw[h.wid];exact k) K;have V:e'.cells.length=B.sz f:=by
      rw[K,ec,ec,ef,ge,h.wid];omega
     refine lI (tu Y (c9 t) (acV h af u V) (.refl _)) ?_
     rintro v ad ⟨rfl,rfl⟩;exact⟨rfl,by rw[mc];rfl⟩
    have C:((B.ty f).enc e).cells=aP B (dN (B.tv f e)):=by rw[<-h.tv,l5]
    split at a
    ·rename_i o X;obtain⟨k,a⟩:=a8 a;obtain⟨j,A,s⟩:=fq a;have p:=dv k;rw[eu,eu] at p;rw[X] at C;refine⟨_,s,pz m,fin j (.agg (aP B (oJ o g (dN (pe E c))))) ?_ ?_ λg n b D z=>((h.up f _ j A).2.cells).2 g n b D z⟩
     ·rw[C,l5];show aP B _=_
      rw[Jh];simp[dN,db]
     ·have:=h.wid f e;rw[C,db,d1] at this;rw[nB,d1];simp only[dN] at this;omega
    ·obtain⟨k,y⟩:=a8 a;clear a;obtain rfl:=beq_eq k;obtain⟨j,A,s⟩:=fq y;have u:=(h.up f _ j A).2.cells;have ag:(pv B (pe E c)).cells.length=B.sz f:=by rw[u.1,h.wid]
     refine⟨_,s,pz m,fin j (.agg (pv B (pe E c)).cells) ?_ (by omega) λg n b D z=>u.2 g n b D z⟩
     rw[List.drop_eq_nil_of_le (by rw[h.wid];omega)];simp[PV.cells]
   ·rename_i ah o G;obtain⟨aa,m⟩:=fx G;obtain⟨W,y⟩:=a8 a;clear a;obtain rfl:=beq_eq W;obtain⟨k,s⟩:=a8 y;have p:=dv k;rw[eu,eu] at p;refine⟨_,s,pz m,λd ty pos aft S N l=>?_⟩
    have t:=df (l.lN (.inl (by simp)) m);refine lI (QH (P:=P) (e:=.agg (aP B o)) (e':=.agg (aP B (oJ o g (dN (pe E c))))) (by rw[l.pe (x:=x) (by simp[d0]),Q];rfl) t rfl (l.pe (x:=c) (by simp[d0])) M I L (by simp[aY]) ?_ ?_) ?_
    ·rw[show(pv B (pe E c)).cells.length=(dN (pe E c)).length by rw[nB,d1]];simp only[PV.cells,db,d1];exact p
    ·rw[l5];show aP B _=(aP B o).take g++aP B (dN (pe E c))++(aP B o).drop (g+(aP B (dN (pe E c))).length)
     rw[Jh];simp[db]
    ·rintro v ad ⟨rfl,rfl⟩;refine⟨rfl,?_⟩
     rw[mc];simp[aY,ap2 p]
   ·cases a
  ·cases a
 ·cases a
structure vF (P:Program) (B:Tb) (op:Op) (E:En B.D) (H:List (Ob B.D)) (n:Nat) (xs:List (B.D n)) (rd:List Nat):Prop where
 fz:∀d ty pos aft E' H',Ag op (aX rd []) E E' H H'->fJ P ⟨d,op,ty,pos,aft,c6⟩ (aU B E') (av B H') λv K=>v= .vs (B.sz n) (xs.map (B.ty n).enc)/\K=av B H'
 own:∀d ty pos aft E' H' q,(∀x,x∈op.operands->PE (aU B E') x=pv B (pe E x))->(∀i o,i∈rd->nth H i=c4 o->nth H' i=c4 o)->(av B H')[q]? =c4 ⟨0,1,[],0⟩->
  fJ P ⟨d,op,ty,pos,aft,c6⟩ (aU B E') (av B H') λv K=>v= .fl q 1/\K=(av B H').set q ⟨n,B.sz n,xs.map (B.ty n).enc,1⟩
theorem vF.sound{s:Op}{E:En B.D}{H:List (Ob B.D)}{n:Nat}{c:List (B.D n)}{rd:List Nat}{fz:Bool}{k:cr B.D->Option R}(o:vF P B s E H n c rd)
 (h:(bif fz then k ⟨.row n c,[],0,rd⟩ else k ⟨.fl (len H) 1,[(len H,⟨1,1,.rows n c⟩)],1,rd⟩)=c4 r):∃az,k az=c4 r/\iZ H az/\gY P s E H az:=by
 cases fz with
 |true=>
  refine⟨_,h,S6,λd ty pos m j l a=>?_⟩
  refine o.fz d ty pos m j l ⟨a.e,λi e=>?_,?_⟩
  ·rw[a.h i e];show nth (aX H []) i=_;rw[bK,List.append_nil]
  ·have:=a.le;simpa[bK,dx] using this
 |false=>
  refine⟨_,h,xO,λd ty pos m j l a=>?_⟩
  refine lI (o.own d ty pos m j l (len H) (λx u=>a.pe u) (λi y e t=>a.lN (.inl e) t) a.ov) ?_
  rintro v w ⟨rfl,rfl⟩;exact⟨rfl,by rw[mc];rfl⟩
theorem qY{b:Nat}{d:Option Nat}{z:Option Value}(a:lB b d z=true):d=c4 b/\∃v,z=c4 v/\v.cells.size=b:=by
 unfold lB at a
 split at a
 ·rename_i e v;cases c:d6 b e with
  |true=>rw[c] at a;exact⟨by rw[beq_eq c],v,rfl,beq_eq a⟩
  |false=>rw[c] at a;cases a
 ·cases a
theorem J2(d:cU P B){b:Nat}{c:List (B.D b)}:∀a,a∈c.map (B.ty b).enc->cE 0 a:=λa e=>by
 obtain⟨f,_,rfl⟩:=i9.1 e;exact d.lt b f
theorem MY(l:cU P B){c b k:Nat}{a x:Operand}{f:En B.D}{C:List (Ob B.D)}{g I:List (B.D b)}{t:List Nat}(y:pe f a= .bg\/pe f a= .z0)(H:yd B C (pe f x) b g t)
 (G:dU P c=c4 b) (J:kB P b=c4 (k+1)) (S:lB (B.sz b) (cH P b) (dV P b)=true) (Q:bj (k+1) [] g=c4 I):
 vF P B (.call {callee:=.builtin .append,args:=#[a,x],argTypes:=#[c,c]}) f C b I t:=by
 obtain⟨E,rfl⟩:=AN Q;obtain⟨D,X,M,F⟩:=qY S;simp only[hD,ev,List.nil_append] at E⊢;have L:(g.map (B.ty b).enc).length<=9223372036854775807:=by
  rw[d1];have:=ei g.length (hL k);simp only[g3] at this;omega
 have z:(g.map (B.ty b).enc).length*(k+1)<=140737488355328:=by rw[d1];exact E
 have h:a∈(Op.call {callee:=.builtin .append,args:=#[a,x],argTypes:=#[c,c]}).operands/\x∈(Op.call {callee:=.builtin .append,args:=#[a,x],argTypes:=#[c,c]}).operands:=by simp[d0,ft]
 have K:∀{o:Env},PE o a=pv B (pe f a)->PE o a= .bg\/PE o a= .z0:=λj=>y.imp (λe=>by rw[j,e];rfl) (λe=>by rw[j,e];rfl)
 have A:∀r v,pv B (pe f a)≠ .fl r v:=λr v=>by rcases y with e |e <;> rw[e] <;> simp[pv]
 refine⟨λd ty pos aft W n p=>?_,λd ty pos aft W n q w T u=>?_⟩
 ·have V:=p.pe h.1;refine uL (x:=x) (by rw[p.pe h.2];exact H n λi Y N O=>by rw[p.h i (by rw[bK];simp[N])];exact O) λU m s=>?_
  exact ab0 (K (s a _ V A)) rfl m (l.pos b) G D J M F z L (J2 l)
 ·refine uL (x:=x) (by rw[w x h.2];exact H n T) λU m s=>?_
  have j:=Oh (P:=P) (d:=d) (ty:=ty) (pos:=pos) (aft:=aft) u (K (s a _ (w a h.1) A)) rfl m (l.pos b) G D J M F z L;exact qX j (by unfold ek;rw[dk (c9 u)]) rfl
theorem YX(U:cU P B){t a g q v m:Nat}{s x:Operand}{E:En B.D}{H:List (Ob B.D)}{b c w:List (B.D a)}{l:List Nat}(C:pe E s= .fl q v)(h:nth H q=c4 ⟨m,v,.rows a b⟩)(M:yd B H (pe E x) a c l)
 (K:dU P t=c4 a) (N:kB P a=c4 (g+1)) (A:lB (B.sz a) (cH P a) (dV P a)=true) (z:bj (g+1) b c=c4 w):
 gY P (.call {callee:=.builtin .append,args:=#[s,x],argTypes:=#[t,t]}) E H ⟨.fl q (v+1),[(q,⟨dJ H q,v+1,.rows a w⟩)],0,q::l⟩:=by
 obtain⟨G,rfl⟩:=AN z;obtain⟨F,V,T,I⟩:=qY A;have O:b.length+c.length<=9223372036854775807:=by
  have:=ei (b.length+c.length) (hL g);simp only[g3] at this;omega
 have n:s∈(Op.call {callee:=.builtin .append,args:=#[s,x],argTypes:=#[t,t]}).operands/\x∈(Op.call {callee:=.builtin .append,args:=#[s,x],argTypes:=#[t,t]}).operands:=by simp[d0,ft]
 intro d ty pos aft S u f;have e:=df (f.lN (.inl (by simp)) h);have L:PE (aU B S) s= .fl q v:=by rw[f.pe n.1,C];rfl
 obtain⟨k,rfl,p⟩:=ri L;refine yP p e rfl ?_
 have j:=JM (x:=x) (by rw[f.pe n.2];exact M u λi o y h=>f.lN (.inl (by simp[y])) h) p e;refine uL (x:=x) j λJ j Q=>?_
 have D:=Pb (P:=P) (E:=J) (H:=av B u) (d:=d) (ty:=ty) (pos:=pos) (aft:=aft) (s:=.tmp k) (r:=q) (v:=v) (len:=b.length) (by_:=g+1) (t:=t) (x:=x) (o:=aY B ⟨m,v,.rows a b⟩) (Q (.tmp k) (.sl q v 0 b.length) (by show Bml.look _ k=_;rw[ni];simp[aY]) (by simp)) e rfl rfl j K F N T I (by rw[d1];exact G) (by rw[d1];exact O);refine lI (qX D (by unfold ek;rw[dk (c9 e)]) (by simp[aY])) ?_
 rintro v W ⟨rfl,rfl⟩;refine⟨rfl,?_⟩
 rw[mc];simp[aY,g6]
theorem OL{f:List (Ob B.D)}{q b d c:Nat}{a:List (TV B.D)}(h:nth f q=c4 ⟨d,b,.hole c [] a⟩){e:List (Ob B.D)}(g:nth e q=c4 ⟨d,b,.hole c [] a⟩):kV (av B e) (.fl q b) (B.sz c) (aP B a):=
 .inr ⟨q,_,rfl,df g,rfl,by simp[aY]⟩
theorem agG(ag:cU P B){t n p:Nat}{s x:Operand}{E:En B.D}{H:List (Ob B.D)}{ad:cr B.D->Option R}(a:GI B H n (p+1) (pe E s) (pe E x) ad=c4 r)
 (Y:dU P t=c4 n) (aa:kB P n=c4 (p+1)) (ak:lB (B.sz n) (cH P n) (dV P n)=true):
 ∃Q,ad Q=c4 r/\iZ H Q/\gY P (.call {callee:=.builtin .append,args:=#[s,x],argTypes:=#[t,t]}) E H Q:=by
 obtain⟨U,ap,ac,W⟩:=qY ak;have C:s∈(Op.call {callee:=.builtin .append,args:=#[s,x],argTypes:=#[t,t]}).operands/\x∈(Op.call {callee:=.builtin .append,args:=#[s,x],argTypes:=#[t,t]}).operands:=by simp[d0,ft]
 unfold GI at a
 split at a
 ·rename_i q aq Z
  split at a
  ·rename_i j g an;obtain⟨ao,A⟩:=fx an;obtain⟨ah,a⟩:=a8 a;obtain rfl:=beq_eq ah;have S:(aP B g).length=len g:=by rw[db,d1,eu]
   split at a
   ·rename_i F;obtain⟨c,y⟩:=a8 a;have c:=dv c;refine⟨_,y,xO,λd ty pos aft ab X e=>?_⟩
    have ai:=e.lN (.inl (by simp)) A;refine uL (x:=x) (sz:=B.sz j) (ys:=aP B g) (by rw[e.pe C.2,Z];exact OL A ai) λG w O=>?_
    have N:(aP B g).length<=9223372036854775807:=by
     have:=ei (len g) (hL p);simp only[g3] at this;omega
    have a:=Oh (P:=P) (E:=G) (d:=d) (ty:=ty) (pos:=pos) (aft:=aft) (s:=s) e.ov (.inl (O s .bg (by rw[e.pe C.1,F];rfl) (by simp))) rfl w (ag.pos j) Y U aa ac W (by rw[S];exact c) N;refine lI (qX a (by unfold ek;rw[dk (c9 e.ov)]) rfl) ?_
    rintro v al ⟨rfl,rfl⟩;exact⟨rfl,by rw[mc];rfl⟩
   ·rename_i h l F;have go:∀(m:Nat) (b M:Bd B.D) (f:List PV),nth H h=c4 ⟨m,l,b⟩->(∀s v,aY B ⟨s,v,b⟩=⟨j,B.sz j,f,v⟩)->(∀s v,aY B ⟨s,v,M⟩=⟨j,B.sz j,f++aP B g,v⟩)->(f.length+len g)*(p+1)<=140737488355328->
     gY P (.call {callee:=.builtin .append,args:=#[s,x],argTypes:=#[t,t]}) E H ⟨.fl h (l+1),[(h,⟨dJ H h,l+1,M⟩)],0,[h,q]⟩:=λm b M f k af ae c=>by
     have N:f.length+(aP B g).length<=9223372036854775807:=by
      have:=ei (f.length+len g) (hL p);simp only[g3] at this;omega
     intro d ty pos aft ab X e;have z:=df (e.lN (.inl (by simp)) k);have aj:=e.lN (i:=q) (.inl (by simp)) A;rw[af] at z;have am:PE (aU B ab) s= .fl h l:=by rw[e.pe C.1,F];rfl
     obtain⟨I,rfl,V⟩:=ri am;refine yP V z rfl ?_
     have w:=JM (x:=x) (by rw[e.pe C.2,Z];exact OL A aj) V z;refine uL (x:=x) w λG w O=>?_
     have a:=Pb (P:=P) (E:=G) (H:=av B X) (d:=d) (ty:=ty) (pos:=pos) (aft:=aft) (s:=.tmp I) (r:=h) (v:=l) (len:=f.length) (by_:=p+1) (t:=t) (x:=x) (o:=⟨j,B.sz j,f,l⟩) (O (.tmp I) (.sl h l 0 f.length) (by show Bml.look _ I=_;rw[ni]) (by simp)) z rfl rfl w Y U aa ac W (by rw[S];exact c) N;refine lI (qX a (by unfold ek;rw[dk (c9 z)]) (by simp)) ?_
     rintro v al ⟨rfl,rfl⟩;refine⟨rfl,?_⟩
     rw[mc,ae];simp[g6]
    split at a
    ·rename_i K u T D;obtain⟨m,k⟩:=fx D;obtain⟨ys,J,a⟩:=fq a;obtain⟨rfl,L⟩:=AG J;obtain rfl:u=ys:=L;obtain⟨c,y⟩:=a8 a;have c:=dv c;refine⟨_,y,pz k,go m _ _ (u.map (B.ty K).enc++aP B T) k (λs v=>rfl) (λs v=>by simp[aY,bK,db]) ?_⟩
     rw[ec,d1,db,d1, <-eu T];exact c
    ·rename_i K u D;obtain⟨m,k⟩:=fx D;obtain⟨ys,J,a⟩:=fq a;obtain⟨rfl,L⟩:=AG J;obtain rfl:u=ys:=L;obtain⟨c,y⟩:=a8 a;have c:=dv c;refine⟨_,y,pz k,go m _ _ (u.map (B.ty K).enc) k (λs v=>rfl) (λs v=>rfl) ?_⟩
     rw[d1];exact c
    ·cases a
   ·cases a
  ·cases a
 ·cases a
end
theorem am7{a c:PV}(d:Cc a c)(b:c.one=true):a.one=true:=by
 cases d with
 |refl=>exact b
 |nil=>rfl
 |z0=>rfl
 |agg=>cases b
theorem ahf{vs:List PV}{a:PV}(b:Cc (.bu vs) a):a= .bu vs:=by
 cases b;rfl
theorem ajW{d a:PV}(e:Cc d a)(f:a.cells.all PV.one=true):d.cells.all PV.one=true:=by
 obtain⟨k,h⟩:=e.cells;refine eH.2 λj g=>?_
 obtain⟨c,i,rfl⟩:=dT g;have b:c<a.cells.length:=by omega
 exact am7 (h c _ _ (c5 i) (c5 b)) (eH.1 f _ (List.getElem_mem b))
section
variable {P : Program} {B : Tb} {R : Type} {r : R}
theorem acz{d:En B.D}{f e:Operand}(a:Cf f e=true):pe d e=pe d f:=by
 unfold Cf at a
 split at a
 ·rw[beq_eq a]
 ·rename_i h g b i;cases c:fV h b with
  |false=>rw[c] at a;cases a
  |true=>
   rw[c] at a;obtain rfl:=qh c;have:g=i:=of_decide_eq_true a;rw[this]
 ·cases a
theorem aoF(p:cU P B){t a x:Nat}{g o:Operand}{w:En B.D}{Q:List (Ob B.D)}{ab:IntKind}{e:Int}{z:Value}{n:B.D a}{y:List (B.D a)}(ac:Cf g o=true)(H:pe w g= .int ab e)
 (T:dU P t=c4 a) (K:dV P a=c4 z) (W:kB P a=c4 (x+1)) (L:lB (B.sz a) (cH P a) (dV P a)=true) (S:jj (dN (cv (D:=B.D) z))=true) (U:B.up a (cv z)=c4 n) (v:gP (x+1) n e=c4 y):
 vF P B (.makeSlice t g o) w Q a y []:=by
 obtain⟨E,G,rfl⟩:=SF v;obtain⟨O,ae,ah,ag⟩:=qY L;obtain⟨X,J⟩:=p.up a _ n U;have Z:e.toNat<=9223372036854775807:=by
  have:=ei e.toNat (hL x);simp only[g3] at this;omega
 have N:(pv B (cv z)).cells.length=B.sz a:=by rw[J.cells.1,p.wid]
 have A:∀k c l h f j,(∀s,s∈(Op.makeSlice t g o).operands->PE (aU B f) s=pv B (pe w s))->nY P (aU B f) (av B j) ⟨k,.makeSlice t g o,c,l,h,c6⟩ a (B.sz a) (f6 e.toNat (pv B (cv z))) (λq m=>.sl q m 0 e.toNat):=λk c l h f j d=>
  aax (by rw[d g (by simp[d0]),H];rfl) (by rw[d o (by simp[d0]),acz ac,H];rfl) E E T O W (by omega) Z K (DK B z).symm N (p.pos a) (by rw[l5];exact oK S)
 have I:∀c m,jB ⟨c,B.sz a,f6 e.toNat (pv B (cv z)),m⟩ ⟨c,B.sz a,(f6 e.toNat n).map (B.ty a).enc,m⟩:=λc m=>by
  refine jB.of (by simp) (λi af b V G=>?_) λi aa d=>?_
  ·have ad:=d4 V;have C:=d4 G;rw[List.map_replicate] at C;rw[g0 ad,g0 C];exact J
  ·have F:=d4 d;rw[List.map_replicate] at F;rw[g0 F];exact p.wid a n
 refine⟨λk c l h f j Y=>?_,λk c l h f j q d _ u=>?_⟩
 ·exact Pf (J5 (A k c l h f j λs v=>Y.pe v) (by simp) λaa d=>by rw[g0 d];exact X) (I 0 0)
 ·have M:=tu (sX u (A k c l h f j d)) (c9 u) (I a 1) (.refl _);exact qX M (by unfold ek;rw[dk (c9 u)]) (by simp)
theorem NO(o:cU P B){f:En B.D}{h:Nat}:∀{b:List (Nat×Operand)} {i:Nat} {e:List (B.D h)},rn B f h i b=c4 e->
 e.length=b.length/\(∀l:En B.D,(∀p,p∈b->PE (aU B l) p.2=pv B (pe f p.2))->qn (aU B l) b (mY i (b.map λp=>pv B (pe f p.2))))/\
 (∀(d:Nat) (k g:PV),(b.map λp=>pv B (pe f p.2))[d]? =c4 k->(e.map (B.ty h).enc)[d]? =c4 g->Cc k g)/\∀j,j∈(b.map λp=>pv B (pe f p.2))->cE 0 j
 |[],i,e,a=>by
  simp only[rn,hX] at a;subst a;exact⟨rfl,λ_ _=>trivial,by simp,by simp⟩
 |p::b,i,e,a=>by
  simp only[rn] at a;obtain⟨u,a⟩:=a8 a
  split at a
  ·rename_i y C A x;injection a with a
   subst a;obtain⟨s,v,z,w⟩:=NO o x;obtain⟨u1,u2⟩:=o.up h _ y A;refine⟨by simp[s],λl c=>⟨beq_eq u,c p (by simp),v l λq t=>c q (hB _ t)⟩,λd k g n m=>?_,λj c=>?_⟩
   ·cases d with
    |zero=>simp at n m;subst n;subst m;exact u2
    |succ d=>exact z d k g (by simpa using n) (by simpa using m)
   ·rcases i4.1 c with rfl |c
    ·exact u1
    ·exact w j c
  ·cases a
theorem Js:∀{l:List Value},Ax l=true->l.all (·.oneCell')=true
 |[],_=>rfl
 |v::l,a=>by
  simp only[Ax] at a;cases b:v.oneCell' with
  |false=>rw[b] at a;cases a
  |true=>rw[b] at a;simp[b,Js (l:=l) a]
theorem aaJ(j:cU P B){t n e:Nat}{ps:Array (Nat×Operand)}{E:En B.D}{H:List (Ob B.D)}{g:List (B.D n)}(L:dU P t=c4 n)(s:rn B E n 0 ps.toList=c4 g)(J:d6 (len g) e=true)
 (D:lB (B.sz n) (cH P n) (dV P n)=true) (y:Ix (dV P n)=true) (T:f9 (e*B.sz n) 16777216=true):vF P B (.buildSlice t e ps) E H n g []:=by
 obtain⟨I,zv,C,K⟩:=qY D;obtain⟨V,F,w,G⟩:=NO j s;have W:g.length=e:=by rw[<-eu];exact beq_eq J
 rw[C] at y;have U:=Js y;have z:∀f,f∈(ps.toList.map λp=>pv B (pe E p.2))->∃a:B.D n,Cc f ((B.ty n).enc a):=λf b=>by
  obtain⟨u,x,rfl⟩:=dT b;have Q:u<g.length:=by rw[d1] at x;omega
  exact⟨g[u],w u _ _ (c5 x) (by rw[d8,c5 Q];rfl)⟩
 have v:∀d ty pos aft c h,(∀a,a∈(Op.buildSlice t e ps).operands->PE (aU B c) a=pv B (pe E a))->nY P (aU B c) (av B h) ⟨d,.buildSlice t e ps,ty,pos,aft,c6⟩ n (B.sz n) (ps.toList.map λp=>pv B (pe E p.2)) (λq k=>.sl q k 0 e):=λd ty pos aft c h b=>by
  have l:=Pn (P:=P) (E:=aU B c) (H:=av B h) (d:=d) (ty:=ty) (pos:=pos) (aft:=aft) (t:=t) (te:=n) (sz:=B.sz n) (n:=e) (zv:=zv) (ps:=ps.toList) (es:=ps.toList.map λp=>pv B (pe E p.2))
   (F c λp O=>b p.2 (by simp[d0];exact⟨p.1,fe.1 O⟩)) (by rw[d1];omega)
   (eH.2 λf b=>by
    obtain⟨a,m⟩:=z f b;rw[m.cells.1,j.wid,ajW m (j.one n a),h7];rfl)
   (λf b M N=>by
    obtain⟨a,m⟩:=z f b;subst N;exact j.xw n a M (ahf m)) L I C K U (j.pos n) (dv T)
  rw[gc] at l;exact l
 have A:∀ty k,jB ⟨ty,B.sz n,ps.toList.map λp=>pv B (pe E p.2),k⟩ ⟨ty,B.sz n,g.map (B.ty n).enc,k⟩:=λty k=>
  jB.of (by rw[d1,d1];omega) w λi f b=>by
   obtain⟨a,_,rfl⟩:=i9.1 (d4 b);exact j.wid n a
 refine⟨λd ty pos aft c h S=>?_,λd ty pos aft c h q b _ o=>?_⟩
 ·exact Pf (J5 (v d ty pos aft c h λa s=>S.pe s) (by rw[d1];omega) G) (A 0 0)
 ·have l:=tu (sX o (v d ty pos aft c h b)) (c9 o) (A n 1) (.refl _);exact qX l (by unfold ek;rw[dk (c9 o)]) (by rw[d1];omega)
theorem aco(o:cU P B){t n c:Nat}{ps:Array (Nat×Operand)}{E:En B.D}{H:List (Ob B.D)}{m:cr B.D->Option R}(a:FK B E H n ps.toList c m=c4 r)(F:dU P t=c4 n)
 (w:lB (B.sz n) (cH P n) (dV P n)=true) (j:Ix (dV P n)=true) (M:f9 (c*B.sz n) 16777216=true):∃f,m f=c4 r/\iZ H f/\gY P (.buildSlice t c ps) E H f:=by
 obtain⟨x,zv,l,z⟩:=qY w;rw[l] at j;have N:=Js j;unfold FK at a
 split at a
 ·rename_i p k;obtain⟨h0,a⟩:=a8 a;obtain⟨D,a⟩:=a8 a;obtain⟨I,a⟩:=a8 a;obtain⟨y,a⟩:=a8 a;obtain⟨A,K⟩:=a8 a;obtain rfl:=beq_eq D;refine⟨_,K,xO,λd ty pos aft g h e=>?_⟩
  have J:PE (aU B g) p.2=pv B (pe E p.2):=e.pe (by simp[d0];exact⟨p.1,fe.1 (by rw[k];simp)⟩);have u:(pv B (pe E p.2)).cells.length=B.sz n:=by rw[nB,d1, <-eu];exact beq_eq I
  have s:nY P (aU B g) (av B h) ⟨d,.buildSlice t 1 ps,ty,pos,aft,c6⟩ n (B.sz n) [pv B (pe E p.2)] (λq C=>.sl q C 0 1):=by
   have a:=Pn (P:=P) (E:=aU B g) (H:=av B h) (d:=d) (ty:=ty) (pos:=pos) (aft:=aft) (t:=t) (te:=n) (sz:=B.sz n) (n:=1) (zv:=zv) (ps:=ps.toList) (es:=[pv B (pe E p.2)])
    (by rw[k];exact⟨beq_eq h0,J,trivial⟩) rfl
    (eH.2 λL b=>by
     rw[h5.1 b,u,l5,oK y,h7];rfl)
    (λL b G i=>by
     rw[h5.1 b] at i;exact zk A G i) F x l z N (o.pos n) (dv M)
   rw[gc] at a;exact a
  have a:=sX e.ov s;refine lI (qX a (by unfold ek;rw[dk (c9 e.ov)]) rfl) ?_
  rintro v O ⟨rfl,rfl⟩;exact⟨rfl,by rw[mc];rfl⟩
 ·cases a
theorem M4{e:En B.D}:∀{b:List (Nat×Operand)} {c:List (Nat×List (TV B.D))},ul B e b=c4 c->c=b.map (λp=>(p.1,dN (pe e p.2)))/\∀p,p∈b->tF (pe e p.2)=true
 |[],c,a=>by simp[ul] at a;subst a;exact⟨rfl,by simp⟩
 |p::b,c,a=>by
  simp only[ul] at a;obtain⟨i,a⟩:=a8 a
  split at a
  ·rename_i j h;injection a with a
   subst a;obtain⟨f,g⟩:=M4 h;refine⟨by rw[f];rfl,λq d=>?_⟩
   rcases i4.1 d with rfl |d
   ·exact i
   ·exact g q d
  ·cases a
theorem Ko{c:En B.D}{place:Nat->Option (Nat×Nat)}{j:List (Nat×Nat)}(k:∀i p,nth j i=c4 p->place i=c4 p):∀{e:List (Nat×Operand)} {b d:List (TV B.D)},fill j b (e.map λp=>(p.1,dN (pe c p.2)))=c4 d->
 mE place (aP B b) (e.map λp=>(p.1,pv B (pe c p.2)))=c4 (aP B d)
 |[],b,d,a=>by simp[fill] at a;subst a;rfl
 |p::e,b,d,a=>by
  simp only[i3,fill] at a
  split at a
  ·rename_i q size l;obtain⟨o,a⟩:=a8 a;obtain⟨h,a⟩:=a8 a;obtain⟨m,a⟩:=a8 a;have f:=beq_eq o;rw[eu] at f h;have g:=Ko k a;rw[Jh,f] at g;simp only[i3,mE,k _ _ l];have n:(pv B (pe c p.2)).cells=aP B (dN (pe c p.2)):=l5 _;rw[n,oK m];rw[show(aP B (dN (pe c p.2))).length=size by rw[db,d1];exact f,show(aP B b).length=b.length by rw[db,d1],h,h7];exact g
  ·cases a
theorem RI{b:Nat}:∀{n i k:Nat} {p:Nat×Nat},nth (AA b n i) k=c4 p->p=((i+k)*b,b)
 |0,_,_,_,a=>by cases a
 |n+1,i,0,p,a=>by simp[AA,nth] at a;exact a.symm
 |n+1,i,k+1,p,a=>by
  have:=RI (n:=n) (i:=i+1) (k:=k) (p:=p) a;rw[this]
  congr 2
  omega
theorem agn{t:TypeId}{f:Array (Nat×Operand)}{E:En B.D}{H:List (Ob B.D)}{z:Array Value}{w:List (Nat×Nat)}{m:List (Nat×List (TV B.D))}{u:List (TV B.D)}(l:dV P t=c4 (.agg z))(a:placesOf P t=c4 w)
 (I:jj (rq (D:=B.D) z.toList)=true) (G:ul B E f.toList=c4 m) (x:fill w (rq z.toList) m=c4 u):fW P (.build t f) E H [] (.agg u):=by
 intro d ty pos aft j n M _;obtain⟨rfl,F⟩:=M4 G;have s:∀{e:List (Nat×Operand)},(∀p,p∈e->p∈f.toList)->qn (aU B j) e (e.map λp=>(p.1,pv B (pe E p.2))):=λ{e}=>by
  induction e with
  |nil=>intro _;trivial
  |cons p e L=>
   intro c;exact⟨rfl,M p.2 (by simp[d0];exact⟨p.1,fe.1 (c p (by simp))⟩),L λq y=>c q (hB _ y)⟩
 have o:∀i v,(i,v)∈(f.toList.map λp=>(p.1,pv B (pe E p.2)))->∀h,v≠ .bu h:=λi v A h=>by
  obtain⟨p,b,g⟩:=i9.1 A;injection g with _ g
  rw[<-g];exact zk (F p b) h
 have k:(z.toList.map jq).all PV.one=true:=by rw[<-r8 B];exact oK I
 unfold placesOf at a
 split at a
 ·rename_i S J;injection a with a
  subst a;have c:=ahR (P:=P) (E:=aU B j) (H:=av B n) (d:=d) (ty:=ty) (pos:=pos) (aft:=aft) (gd:=c6) (t:=t) (zs:=z.toList) (by simpa using l) (r8 B _).symm (by rw[r8];exact k) J (s λp b=>b) o
   (Ko (λi p b=>by rw[cJ] at b;simpa using b) x)
  rw[gc] at c;exact c
 ·split at a
  ·rename_i Q O K
   split at a
   ·rename_i N C;injection a with a
    subst a;have c:=VH (P:=P) (E:=aU B j) (H:=av B n) (d:=d) (ty:=ty) (pos:=pos) (aft:=aft) (gd:=c6) (t:=t) (zs:=z.toList) (by simpa using l) (r8 B _).symm (by rw[r8];exact k) K C (s λp b=>b) o
     (Ko (λi p b=>by rw[RI b,ev]) x)
    rw[gc] at c;exact c
   ·cases a
  ·cases a
end
end Go.X
namespace Go.Bml
open Go
inductive Wf (f:Nat->Nat->Prop):PV->Prop
 |any:Wf f .any
 |bool (b:Bool):Wf f (.bool b)
 |int (k:IntKind) (m:Int):Wf f (.int k m)
 |str (s:ByteArray):Wf f (.str s)
 |fS:Wf f .fS
 |bg:Wf f .bg
 |z0:Wf f .z0
 |dB:Wf f .dB
 |dw (cs:List PV) (j:Nat):Wf f (.dw cs j)
 |vs (sz:Nat) (es:List PV):Wf f (.vs sz es)
 |ptr (r v i j:Nat) (h:f r v):Wf f (.ptr r v i j)
 |sl (r v off len:Nat) (h:f r v):Wf f (.sl r v off len)
 |fl (r v:Nat) (h:f r v):Wf f (.fl r v)
 |agg (cs:List PV) (h:∀c,c∈cs->Wf f c):Wf f (.agg cs)
 |bu (cs:List PV) (h:∀c,c∈cs->Wf f c):Wf f (.bu cs)
 |fn (g:Nat) (cs ds:List PV) (h:∀c,c∈cs->Wf f c) (h2:∀c,c∈ds->Wf f c):Wf f (.fn g cs ds)
section
variable {g g' : Gh} {H H' : List aO} {w w' : World}
theorem qB{p:PV->Prop}{b:List PV}{c:List Value}(j:b.length=c.length)(e:∀(i:Nat) (a:PV) (h:Value),b[i]? =c4 a->c[i]? =c4 h->p a):∀a,a∈b->p a:=λa f=>by
 obtain⟨i,d,rfl⟩:=dT f;exact e i _ _ (c5 d) (c5 (by omega))
theorem VI.wf{F:Nat->Prop}{f:Nat->Nat->Prop}{c:PV}{x:Value}(h:VI F w c x):Wf f c:=by
 induction h with
 |any x=>exact .any
 |bool b=>exact .bool b
 |int k n=>exact .int k n
 |str s=>exact .str s
 |fS=>exact .fS
 |bg=>exact .bg
 |z0 a=>exact .z0
 |dB=>exact .dB
 |dw e u b off B t C D l d=>exact .dw e u
 |eX sz a cap=>exact .vs sz []
 |vs sz es b off cap B j t G C D l d=>exact .vs sz es
 |agg e m j l d=>exact .agg e (qB j d)
 |bu e m j l d=>exact .bu e (qB j d)
 |fn f e A m I j l o E d y=>exact .fn f e A (qB j d) (qB o y)
theorem VR.wf{c:PV}{x:Value}(h:VR g H w c x):Wf (λr v=>∃e,H[r]? =c4 e/\v<=e.aF) c:=by
 induction h with
 |aW h=>exact h.wf
 |ptr r v i s e a k d C=>exact .ptr r v i s ⟨e,k,d⟩
 |sl r v off len e x k d A y=>exact .sl r v off len ⟨e,k,d⟩
 |fl r v e x k d A y=>exact .fl r v ⟨e,k,d⟩
 |agg m n l d j=>exact .agg m (qB l j)
 |bu m n l d j=>exact .bu m (qB l j)
 |fn f m t n D l d o B j u=>exact .fn f m t (qB l j) (qB o u)
theorem VR.uz{f:Nat->Nat->Prop}(P:∀b,g.F b->g'.F b)(T:∀b,g.F b->w'.heap[b]? =w.heap[b]?)
 (L:∀r v j,f r v->H[r]? =c4 j->v<=j.aF->∃d,H'[r]? =c4 d/\v<=d.aF/\(v=d.aF->v=j.aF/\d.sz=j.sz/\d.es.length=j.es.length/\g'.β r=g.β r))
 {c:PV} {x:Value} (h:VR g H w c x) (o:Wf f c):VR g' H' w' c x:=by
 induction h with
 |aW h=>exact .aW (h.mono P T)
 |ptr r v i Q j a u m R=>
  cases o with
  |ptr _ _ _ _ D=>
   obtain⟨d,t,y,E⟩:=L r v j D u m;refine .ptr r v i Q d a t y λe=>?_
   obtain⟨C,I,n,A⟩:=E e;rw[I,n,A];exact R C
 |sl r v off len j x u m K k=>
  cases o with
  |sl _ _ _ _ D=>
   obtain⟨d,t,y,E⟩:=L r v j D u m;refine .sl r v off len d x t y K λe=>?_
   obtain⟨C,I,n,A⟩:=E e;exact(k C).step I n A
 |fl r v j x u m K k=>
  cases o with
  |fl _ _ D=>
   obtain⟨d,t,y,E⟩:=L r v j D u m;refine .fl r v d x t y K λe=>?_
   obtain⟨C,I,n,A⟩:=E e;rw[n];exact(k C).step I n A
 |agg F s B m G=>cases o with |agg _ J=>exact .agg F s B λi c x l k=>G i c x l k (J c (d4 l))
 |bu F s B m G=>cases o with |bu _ J=>exact .bu F s B λi c x l k=>G i c x l k (J c (d4 l))
 |fn f F O s S B m N V G U=>
  cases o with
  |fn _ _ _ J M=>exact .fn f F O s S B (λi c x l k=>G i c x l k (J c (d4 l))) N (λi c x l k=>U i c x l k (M c (d4 l)))
theorem VR.re{f:Nat->Nat->Prop}(k:∀b,g.F b->g'.F b)
 (j:∀r v d,f r v->H[r]? =c4 d->v<=d.aF->∃a,H'[r]? =c4 a/\v<=a.aF/\(v=a.aF->v=d.aF/\a.sz=d.sz/\a.es.length=d.es.length/\g'.β r=g.β r))
 {c:PV} {x:Value} (h:VR g H w c x) (e:Wf f c):VR g' H' w c x:=VR.uz k (λ_ _=>rfl) j h e
def dj(g:Gh)(a:Nat->Option Nat)(c:Nat->Prop):Gh:={F:=λb=>g.F b\/∃r d,c r/\g.β r=c4 (b,d),β:=λq=>(a q).bind g.β}
theorem bF.re(n:bF g H w){a:Nat->Option Nat}{fz:Nat->Prop}(Y:∀r,fz r->∀q,a q≠c4 r)(inj:∀q t r,a q=c4 r->a t=c4 r->q=t)(m8:∀q r,a q=c4 r->q<H'.length)
 (obj:∀q d,H'[q]? =c4 d->0<d.sz/\(∀(i:Nat) (e:PV),d.es[i]? =c4 e->e.cells.length=d.sz)/\(a q=c6->d.es=[])/\
  ∀r,a q=c4 r->∃l,H[r]? =c4 l/\d.ty=l.ty/\d.sz=l.sz/\d.es.length=l.es.length/\∀i o u,cellOf d.es i o=c4 u->∃c,cellOf l.es i o=c4 c/\∀s,VR g H w c s->VR (dj g a fz) H' w u s):
 bF (dj g a fz) H' w:=by
 have y:∀{q b C},(dj g a fz).β q=c4 (b,C)->∃r,a q=c4 r/\g.β r=c4 (b,C):=λ{q b C} h=>by
  show ∃r,a q=c4 r/\_
  have m:(a q).bind g.β=c4 (b,C):=h;cases k:a q with
  |none=>rw[k] at m;cases m
  |some r=>rw[k] at m;exact⟨r,rfl,m⟩
 refine⟨λb j=>?_,λq t b C ac h m=>?_,λq b C h=>?_,λq d I=>?_⟩
 ·rcases j with j |⟨r,C,_,j⟩
  ·exact n.fb b j
  ·exact n.qD j
 ·obtain⟨r,A,aa⟩:=y h;obtain⟨K,Q,S⟩:=y m;obtain rfl:=n.inj r K b C ac aa S;exact inj q t r A Q
 ·obtain⟨r,A,_⟩:=y h;exact m8 q r A
 ·obtain⟨E,O,X,R⟩:=obj q d I;refine⟨E,O,?_⟩
  cases k:a q with
  |none=>
   have:(dj g a fz).β q=c6:=by show(a q).bind g.β=c6;rw[k];rfl
   rw[this];exact X k
  |some r=>
   have N:(dj g a fz).β q=g.β r:=by show(a q).bind g.β=_;rw[k];rfl
   rw[N];obtain⟨l,J,V,D,B,T⟩:=R r k;have x:=(n.obj r l J).mem;cases j:g.β r with
   |none=>
    rw[j] at x;exact d7 (by rw[B,x];rfl)
   |some ae=>
    obtain⟨b,C⟩:=ae;rw[j] at x;obtain⟨ab,cells,ag,Z,F,W,P⟩:=x;refine⟨?_,cells,by rw[V];exact ag,by rw[D];exact Z,F,by rw[B];exact W,λi o u af=>?_⟩
    ·rintro(M |⟨r2,C2,U,G⟩)
     ·exact ab M
     ·obtain rfl:=n.inj r r2 b C C2 j G;exact Y _ U q k
    ·obtain⟨c,L,ad⟩:=T i o u af;obtain⟨s,u1,u2,u3⟩:=P i o c L;exact⟨s,by rw[D];exact u1,u2,ad s u3⟩
theorem GStep.re{n:Nat}{j:Nat->Option Nat}{fz:Nat->Prop}(u:∀r d,r<n->H[r]? =c4 d->∃c,H'[r]? =c4 c/\d.aF<=c.aF/\(c.aF=d.aF->j r=c4 r/\c.sz=d.sz/\c.es.length=d.es.length)):GStep n g H w (dj g j fz) H' w:=by
 refine⟨rfl,rfl,rfl,dt _,λ_ h=>.inl h,λ_ _=>rfl,λ_ _ _=>rfl,λb a=>?_,λq b C a=>?_,λr d o x=>?_⟩
 ·rcases a with a |⟨r,C,_,a⟩
  ·exact .inl a
  ·exact .inr (.inr ⟨r,C,a⟩)
 ·have k:(j q).bind g.β=c4 (b,C):=a;cases l:j q with
  |none=>rw[l] at k;cases k
  |some r=>rw[l] at k;exact .inr ⟨r,C,k⟩
 ·obtain⟨c,m,t,s⟩:=u r d o x;refine⟨c,m,t,λe=>?_⟩
  obtain⟨B,y,A⟩:=s e;exact⟨y,A,by show(j r).bind g.β=_;rw[B];rfl⟩
end
end Go.Bml
