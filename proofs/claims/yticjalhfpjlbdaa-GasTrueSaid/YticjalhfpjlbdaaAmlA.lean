/- The abstract memory logic, part A: abstract values, abstract objects, and how they stand to the model's values and memory. -/
import Derived.Maps.AppendAt
import Derived.WalkKit
import Derived.Orders
namespace Go.Aml
open Go

inductive PV:Type where
 | any
 | bool (b:Bool)
 | int (k:IntKind) (n:Int)
 | str (s:ByteArray)
 | nilp
 | ptr (r v i j:Nat)
 | vptr (cs:List PV) (j:Nat)
 | nils
 | z0
 | vs (sz:Nat) (es:List PV)
 | sl (r v off len:Nat)
 | agg (cs:List PV)
 | tup (vs:List PV)
 | fn (f:Nat) (first cap:List PV)
 | nilf
 deriving Inhabited

def PV.cells:PV→List PV
 | .agg cs=>cs
 | v=>[v]

def cellOf (es:List PV) (i j:Nat):Option PV:=(es[i]?).bind fun e=>e.cells[j]?

structure AObj where
 ty:Nat
 sz:Nat
 es:List PV
 ver:Nat

structure Gh where
 F:Nat→Prop
 β:Nat→Option (Nat×Nat)

inductive VI (F:Nat→Prop) (w:World):PV→Value→Prop
 | any (x:Value):VI F w .any x
 | bool (b:Bool):VI F w (.bool b) (.bool b)
 | int (k:IntKind) (n:Int):VI F w (.int k n) (.int k n)
 | str (s:ByteArray):VI F w (.str s) (.string s)
 | nilp:VI F w .nilp (.pointer none)
 | nils:VI F w .nils (.slice none 0 0)
 | z0 (a:Option Addr):VI F w .z0 (.slice a 0 0)
 | nilf:VI F w .nilf .nilFunc
 | vptr (cs:List PV) (j b off:Nat) (u:Nat→Value) (hF:F b)
   (hc:∀ (i:Nat) (c:PV),cs[i]?=some c→w.cell? ⟨b,off+i,none⟩=some (u i))
   (h1:∀ (i:Nat) (c:PV),cs[i]?=some c→(u i).oneCell'=true)
   (hv:∀ (i:Nat) (c:PV),cs[i]?=some c→VI F w c (u i)):VI F w (.vptr cs j) (.pointer (some ⟨b,off+j,none⟩))
 | vs0 (sz:Nat) (a:Option Addr) (cap:Nat):VI F w (.vs sz []) (.slice a 0 cap)
 | vs (sz:Nat) (es:List PV) (b off cap:Nat) (u:Nat→Nat→Value) (hl:es.length≤cap) (hF:F b)
   (hsz:∀ (i:Nat) (e:PV),es[i]?=some e→e.cells.length=sz)
   (hc:∀ (i j:Nat) (c:PV),cellOf es i j=some c→w.cell? ⟨b,off+(i*sz+j),none⟩=some (u i j))
   (h1:∀ (i j:Nat) (c:PV),cellOf es i j=some c→(u i j).oneCell'=true)
   (hv:∀ (i j:Nat) (c:PV),cellOf es i j=some c→VI F w c (u i j)):VI F w (.vs sz es) (.slice (some ⟨b,off,none⟩) es.length cap)
 | agg (cs:List PV) (xs:List Value) (hl:cs.length=xs.length) (hv:∀ (i:Nat) (c:PV) (x:Value),cs[i]?=some c→xs[i]?=some x→VI F w c x):VI F w (.agg cs) (.agg xs.toArray)
 | tup (cs:List PV) (xs:List Value) (hl:cs.length=xs.length) (hv:∀ (i:Nat) (c:PV) (x:Value),cs[i]?=some c→xs[i]?=some x→VI F w c x):VI F w (.tup cs) (.tuple xs.toArray)
 | fn (f:Nat) (cs ds:List PV) (xs ys:List Value) (hl:cs.length=xs.length) (hv:∀ (i:Nat) (c:PV) (x:Value),cs[i]?=some c→xs[i]?=some x→VI F w c x)
   (hl2:ds.length=ys.length) (hv2:∀ (i:Nat) (c:PV) (x:Value),ds[i]?=some c→ys[i]?=some x→VI F w c x):VI F w (.fn f cs ds) (.func (.func f) xs.toArray ys.toArray)

def SL (g:Gh) (o:AObj) (r off len:Nat) (x:Value):Prop :=
 off+len≤o.es.length ∧
 match g.β r with
 | none=>off=0∧len=0∧∃ a,x = .slice a 0 0
 | some (b,C)=>∃ cap a,x = .slice a len cap∧len≤cap∧(len≠0→a=some ⟨b,off*o.sz,none⟩)∧(off=0→a=some ⟨b,0,none⟩∧cap=C)

inductive VR (g:Gh) (H:List AObj) (w:World):PV→Value→Prop
 | imm {c:PV} {x:Value} (h:VI g.F w c x):VR g H w c x
 | ptr (r v i j:Nat) (o:AObj) (a:Addr) (ho:H[r]?=some o) (hv:v≤o.ver)
   (ha:v=o.ver→i<o.es.length∧∃ b C,g.β r=some (b,C)∧a=⟨b,i*o.sz+j,none⟩):VR g H w (.ptr r v i j) (.pointer (some a))
 | sl (r v off len:Nat) (o:AObj) (x:Value) (ho:H[r]?=some o) (hv:v≤o.ver) (h1:x.oneCell'=true) (hx:v=o.ver→SL g o r off len x):VR g H w (.sl r v off len) x
 | agg (cs:List PV) (xs:List Value) (hl:cs.length=xs.length) (hv:∀ (i:Nat) (c:PV) (x:Value),cs[i]?=some c→xs[i]?=some x→VR g H w c x):VR g H w (.agg cs) (.agg xs.toArray)
 | tup (cs:List PV) (xs:List Value) (hl:cs.length=xs.length) (hv:∀ (i:Nat) (c:PV) (x:Value),cs[i]?=some c→xs[i]?=some x→VR g H w c x):VR g H w (.tup cs) (.tuple xs.toArray)
 | fn (f:Nat) (cs ds:List PV) (xs ys:List Value) (hl:cs.length=xs.length) (hv:∀ (i:Nat) (c:PV) (x:Value),cs[i]?=some c→xs[i]?=some x→VR g H w c x)
   (hl2:ds.length=ys.length) (hv2:∀ (i:Nat) (c:PV) (x:Value),ds[i]?=some c→ys[i]?=some x→VR g H w c x):VR g H w (.fn f cs ds) (.func (.func f) xs.toArray ys.toArray)

inductive LtN (n:Nat):PV→Prop
 | any:LtN n .any
 | bool (b:Bool):LtN n (.bool b)
 | int (k:IntKind) (m:Int):LtN n (.int k m)
 | str (s:ByteArray):LtN n (.str s)
 | nilp:LtN n .nilp
 | nils:LtN n .nils
 | z0:LtN n .z0
 | nilf:LtN n .nilf
 | vptr (cs:List PV) (j:Nat):LtN n (.vptr cs j)
 | vs (sz:Nat) (es:List PV):LtN n (.vs sz es)
 | ptr (r v i j:Nat) (h:r<n):LtN n (.ptr r v i j)
 | sl (r v off len:Nat) (h:r<n):LtN n (.sl r v off len)
 | agg (cs:List PV) (h:∀ c,c ∈ cs→LtN n c):LtN n (.agg cs)
 | tup (cs:List PV) (h:∀ c,c ∈ cs→LtN n c):LtN n (.tup cs)
 | fn (f:Nat) (cs ds:List PV) (h:∀ c,c ∈ cs→LtN n c) (h2:∀ c,c ∈ ds→LtN n c):LtN n (.fn f cs ds)

def Ga6 (n:Nat) (o:AObj):Prop:=∀ e,e ∈ o.es→LtN n e

def PV.pure:PV→Bool
 | .ptr .. | .sl ..=>false
 | .agg cs=>cs.attach.all fun ⟨c,_⟩=>c.pure
 | .tup cs=>cs.attach.all fun ⟨c,_⟩=>c.pure
 | .fn _ cs ds=>(cs.attach.all fun ⟨c,_⟩=>c.pure)&&(ds.attach.all fun ⟨c,_⟩=>c.pure)
 | _=>true

structure ObjR (g:Gh) (H:List AObj) (w:World) (r:Nat) (o:AObj):Prop where
 pos:0<o.sz
 width:∀ (i:Nat) (e:PV),o.es[i]?=some e→e.cells.length=o.sz
 mem:match g.β r with
  | none=>o.es=[]
  | some (b,C)=>¬ g.F b∧∃ cells,w.heap[b]?=some (.cells cells o.ty (0,0))∧cells.size=C*o.sz∧C≤maxLen∧o.es.length≤C ∧
    ∀ (i j:Nat) (c:PV),cellOf o.es i j=some c→∃ u,cells[i*o.sz+j]?=some u∧u.oneCell'=true∧VR g H w c u

structure RelM (g:Gh) (n:Nat) (H:List AObj) (w:World):Prop where
 fb:∀ b,g.F b→b<w.heap.size
 inj:∀ r r' b C C',g.β r=some (b,C)→g.β r'=some (b,C')→r=r'
 dom:∀ r b C,g.β r=some (b,C)→r<H.length
 obj:∀ r o,H[r]?=some o→ObjR g H w r o
 low:n≤H.length
 lt:∀ r o,r<n→H[r]?=some o→Ga6 n o

abbrev Env:=List (Nat×PV)

def look:Env→Nat→PV
 | [],_=>.any
 | (d,v)::r,t=>bif Nat.beq d t then v else look r t

def Gf6:Value→PV
 | .bool b=>.bool b
 | .int k n=>.int k n
 | .string s=>.str s
 | .pointer none=>.nilp
 | .slice none 0 0=>.nils
 | .nilFunc=>.nilf
 | _=>.any

def emb:Value→PV
 | .agg cs=>.agg (cs.toList.map Gf6)
 | v=>Gf6 v

def PE (E:Env):Operand→PV
 | .tmp t=>look E t
 | .const v=>emb v
 | .global _=>.any
 | .func f=>.fn f [] []

structure RelE (g:Gh) (H:List AObj) (w:World) (nt:Nat) (E:Env) (a:Act):Prop where
 defers:a.defers=[]
 size:a.tmps.size=nt
 at_:∀ t,VR g H w (look E t) (a.tmps.getD t undef)

structure Rel (g:Gh) (nt n:Nat) (E:Env) (H:List AObj) (a:Act) (w:World):Prop where
 m:RelM g n H w
 e:RelE g H w nt E a

structure GStep (n:Nat) (g:Gh) (H:List AObj) (w:World) (g':Gh) (H':List AObj) (w':World):Prop where
 os:w'.os=w.os
 tape:w'.tape=w.tape
 output:w'.output=w.output
 size:w.heap.size≤w'.heap.size
 F:∀ b,g.F b→g'.F b
 keep:∀ b,g.F b→w'.heap[b]?=w.heap[b]?
 objs:∀ r o,r<n→H[r]?=some o→∃ o',H'[r]?=some o'∧o.ver≤o'.ver∧(o'.ver=o.ver→o'.sz=o.sz∧o'.es.length=o.es.length∧g'.β r=g.β r)

/-! ### first laws -/

theorem GStep.refl (n:Nat) (g:Gh) (H:List AObj) (w:World):GStep n g H w g H w :=
 ⟨rfl,rfl,rfl,Nat.le_refl _,fun _ h=>h,fun _ _=>rfl,fun _ o _ h=>⟨o,h,Nat.le_refl _,fun _=>⟨rfl,rfl,rfl⟩⟩⟩

theorem GStep.trans {n:Nat} {g g' g'':Gh} {H H' H'':List AObj} {w w' w'':World} (h:GStep n g H w g' H' w') (k:GStep n g' H' w' g'' H'' w''):GStep n g H w g'' H'' w'':=by
 refine ⟨k.os.trans h.os,k.tape.trans h.tape,k.output.trans h.output,Nat.le_trans h.size k.size,fun b hb=>k.F b (h.F b hb),fun b hb=>(k.keep b (h.F b hb)).trans (h.keep b hb),?_⟩
 intro r o hr ho
 obtain ⟨o',ho',hv,hs⟩:=h.objs r o hr ho
 obtain ⟨o'',ho'',hv',hs'⟩:=k.objs r o' hr ho'
 refine ⟨o'',ho'',Nat.le_trans hv hv',fun he=>?_⟩
 have e1:o'.ver=o.ver:=by omega
 have e2:o''.ver=o'.ver:=by omega
 obtain ⟨a1,a2,a3⟩:=hs e1
 obtain ⟨b1,b2,b3⟩:=hs' e2
 exact ⟨b1.trans a1,b2.trans a2,b3.trans a3⟩

theorem GStep.less {n m:Nat} {g g':Gh} {H H':List AObj} {w w':World} (h:GStep n g H w g' H' w') (hm:m≤n):GStep m g H w g' H' w' :=
 ⟨h.os,h.tape,h.output,h.size,h.F,h.keep,fun r o hr ho=>h.objs r o (by omega) ho⟩

theorem Gh8 {F:Nat→Prop} {w w':World} (hk:∀ b,F b→w'.heap[b]?=w.heap[b]?) {b o:Nat} (hF:F b):w'.cell? ⟨b,o,none⟩=w.cell? ⟨b,o,none⟩ :=
 World.cell?_of_block (a:=⟨b,o,none⟩) (hk b hF)

theorem VI.mono {F F':Nat→Prop} {w w':World} (hF:∀ b,F b→F' b) (hk:∀ b,F b→w'.heap[b]?=w.heap[b]?) {c:PV} {x:Value} (h:VI F w c x):VI F' w' c x:=by
 induction h with
 | any x=>exact .any x
 | bool b=>exact .bool b
 | int k n=>exact .int k n
 | str s=>exact .str s
 | nilp=>exact .nilp
 | nils=>exact .nils
 | z0 a=>exact .z0 a
 | nilf=>exact .nilf
 | vptr cs j b off u hb hc h1 hv ih=>exact .vptr cs j b off u (hF b hb) (fun i c hi=>(Gh8 hk hb).trans (hc i c hi)) h1 ih
 | vs0 sz a cap=>exact .vs0 sz a cap
 | vs sz es b off cap u hl hb hsz hc h1 hv ih=>exact .vs sz es b off cap u hl (hF b hb) hsz (fun i j c hi=>(Gh8 hk hb).trans (hc i j c hi)) h1 ih
 | agg cs xs hl hv ih=>exact .agg cs xs hl ih
 | tup cs xs hl hv ih=>exact .tup cs xs hl ih
 | fn f cs ds xs ys hl hv hl2 hv2 ih ih2=>exact .fn f cs ds xs ys hl ih hl2 ih2

theorem SL.step {g g':Gh} {o o':AObj} {r off len:Nat} {x:Value} (h:SL g o r off len x) (hs:o'.sz=o.sz) (hl:o'.es.length=o.es.length) (hb:g'.β r=g.β r):SL g' o' r off len x:=by
 unfold SL at *
 rw [hs,hl,hb]
 exact h

theorem VR.step {n:Nat} {g g':Gh} {H H':List AObj} {w w':World} (hs:GStep n g H w g' H' w') {c:PV} {x:Value} (h:VR g H w c x) (hlt:LtN n c):VR g' H' w' c x:=by
 induction h with
 | imm h=>exact .imm (h.mono hs.F hs.keep)
 | ptr r v i j o a ho hv ha =>
  cases hlt with
  | ptr _ _ _ _ hr =>
   obtain ⟨o',ho',hv',hq⟩:=hs.objs r o hr ho
   refine .ptr r v i j o' a ho' (Nat.le_trans hv hv') fun e=>?_
   have e1:o'.ver=o.ver:=by omega
   obtain ⟨q1,q2,q3⟩:=hq e1
   obtain ⟨hi,b,C,hb,rfl⟩:=ha (by omega)
   exact ⟨by omega,b,C,q3.trans hb,by rw [q1]⟩
 | sl r v off len o x ho hv h1 hx =>
  cases hlt with
  | sl _ _ _ _ hr =>
   obtain ⟨o',ho',hv',hq⟩:=hs.objs r o hr ho
   refine .sl r v off len o' x ho' (Nat.le_trans hv hv') h1 fun e=>?_
   obtain ⟨q1,q2,q3⟩:=hq (by omega)
   exact (hx (by omega)).step q1 q2 q3
 | agg cs xs hl hv ih =>
  cases hlt with
  | agg _ hh=>exact .agg cs xs hl fun i c x hc hx=>ih i c x hc hx (hh c (List.mem_of_getElem? hc))
 | tup cs xs hl hv ih =>
  cases hlt with
  | tup _ hh=>exact .tup cs xs hl fun i c x hc hx=>ih i c x hc hx (hh c (List.mem_of_getElem? hc))
 | fn f cs ds xs ys hl hv hl2 hv2 ih ih2 =>
  cases hlt with
  | fn _ _ _ hh hh2=>exact .fn f cs ds xs ys hl (fun i c x hc hx=>ih i c x hc hx (hh c (List.mem_of_getElem? hc))) hl2 (fun i c x hc hx=>ih2 i c x hc hx (hh2 c (List.mem_of_getElem? hc)))

theorem VR.ltN {g:Gh} {H:List AObj} {w:World} {c:PV} {x:Value} (h:VR g H w c x):LtN H.length c:=by
 induction h with
 | imm h =>
  induction h with
  | any x=>exact .any
  | bool b=>exact .bool b
  | int k n=>exact .int k n
  | str s=>exact .str s
  | nilp=>exact .nilp
  | nils=>exact .nils
  | z0 a=>exact .z0
  | nilf=>exact .nilf
  | vptr cs j b off u hb hc h1 hv ih=>exact .vptr cs j
  | vs0 sz a cap=>exact .vs sz []
  | vs sz es b off cap u hl hb hsz hc h1 hv ih=>exact .vs sz es
  | agg cs xs hl hv ih =>
   refine .agg cs fun c hc=>?_
   obtain ⟨i,hi,rfl⟩:=List.getElem_of_mem hc
   exact ih i _ _ (List.getElem?_eq_getElem hi) (List.getElem?_eq_getElem (by omega))
  | tup cs xs hl hv ih =>
   refine .tup cs fun c hc=>?_
   obtain ⟨i,hi,rfl⟩:=List.getElem_of_mem hc
   exact ih i _ _ (List.getElem?_eq_getElem hi) (List.getElem?_eq_getElem (by omega))
  | fn f cs ds xs ys hl hv hl2 hv2 ih ih2 =>
   refine .fn f cs ds (fun c hc=>?_) (fun c hc=>?_)
   ·obtain ⟨i,hi,rfl⟩:=List.getElem_of_mem hc
    exact ih i _ _ (List.getElem?_eq_getElem hi) (List.getElem?_eq_getElem (by omega))
   ·obtain ⟨i,hi,rfl⟩:=List.getElem_of_mem hc
    exact ih2 i _ _ (List.getElem?_eq_getElem hi) (List.getElem?_eq_getElem (by omega))
 | ptr r v i j o a ho hv ha=>exact .ptr r v i j (List.getElem?_eq_some_iff.1 ho).1
 | sl r v off len o x ho hv h1 hx=>exact .sl r v off len (List.getElem?_eq_some_iff.1 ho).1
 | agg cs xs hl hv ih =>
  refine .agg cs fun c hc=>?_
  obtain ⟨i,hi,rfl⟩:=List.getElem_of_mem hc
  exact ih i _ _ (List.getElem?_eq_getElem hi) (List.getElem?_eq_getElem (by omega))
 | tup cs xs hl hv ih =>
  refine .tup cs fun c hc=>?_
  obtain ⟨i,hi,rfl⟩:=List.getElem_of_mem hc
  exact ih i _ _ (List.getElem?_eq_getElem hi) (List.getElem?_eq_getElem (by omega))
 | fn f cs ds xs ys hl hv hl2 hv2 ih ih2 =>
  refine .fn f cs ds (fun c hc=>?_) (fun c hc=>?_)
  ·obtain ⟨i,hi,rfl⟩:=List.getElem_of_mem hc
   exact ih i _ _ (List.getElem?_eq_getElem hi) (List.getElem?_eq_getElem (by omega))
  ·obtain ⟨i,hi,rfl⟩:=List.getElem_of_mem hc
   exact ih2 i _ _ (List.getElem?_eq_getElem hi) (List.getElem?_eq_getElem (by omega))

theorem VR.step' {g g':Gh} {H H':List AObj} {w w':World} (hs:GStep H.length g H w g' H' w') {c:PV} {x:Value} (h:VR g H w c x):VR g' H' w' c x:=h.step hs h.ltN

theorem LtN.mono {n m:Nat} (hm:n≤m) {c:PV} (h:LtN n c):LtN m c:=by
 induction h with
 | any=>exact .any
 | bool b=>exact .bool b
 | int k n=>exact .int k n
 | str s=>exact .str s
 | nilp=>exact .nilp
 | nils=>exact .nils
 | z0=>exact .z0
 | nilf=>exact .nilf
 | vptr cs j=>exact .vptr cs j
 | vs sz es=>exact .vs sz es
 | ptr r v i j h=>exact .ptr r v i j (by omega)
 | sl r v off len h=>exact .sl r v off len (by omega)
 | agg cs h ih=>exact .agg cs ih
 | tup cs h ih=>exact .tup cs ih
 | fn f cs ds h h2 ih ih2=>exact .fn f cs ds ih ih2

theorem RelE.step {g g':Gh} {H H':List AObj} {w w':World} {nt:Nat} {E:Env} {a:Act} (hs:GStep H.length g H w g' H' w') (h:RelE g H w nt E a):RelE g' H' w' nt E a :=
 ⟨h.defers,h.size,fun t=>(h.at_ t).step' hs⟩

theorem VR.any {g:Gh} {H:List AObj} {w:World} (x:Value):VR g H w .any x:=.imm (.any x)

theorem Gi1 (F:Nat→Prop) (w:World) (v:Value):VI F w (Gf6 v) v:=by
 unfold Gf6
 split <;> first | exact .bool _ | exact .int _ _ | exact .str _ | exact .nilp | exact .nils | exact .nilf | exact .any _

theorem Glb (F:Nat→Prop) (w:World) (v:Value):VI F w (emb v) v:=by
 unfold emb
 split
 ·rename_i cs
  have:=VI.agg (F:=F) (w:=w) (cs.toList.map Gf6) cs.toList (by simp) (fun i c x hc hx=>by
   rw [List.getElem?_map,hx] at hc
   simp at hc
   subst hc
   exact Gi1 F w x)
  simpa using this
 ·exact Gi1 F w v

theorem RelE.eval {g:Gh} {H:List AObj} {w:World} {nt:Nat} {E:Env} {a:Act} (h:RelE g H w nt E a) (x:Operand):VR g H w (PE E x) (a.eval x):=by
 cases x with
 | tmp t=>exact h.at_ t
 | const v=>exact .imm (Glb _ _ _)
 | global b=>exact .any _
 | func f=>exact .imm (.fn f [] [] [] [] rfl (fun _ _ _ h=>by simp at h) rfl (fun _ _ _ h=>by simp at h))

theorem Wt (d:Nat) (v:PV) (E:Env):look ((d,v)::E) d=v:=by simp [look]
theorem Xm {d t:Nat} (v:PV) (E:Env) (h:d≠t):look ((d,v)::E) t=look E t:=by
 have:Nat.beq d t=false:=by
  cases hh:Nat.beq d t with
  | false=>rfl
  | true=>exact absurd (Nat.eq_of_beq_eq_true hh) h
 simp [look,this]

theorem RelE.put {g:Gh} {H:List AObj} {w:World} {nt:Nat} {E:Env} {a:Act} (h:RelE g H w nt E a) {d:Nat} (hd:d<nt) {v:PV} {x:Value} (hv:VR g H w v x):RelE g H w nt ((d,v)::E) (a.put (some d) x):=by
 refine ⟨h.defers,by simp [Act.put,h.size],fun t=>?_⟩
 by_cases ht:d=t
 ·subst ht
  rw [Wt]
  have hds:d<a.tmps.size:=by rw [h.size];exact hd
  simpa [Act.put,hds] using hv
 ·rw [Xm v E ht]
  have:=h.at_ t
  simpa [Act.put,Array.getElem?_setIfInBounds_ne ht] using this

def Gas (E:Env):Option Nat→PV→Env
 | some d,v=>(d,v)::E
 | none,_=>E
def Gcc (nt:Nat):Option Nat→Bool
 | some d=>Nat.blt d nt
 | none=>true

theorem RelE.putO {g:Gh} {H:List AObj} {w:World} {nt:Nat} {E:Env} {a:Act} (h:RelE g H w nt E a) {d:Option Nat} (hd:Gcc nt d=true) {v:PV} {x:Value} (hv:VR g H w v x):RelE g H w nt (Gas E d v) (a.put d x):=by
 cases d with
 | none=>exact h
 | some d=>exact h.put (by simpa [Gcc] using hd) hv

def Gnb:Env→Env→Prop
 | [],_=>True
 | (t,v)::r,E=>look E t=v∧Gnb r E
theorem Gnb.look {E' E:Env} (h:Gnb E' E) (t:Nat):look E' t = .any∨look E' t=look E t:=by
 induction E' with
 | nil=>exact .inl rfl
 | cons p r ih =>
  obtain ⟨d,v⟩:=p
  by_cases hd:d=t
  ·subst hd;rw [Wt];exact .inr h.1.symm
  ·rw [Xm v r hd];exact ih h.2
theorem RelE.sub {g:Gh} {H:List AObj} {w:World} {nt:Nat} {E E':Env} {a:Act} (h:RelE g H w nt E a) (hs:Gnb E' E):RelE g H w nt E' a :=
 ⟨h.defers,h.size,fun t=>by
  rcases hs.look t with e | e
  ·rw [e];exact .any _
  ·rw [e];exact h.at_ t⟩

end Go.Aml
