/- For TopWays, part 4. -/
import Derived.Test.YtfljhldgncdifaaGreatVC
import Derived.Lib.SliceRun
import Derived.Laws.Entries
import Derived.RangeFuncNested
import Derived.RangeFuncBound
import Derived.RangeFuncCalls
import Derived.RangeFuncLeaves
import Derived.RangeFuncBox
import Derived.WalkKit
import Derived.OwnWalkIn
import Derived.TacticsInMore
import Derived.LoopNIn
import Derived.LoopIn
import Derived.Stop.RegionWithIn
import Derived.BigRegionIn
set_option linter.defProp false
set_option linter.unusedVariables false
set_option linter.unusedSimpArgs false
set_option maxHeartbeats 0
set_option maxRecDepth 100000
set_option maxHeartbeats 2000000
open Option renaming some → c3, none → dT
open List renaming getElem?_eq_getElem → c4, getElem?_map → dk, eq_nil_of_length_eq_zero → e5, getD_eq_getElem?_getD → ea, getElem?_eq_some_iff → ef, not_mem_nil → ej, map_eq_nil_iff → eE, append_toArray → eH, size_toArray → ga, push_toArray → gb, length_cons → gv, cons_append → gx, length_eq_one_iff → gy, length_nil → h6, nil_append → h7, length_map → h8, mem_cons_of_mem → h9, getElem?_range → hz, mem_cons_self → hB, mem_map → hD, all_eq_true → hL
open Array renaming getElem?_eq_some_iff → c5, getD_eq_getD_getElem? → dd, getElem?_setIfInBounds_self_of_lt → dv, replicate_succ → ey, replicate_zero → ez, replicate → hM
open Go.Fence renaming wide → c6
open Go.Proofs.Tryz renaming prog → c7, func211 → hS, func102 → hU, func269 → ie, func326 → ih, func96 → j1, func97 → j2, func99 → j3, func98 → j4
open Go.World renaming putObj_heap_other → dt, alloc_heap_new → e6, putObj_heap_same → ei, size_alloc → hI
open Nat renaming le_of_ble_eq_true → e0, zero_le → e4, beq → ee, ble → ev, le_trans → fe, le_refl → hq, lt_or_ge → hY
open Bool renaming and_eq_true → ec
open Go.RowKit.Below renaming heap_alloc → eo, refl → j6
open Go.Result renaming andThen_ok → ft
open Go.Oper renaming semAt_some → h5, semAt_eq → hQ, wp → j7
open Go.Value renaming int → hK
open Option.some renaming inj → hP
open Go.Sem renaming run_bind → hX
open Go.Code renaming region → j5
namespace Go.X.T
open Go Go.Aml Go.Bml Go.X Go.Proofs
def an3{a:Nat}{d:IntKind}{e:DT a=Int}(f:bh a=fA DT d e)(g:∀c,(BT.ty a).enc c= .int d (dA e c):=by(intro c;rfl))(b:BT.sz a=1:=by rfl)(h:cH c7 a=c3 1:=by kernel_rfl):cK c7 BT a (bh a):=by
 rw[f];exact vR g b h
def amR{a c:Nat}{e:DT a=List (DT c)}(h:bh a=bJ DT c e)(i:∀d,(BT.ty a).enc d= .vs (BT.sz c) ((dA e d).map (BT.ty c).enc):=by(intro d;rfl))(b:BT.sz a=1:=by rfl)(j:cH c7 a=c3 1:=by kernel_rfl)(g:BT.el a=c:=by rfl)(f:BT.flat a=false:=by rfl):cK c7 BT a (bh a):=by
 rw[h];exact iA i b j g f
def amd{a:Nat}(b:bf a=bh a)(c:cK c7 BT a (bh a)):cN c7 BT a (bf a):=by
 rw[b];exact c.ok
def O0:List Nat:=[3,4,5,22,27,28,31,32,33,36,41,44,53,54,62,67,95,107,134,138,159,161,167,168,179,181,247,272,309]
def eY:∀a,a∈O0->cK c7 BT a (bh a):=F2 O0 ⟨an3 (rfl:bh 3=fA DT .i64 rfl),(show cK c7 BT 4 (bh 4) from(show bh 4=nE DT rfl from rfl)▸agM (λ_=>rfl) rfl (by kernel_rfl)),an3 (rfl:bh 5=fA DT .u8 rfl),amR (rfl:bh 22=bJ DT 3 rfl),amR (rfl:bh 27=bJ DT 117 rfl),amR (rfl:bh 28=bJ DT 115 rfl),amR (rfl:bh 31=bJ DT 88 rfl),amR (rfl:bh 32=bJ DT 120 rfl),(show cK c7 BT 33 (bh 33) from(show bh 33=lx DT 22 3 rfl rfl from rfl)▸alG (λ_=>rfl) (λ_=>rfl) rfl (by kernel_rfl) rfl rfl),amR (rfl:bh 36=bJ DT 90 rfl),amR (rfl:bh 41=bJ DT 101 rfl),amR (rfl:bh 44=bJ DT 140 rfl),amR (rfl:bh 53=bJ DT 75 rfl),amR (rfl:bh 54=bJ DT 83 rfl),amR (rfl:bh 62=bJ DT 65 rfl),an3 (rfl:bh 67=fA DT .i64 rfl),amR (rfl:bh 95=bJ DT 5 rfl),amR (rfl:bh 107=bJ DT 97 rfl),(show cK c7 BT 134 (bh 134) from(show bh 134=iR DT rfl from rfl)▸Lq (λ_=>rfl) rfl (by kernel_rfl)),amR (rfl:bh 138=bJ DT 142 rfl),amR (rfl:bh 159=bJ DT 161 rfl),(show cK c7 BT 161 (bh 161) from(show bh 161=iR DT rfl from rfl)▸Lq (λ_=>rfl) rfl (by kernel_rfl)),amR (rfl:bh 167=bJ DT 174 rfl),amR (rfl:bh 168=bJ DT 4 rfl),an3 (rfl:bh 179=fA DT .u64 rfl),an3 (rfl:bh 181=fA DT .u64 rfl),amR (rfl:bh 247=bJ DT 251 rfl),amR (rfl:bh 272=bJ DT 275 rfl),amR (rfl:bh 309=bJ DT 312 rfl),trivial⟩
def alp{b:Nat}{d:Type}{ns:List Nat}{mk:bi DT ns->d}{f:d->bi DT ns}{g:DT b=d}(k:bf b=cw DT bh ns mk f g)(n:∀a,a∈ns->a∈O0:=by exact e8 (by decide))(o:∀c,f (mk c)=c:=by(intro c;rfl))(p:∀e,(BT.ty b).enc e= .agg (mJ BT ns (f (dA g e))):=by(intro e;rfl))(m:BT.sz b=ns.length:=by rfl)(l:0<ns.length:=by decide)(h:cH c7 b=c3 ns.length:=by kernel_rfl)(i:BT.flat b=true->∀a,a∈ns->BT.flat a=true:=by decide):cN c7 BT b (bf b):=by
 rw[k];exact eS (λa j=>eY a (n a j)) o p m l h i
def RH:List Nat:=[3,4,5,22,27,28,30,31,32,33,35,36,38,40,41,43,44,46,48,50,52,53,54,56,60,62,65,67,75,83,88,90,95,97,101,106,107,115,117,120,134,138,140,142,144,159,161,167,168,170,174,179,181,222,230,247,251,272,275,283,309,312,333]
def aqD:∀a,a∈RH->cN c7 BT a (bf a):=F2 RH ⟨amd rfl (eY 3 (by decide)),amd rfl (eY 4 (by decide)),amd rfl (eY 5 (by decide)),amd rfl (eY 22 (by decide)),amd rfl (eY 27 (by decide)),amd rfl (eY 28 (by decide)),alp (rfl:bf 30=cw DT bh [27,28] aof aop rfl),amd rfl (eY 31 (by decide)),amd rfl (eY 32 (by decide)),amd rfl (eY 33 (by decide)),alp (rfl:bf 35=cw DT bh [27,28,3,31,22,32,22,22,33] aow aoG rfl),amd rfl (eY 36 (by decide)),alp (rfl:bf 38=cw DT bh [22,22,22,3] aoM ao3 rfl),alp (rfl:bf 40=cw DT bh [22,3,3] apd ape rfl),amd rfl (eY 41 (by decide)),alp (rfl:bf 43=cw DT bh [22,22] apx apI rfl),amd rfl (eY 44 (by decide)),alp (rfl:bf 46=cw DT bh [44] apL apQ rfl),alp (rfl:bf 48=cw DT bh [3,22] aqd aqm rfl),alp (rfl:bf 50=cw DT bh [22,22,4] aqs aqz rfl),alp (rfl:bf 52=cw DT bh [3,3,3,3] aqB aqN rfl),amd rfl (eY 53 (by decide)),amd rfl (eY 54 (by decide)),alp (rfl:bf 56=cw DT bh [27,28,3,31,22,32,22,22,33,27,28,36,22,22,22,3,22,3,3,41,41,22,22,44,3,22,22,22,4,3,3,3,3,44,53,54] aqO aqP rfl),alp (rfl:bf 60=cw DT bh [27,28,32,22,22,36,22,22,22,3,22,3,3,22] aqR aqS rfl),amd rfl (eY 62 (by decide)),alp (rfl:bf 65=cw DT bh [3,3,3,3] aqU aqV rfl),amd rfl (eY 67 (by decide)),alp (rfl:bf 75=cw DT bh [3,3,3,3,3,4,4,3,3] aqW aqX rfl),alp (rfl:bf 83=cw DT bh [3,3,3,3,3,67,22] aqY aq0 rfl),alp (rfl:bf 88=cw DT bh [3,3,3] aq1 aq2 rfl),alp (rfl:bf 90=cw DT bh [3,3] aq3 aq7 rfl),amd rfl (eY 95 (by decide)),alp (rfl:bf 97=cw DT bh [3,3,95] aq8 aq9 rfl),alp (rfl:bf 101=cw DT bh [3,3,3,22] arb ard rfl),alp (rfl:bf 106=cw DT bh [95,3] are arh rfl),amd rfl (eY 107 (by decide)),alp (rfl:bf 115=cw DT bh [3,3,3,3,4,4,3,3,3,3] ari arj rfl),alp (rfl:bf 117=cw DT bh [3,4] ark arl rfl),alp (rfl:bf 120=cw DT bh [22,3,3,3] arn aro rfl),amd rfl (eY 134 (by decide)),amd rfl (eY 138 (by decide)),alp (rfl:bf 140=cw DT bh [22,138] arq art rfl),alp (rfl:bf 142=cw DT bh [3,22] aru arv rfl),alp (rfl:bf 144=cw DT bh [3,3] arw arx rfl),amd rfl (eY 159 (by decide)),amd rfl (eY 161 (by decide)),amd rfl (eY 167 (by decide)),amd rfl (eY 168 (by decide)),alp (rfl:bf 170=cw DT bh [3,167,168,168] ary arA rfl),alp (rfl:bf 174=cw DT bh [3,3,3,3] arD arF rfl),amd rfl (eY 179 (by decide)),amd rfl (eY 181 (by decide)),alp (rfl:bf 222=cw DT bh [3,3,3] arG arH rfl),alp (rfl:bf 230=cw DT bh [27,28,36,22] arI arL rfl),amd rfl (eY 247 (by decide)),alp (rfl:bf 251=cw DT bh [3,3,3,3] arN arO rfl),amd rfl (eY 272 (by decide)),alp (rfl:bf 275=cw DT bh [3,3] arP arQ rfl),alp (rfl:bf 283=cw DT bh [3,3] arR arS rfl),amd rfl (eY 309 (by decide)),alp (rfl:bf 312=cw DT bh [3,3,3,3] arT arV rfl),alp (rfl:bf 333=cw DT bh [22,3,3,3,3,3,3,22,22,4,44,3,3] arW arX rfl),trivial⟩
def dM:cU c7 BT:=afw bf (λ_=>rfl) (λ_=>rfl) λa=>by
 rcases ahP (px IQ (a/16)) a with b |b
 .refine aqD a ?_
  obtain⟨p,j,rfl⟩:=hD.1 b;obtain⟨f,e,d⟩:=P5 _ _ _ j;have h:p.1∈(IQ.flatten.map λp=>p.1):=hD.2 ⟨p,List.mem_flatten.2 ⟨f,e,d⟩,rfl⟩;exact h
 .have i:Du a=⟨Empty,λ_=>.any⟩:=b;refine amI (λg=>?_) (amT _ _ (Qa _ _ (by decide)))
  have c:(Du a).T:=g;rw[i] at c;exact c.elim
def mixed:c7.follows .mixedOrders=true:=by kernel_rfl
abbrev FT(a:aq BT):Prop:=Fits c7 BT a
def f0:∀a,a∈([]:List (aq BT))->FT a:=λ_ b=>(ej b).elim
def fc{d:aq BT}{c:List (aq BT)}(f:FT d)(e:∀a,a∈c->FT a):∀a,a∈d::c->FT a:=λa b=>by
 rcases List.mem_cons.1 b with rfl |b
 .exact f
 .exact e a b
def chk(a:aq BT)(fn:Func):Bool:=fn.body.isSome&&!(fn.name== "runtime.NumGoroutine")&&ev a.na fn.ntmps&&gB fn.ntmps (fn.body.getD .skip)&&ev a.low (len a.par.dF)&&lY 0 fn.results.toList.length a.az.dE
def kf{L:Lp}{a:Lp->aq BT}{e:List (aq BT)}(hs:List (Nat×Hn))(l:∀a,a∈e->FT a){fn:Func}(k:c7.funcs[(a L).cO]?=c3 fn)(c:chk (a L) fn=true:=by kernel_rfl)
 (n:∀b,gl L BT c7 e (a L) fn.results.toList (fn.body.getD .skip) hs b=(a L).F b:=by(intro b;kernel_rfl)):FT (a L):=by
 unfold chk at c;rw[ec,ec,ec,ec,ec] at c;obtain⟨⟨⟨⟨⟨j,i⟩,g⟩,f⟩,m⟩,h⟩:=c;obtain⟨code,d⟩:=Option.isSome_iff_exists.1 j;refine FA (L:=L) (hs:=hs) mixed dM l k d (by simpa using i) (rs:=fn.results.toList) rfl g ?_ m h λb=>?_
 .rw[d] at f;exact f
 .have:=n b;rw[d] at this;exact this
end Go.X.T
namespace Go.X
open Go Go.Aml Go.Bml
section
variable {P:Program}{B:Tb}
def ahH{p H:Nat}{m:Env}{l:List aO}{d:Option Nat}{f t r q:TypeId}{o:String}{s:Array Edge}{c:Operand}{sz:Nat}{es:List PV}(v:PE m c= .vs sz es)(A:dU P f=c3 q)(G:fL p d=true):
 Hk P p H ⟨d,.binOp .eql f c (.const (.slice dT 0 0)) t,r,o,s,dT⟩ (λy w=>∃b,(b=true->es=[])/\y=li m d (.bool b)/\w=l) m l:=by
 intro g e i k K J u;have n:=v▸k.e.eval c;have x:∃a h cap,e.eval c= .slice a h cap/\(a.isNone=true->es=[]):=by
  generalize e.eval c=z at n;cases n with
  |aW j=>
   cases j with
   |eX _ a cap=>exact⟨a,0,cap,rfl,λ_=>rfl⟩
   |vs _ _ b D cap=>exact⟨c3 ⟨b,D,dT⟩,_,cap,rfl,λj=>by cases j⟩
 obtain⟨a,h,cap,I,E⟩:=x;have C:(execOp e.eval ⟨d,.binOp .eql f c (.const (.slice dT 0 0)) t,r,o,s,dT⟩).run P i= .ok (.value (.bool a.isNone)) i:=by
  have F:e.eval (.const (.slice dT 0 0))= .slice dT 0 0:=rfl;simp[execOp,I,F,eqGuard_at_slice,Lib.run_eql_slice_nil i f q a h cap 0 0 (gD A)]
 unfold j7;rw[C];exact u _ _ ⟨_,l,g,⟨a.isNone,E,rfl,rfl⟩,⟨k.m,k.e.tn G (.bool _)⟩,GStep.refl _ _ _ _⟩
def lc(s:P.follows .mixedOrders=true)(o:cU P B){L:Lp}{c:aq B}{fn:Func}{l i h:Code}{rs:List ResultVar}{x V O N a:TypeId}{D H:String}{S aa:Array Edge}{r n:Nat}{xs:bi B.D c.par.bX->List (B.D n)}
 (M:P.funcs[c.cO]?=c3 fn) (A:fn.body=c3 (.seq l (.seq (.seq (.region r [⟨c3 3,.move (.tmp 0),O,D,S,dT⟩,⟨c3 4,.binOp .eql x (.tmp 3) (.const (.slice dT 0 0)) V,N,H,aa,dT⟩].toArray false) i) h)))
 (K:(fn.name== "runtime.NumGoroutine")=false) (R:fn.results=rs.toArray) (T:ev c.na fn.ntmps=true) (E:lY 0 rs.length c.az.dE=true) (Z:c.low=0) (I:dU P x=c3 a) (v:ev 5 fn.ntmps=true)
 (G:gB fn.ntmps l=true) (Q:gB fn.ntmps i=true) (W:gB fn.ntmps h=true)
 (C:∀d,cz B c.par d=⟨[(0,.row n (xs d))],[]⟩)
 (h0:∀d,exec L B P [] 0 [] l 1 (λa e=>bif ee a 0 then c3 e else dT) ⟨[(0,.row n (xs d))],[]⟩=c3 ⟨[(2,.bg),(0,.row n (xs d))],[]⟩)
 (X:∀d,xs d=[]->exec L B P [] 0 [] i 1 (λa e=>bif ee a 0 then exec L B P [] 0 [] h 1 (kL P c rs) e else kL P c rs a e) ⟨[(4,.bool true),(0,.row n (xs d))],[]⟩=(c.F d).bind c3)
 (U:∀d,exec L B P [] 0 [] i 1 (λa e=>bif ee a 0 then exec L B P [] 0 [] h 1 (kL P c rs) e else kL P c rs a e) ⟨[(4,.bool false),(0,.row n (xs d))],[]⟩=(c.F d).bind c3):Fits P B c:=by
 refine ti o M A K R T E λd m u=>?_
 rw[C,Z];have t:∀c,c∈([]:List (aq B))->Fits P B c:=λ_ q=>(ej q).elim
 have v:5<=fn.ntmps:=e0 v;have w:∀j,j<5->fL fn.ntmps (c3 j)=true:=λj f=>by
  exact Nat.ble_eq_true_of_le (show j+1<=fn.ntmps by omega)
 refine rN ((gO s o t l 1 _ _ _ (h0 d) G (e4 _)).mono λa k H1 g=>?_)
 have Y:∀a (k:Env) (H1:List aO),qP B (λa e=>bif ee a 0 then exec L B P [] 0 [] h 1 (kL P c rs) e else kL P c rs a e) m a k H1->Ce (eT P fn.ntmps 0 h (qP B (kL P c rs) m)) (qP B (kL P c rs) m) a k H1:=by
  intro a k H1 g;cases a with
  |normal=>
   obtain⟨p,f,rfl,rfl⟩:=g;exact(gO s o t h 1 _ _ _ f W (e4 _)).mono nP
  |ret=>exact g
  |exit r=>exact g
  |_=>exact g
 cases a with
 |normal=>
  obtain⟨p,_,f,rfl,rfl⟩:=g;injection f with f
  subst f;refine rN (rN (Lc (aae Pt (w 3 (by omega)) (KR rfl (ahH (sz:=B.sz n) (es:=(xs d).map (B.ty n).enc) (by rfl) I (w 4 (by omega))) ?_))))
  rintro ab H2 ⟨b,F,rfl,rfl⟩;refine Of ?_
  refine aht (aU B [(4,.bool b),(0,.row n (xs d))]) ⟨rfl,rfl,trivial⟩ ?_
  have J:exec L B P [] 0 [] i 1 (λa e=>bif ee a 0 then exec L B P [] 0 [] h 1 (kL P c rs) e else kL P c rs a e) ⟨[(4,.bool b),(0,.row n (xs d))],[]⟩=c3 m:=by
   cases b with
   |true=>rw[X d (eE.1 (F rfl)),u];rfl
   |false=>rw[U d,u];rfl
  exact(gO s o t i 1 _ _ _ J Q (e4 _)).mono λa z y q=>Y a z y (nP a z y q)
 |ret=>obtain⟨p,_,f,_⟩:=g;cases f
 |exit r=>obtain⟨p,_,f,_⟩:=g;cases f
 |_=>exact g.elim
end
end Go.X
namespace Go.X.T
open Go Go.Aml Go.Bml Go.X Go.Proofs
def oh(L:Lp):FT (RL L):=lc (L:=L) (n:=117) (xs:=λa=>a) (rs:=[.tmp 2]) mixed dM j1 rfl rfl rfl rfl rfl rfl rfl rfl rfl rfl rfl (λ_=>rfl) (λ_=>by kernel_rfl) (λa b=>by cases b;kernel_rfl) (λa=>by kernel_rfl)
def sP(L:Lp):FT (Mq L):=lc (L:=L) (n:=115) (xs:=λa=>a) (rs:=[.tmp 2]) mixed dM j2 rfl rfl rfl rfl rfl rfl rfl rfl rfl rfl rfl (λ_=>rfl) (λ_=>by kernel_rfl) (λa b=>by cases b;kernel_rfl) (λa=>by kernel_rfl)
def Md(L:Lp):FT (Pv L):=lc (L:=L) (n:=88) (xs:=λa=>a) (rs:=[.tmp 2]) mixed dM hS rfl rfl rfl rfl rfl rfl rfl rfl rfl rfl rfl (λ_=>rfl) (λ_=>by kernel_rfl) (λa b=>by cases b;kernel_rfl) (λa=>by kernel_rfl)
def iY(L:Lp):FT (PI L):=lc (L:=L) (n:=3) (xs:=λa=>a) (rs:=[.tmp 2]) mixed dM j3 rfl rfl rfl rfl rfl rfl rfl rfl rfl rfl rfl (λ_=>rfl) (λ_=>by kernel_rfl) (λa b=>by cases b;kernel_rfl) (λa=>by kernel_rfl)
def oH(L:Lp):FT (OB L):=lc (L:=L) (n:=3) (xs:=λa=>a) (rs:=[.tmp 2]) mixed dM j3 rfl rfl rfl rfl rfl rfl rfl rfl rfl rfl rfl (λ_=>rfl) (λ_=>by kernel_rfl) (λa b=>by cases b;kernel_rfl) (λa=>by kernel_rfl)
def O8(L:Lp):FT (C69 L):=lc (L:=L) (n:=88) (xs:=λa=>a) (rs:=[.tmp 2]) mixed dM hS rfl rfl rfl rfl rfl rfl rfl rfl rfl rfl rfl (λ_=>rfl) (λ_=>by kernel_rfl) (λa b=>by cases b;kernel_rfl) (λa=>by kernel_rfl)
def G7(L:Lp):FT (C72 L):=lc (L:=L) (n:=90) (xs:=λa=>a) (rs:=[.tmp 2]) mixed dM j4 rfl rfl rfl rfl rfl rfl rfl rfl rfl rfl rfl (λ_=>rfl) (λ_=>by kernel_rfl) (λa b=>by cases b;kernel_rfl) (λa=>by kernel_rfl)
def IE(L:Lp):FT (C76 L):=lc (L:=L) (n:=75) (xs:=λa=>a) (rs:=[.tmp 2]) mixed dM hU rfl rfl rfl rfl rfl rfl rfl rfl rfl rfl rfl (λ_=>rfl) (λ_=>by kernel_rfl) (λa b=>by cases b;kernel_rfl) (λa=>by kernel_rfl)
def yo(L:Lp):FT (abt L):=lc (L:=L) (n:=115) (xs:=λa=>a) (rs:=[.tmp 2]) mixed dM j2 rfl rfl rfl rfl rfl rfl rfl rfl rfl rfl rfl (λ_=>rfl) (λ_=>by kernel_rfl) (λa b=>by cases b;kernel_rfl) (λa=>by kernel_rfl)
def akq(L:Lp):FT (aoO L):=lc (L:=L) (n:=117) (xs:=λa=>a) (rs:=[.tmp 2]) mixed dM j1 rfl rfl rfl rfl rfl rfl rfl rfl rfl rfl rfl (λ_=>rfl) (λ_=>by kernel_rfl) (λa b=>by cases b;kernel_rfl) (λa=>by kernel_rfl)
def apm(L:Lp):FT (Vb L):=lc (L:=L) (n:=140) (xs:=λa=>a) (rs:=[.tmp 2]) mixed dM Tryz.func236 rfl rfl rfl rfl rfl rfl rfl rfl rfl rfl rfl (λ_=>rfl) (λ_=>by kernel_rfl) (λa b=>by cases b;kernel_rfl) (λa=>by kernel_rfl)
def anc(L:Lp):FT (afV L):=lc (L:=L) (n:=75) (xs:=λa=>a) (rs:=[.tmp 2]) mixed dM hU rfl rfl rfl rfl rfl rfl rfl rfl rfl rfl rfl (λ_=>rfl) (λ_=>by kernel_rfl) (λa b=>by cases b;kernel_rfl) (λa=>by kernel_rfl)
def VN(L:Lp):FT (aeW L):=lc (L:=L) (n:=90) (xs:=λa=>a) (rs:=[.tmp 2]) mixed dM j4 rfl rfl rfl rfl rfl rfl rfl rfl rfl rfl rfl (λ_=>rfl) (λ_=>by kernel_rfl) (λa b=>by cases b;kernel_rfl) (λa=>by kernel_rfl)
end Go.X.T
namespace Go.X
open Go Go.Aml Go.Bml Go.RowKit
section
variable {P:Program}{B:Tb}
def PP{g u:Nat}{h:Oper}{b:Act}{d:World}{m k:Act->World->Prop}{j:Exit->Act->World->Prop}(s:∀c,h.op≠ .defer c)(e:∀b d,m b d->k b d)(a:h.wp P b d m j):h.wpIn (c6.inRound g) u P b d k j:=by
 refine⟨λf _=>trivial,?_⟩
 rw[show(c6.inRound g).round=c3 g from rfl,h5 g b.eval h s];unfold j7 at a;generalize (execOp b.eval h).run P d=r at a;cases r with
 |ok q t=>
  cases q with
  |value v=>exact e _ _ a
  |skip=>exact e _ _ a
  |defer w=>exact e _ _ a
  |enter f args=>
   refine⟨λa=>by simp[c6] at a,(CallsIn.inRound g (callsIn_wide.2 a)).mono λo l i=>?_⟩
   cases o with
   |returned v=>exact e _ _ i
   |panicked c=>exact i
   |outgrown=>exact i
  |row row args=>
   refine⟨λa=>by simp[c6] at a,λc n _=>?_⟩
   obtain⟨v,l,i,p⟩:=a c n;exact⟨v,l,e _ _ i,stepsIn_wide.2 p⟩
  |_=>exact a.elim
 |halt c t=>
  cases c with
  |panic v=>exact a
  |_=>exact a.elim
def Mn{l n:Nat}{all:Array Oper}{g:Exit->Act->World->Prop}(h:∀c b,¬g .outgrown c b):∀(e:List Oper) (c:Act) (b:World),(∀d,d∈e->∀p,d.op≠ .defer p)->wpList P all g e c b->wpListIn (c6.inRound l) n P all g e c b
 |[],_,_,_,a=>a
 |d::e,c,b,j,a=>by
  unfold wpList at a;unfold wpListIn;have i:=λc b=>Mn (l:=l) (n:=n) (all:=all) h e c b λd m=>j d (h9 _ m)
  split at a
  .rename_i f;rw[if_pos f];rcases a with a |⟨_,o,k,a⟩
   .exact PP (j d hB) i a
   .exact(h o k a).elim
  .rename_i f;rw[if_neg f];exact⟨λ_ _=>trivial,i _ _ a⟩
def GStep.lF{n:Nat}{t g:Gh}{H0 H:List aO}{o d w':World}(h:Bml.GStep n t H0 o g H d)(m:bF g H d)(K:w'.os=d.os)(ht:w'.tape=d.tape)(k:w'.output=d.output)(u:d.heap.size<=w'.heap.size)
 (s:∀b,g.F b->w'.heap[b]?=d.heap[b]?) (Q:∀r b C,g.β r=c3 (b,C)->w'.heap[b]?=d.heap[b]?) (O:∀b,b<o.heap.size->w'.heap[b]?=d.heap[b]?):Bml.GStep n t H0 o g H w'/\bF g H w':=by
 refine⟨⟨K.trans h.os,ht.trans h.tape,k.trans h.output,fe h.size u,h.F,λb a=>?_,λb a J=>(O b a).trans (h.rest b a J),h.oY,h.oZ,h.dF⟩,⟨λb a=>Nat.lt_of_lt_of_le (m.fb b a) u,m.inj,m.m8,λr j k=>?_⟩⟩
 .exact(s b (h.F b a)).trans (h.jh b a)
 .obtain⟨L,D,l⟩:=m.obj r j k;refine⟨L,D,?_⟩
  cases a:g.β r with
  |none=>rw[a] at l;exact l
  |some y=>
   obtain⟨b,C⟩:=y;rw[a] at l;obtain⟨N,cells,M,I,A,R,F⟩:=l;refine⟨N,cells,by rw[Q r b C a];exact M,I,A,R,λi G c w=>?_⟩
   obtain⟨E,u1,u2,u3⟩:=F i G c w;exact⟨E,u1,u2,VR.uz (f:=λr v=>∃j,H[r]?=c3 j/\v<=j.aF) (λ_ a=>a) s (λr v j _ k x=>⟨j,k,x,λe=>⟨e,rfl,rfl,rfl⟩⟩) u3 u3.wf⟩
def vy(g:Nat)(P:Program)(l:Nat)(j:Array Value)(i:List Value)(k:World->Prop):Prop:=
 ∀(f:Nat) (c:Nat->World->Prop) (a:World),(∀b a,c b a->k a)->(∀b a d,c b a->Below a.heap.size a d->c b d)->
  (∀b h a,i[b]?=c3 h->c b a->YieldAt c6 (g -1) P f #[h] a λe d=>e= .returned (.bool true)/\c (b+1) d)->
  c 0 a->CallsIn c6 g P l (#[.func (.yield f) #[] #[]]++j) a λe d=>(∃v,e= .returned v)/\c i.length d
def Pq{n:Nat}{g:Operand}{ps:Array Tmp}{assign body:Code}{Q:Exit->Act->World->Prop}{a:Act}{w:World}
 {gf:Nat} {lb:Array Value} (hg:a.eval g= .func (.func gf) #[] lb) (eg:∀args w,(callFunc gf args).run P w= .ok (.enter gf args) w)
 {xs:List Value} {Rd:World->Prop} (hseq:vy (n -1) P gf lb xs Rd) (hps:ps.size=1)
 (I:Nat->World->Prop) (hIr:∀k W,I k W->Rd W)
 (hIp:∀k W r o',I k W->W.heap[w.heap.size+1]?=c3 (.loop r)->o'.isCells=false->I k (W.putObj (w.heap.size+1) o'))
 (hIb:∀k W W',I k W->w.heap.size+2<=W.heap.size->Below W.heap.size W W'->I k W')
 (h0:∀r,I 0 ((w.alloc (.deferred (c3 []))).alloc (.loop r)))
 (Im:Nat->Value->Act->World->Prop)
 (hImp:∀k x a1 W r o',Im k x a1 W->W.heap[w.heap.size+1]?=c3 (.loop r)->o'.isCells=false->Im k x a1 (W.putObj (w.heap.size+1) o'))
 (hassign:∀(l k:Nat) (x:Value) (W:World) (K:Act->World->Prop),xs[k]?=c3 x->I k W->(∀a1 W1,KeepsOthers W W1->Im k x a1 W1->K a1 W1)->
  assign.wpIn (c6.inRound l) (n -1 -1) P (Exit.then K (λ_ _ _=>False)) {tmps:=(ps.zip #[x]).foldl (λt (p,v)=>t.setIfInBounds p v) a.tmps,defers:=[]} W)
 (hbody:∀(l k:Nat) (x:Value) (a1:Act) (W:World),xs[k]?=c3 x->Im k x a1 W->body.wpIn (c6.inRound l) (n -1 -1) P (λe _ W'=>e= .normal/\KeepsOthers W W'/\I (k+1) W') a1 W)
 (hdone:∀(W:World),I xs.length W->W.heap[w.heap.size]?=c3 (.deferred (c3 []))->Q .normal {a with defers:={target:=.collected w.heap.size,args:=#[]}::a.defers} W):
 (Code.rangeFunc g ps assign body).wpIn c6 n P Q a w:=by
 refine wpIn_rangeFunc ?_
 intro fn hfn;obtain⟨rec,hrec⟩:∃rec:LoopState->Option Code->Loop,rec=λst pe=>{state:=st,pending:=pe,fn,tmps:=a.tmps,params:=ps,assign,body,defers:=w.heap.size}:=⟨_,rfl⟩
 obtain⟨W1,hW1⟩:∃W1,(w.alloc (.deferred (c3 []))).alloc (.loop (rec .ready dT))=W1:=⟨_,rfl⟩;have hL1:W1.heap[w.heap.size+1]?=c3 (.loop (rec .ready dT)):=by
  rw[<-hW1];have:=e6 (w.alloc (.deferred (c3 []))) (.loop (rec .ready dT));rwa [hI] at this
 have hK1:W1.heap[w.heap.size]?=c3 (.deferred (c3 [])):=by
  rw[<-hW1];exact(eo _ _ _ (by simp)).trans (e6 w _)
 have hI1:I 0 W1:=by rw[<-hW1];exact h0 _
 refine⟨w.heap.size+1,[{target:=.collected w.heap.size,args:=#[]}],W1,{target:=.fn (.func gf) lb,args:=#[.func (.yield (w.heap.size+1)) #[] #[]]},W1,gf,
  #[.func (.yield (w.heap.size+1)) #[] #[]]++lb,W1,?_,?_,λ_ _=>trivial,?_,λh=>by simp[c6] at h,?_⟩
 .rw[<-hW1,hrec];exact run_enterLoop_outer _ _ _ _ _
 .simp only[resolve,hg];simp[go_sem]
 .simp[invoke,go_sem,eg]
 .refine(hseq (w.heap.size+1)
   (λk W=>I k W/\W.heap[w.heap.size+1]?=c3 (.loop (rec .ready dT))/\W.heap[w.heap.size]?=c3 (.deferred (c3 []))) W1
   (λk W h=>hIr k W h.1) (λk W W' h hb=>by
    have h1:=(c5.1 h.2.1).1;exact⟨hIb k W W' h.1 (by omega) hb,(hb.block _ (by omega)).trans h.2.1,(hb.block _ (by omega)).trans h.2.2⟩) ?_ ⟨hI1,hL1,hK1⟩).mono ?_
  .rintro k x W hx ⟨hi,hl,hk⟩;have hlt:w.heap.size+1<W.heap.size:=(c5.1 hl).1;have hy:=run_yield (P:=P) (args:=#[x]) hl (by rw[hrec];simp[hps]);rw[hrec] at hy;refine⟨fn,_,assign,body,hy,roundIn_of_wpIn hfn (hassign _ k x W _ hx hi λa1 Wa hka him=>?_)⟩
   have hla:=hka.same _ _ hl rfl;have hkka:=hka.same _ _ hk rfl;have hlta:w.heap.size+1<Wa.heap.size:=(c5.1 hla).1;refine⟨_,run_beginRound hla (by rw[hrec]),?_⟩
   have hl2:(Wa.putObj (w.heap.size+1) (.loop {rec .ready dT with state:=.busy})).heap[w.heap.size+1]?=c3 (.loop {rec .ready dT with state:=.busy}):=ei hlta;have hk2:(Wa.putObj (w.heap.size+1) (.loop {rec .ready dT with state:=.busy})).heap[w.heap.size]?=c3 (.deferred (c3 [])):=(dt (by omega)).trans hkka;refine wpIn_mono (hbody _ k x a1 _ hx (hImp _ _ _ _ _ _ him hla rfl)) ?_
   rintro e a3 W3 ⟨rfl,hk3,hi3⟩;have hl3:=hk3.same _ _ hl2 rfl;have hr:=run_endRound (P:=P) dT hl3;rw[hrec] at hr;rw[hrec] at hl3;refine⟨_,_,hr,rfl,hIp _ _ _ _ hi3 hl3 rfl,?_,(dt (by omega)).trans (hk3.same _ _ hk2 rfl)⟩
   rw[hrec];exact ei (c5.1 hl3).1
  .rintro e W2 ⟨⟨v,rfl⟩,hi,hl,hk⟩;exact⟨dT,_,by have:=run_endLoop (P:=P) hl (by rw[hrec];simp);rw[hrec] at this;exact this,hdone _ (hIp _ _ _ _ hi hl rfl) ((dt (by omega)).trans hk)⟩
end
section
variable {P:Program}{B:Tb}
structure jV (nl:Nat) (B:Tb) (g2:Gh) (H2:List aO) (w2:World) (W:World) (g:Gh) (H:List (Ob B.D)):Prop where
 m:bF g (av B H) W
 st:Bml.GStep nl g2 H2 w2 g (av B H) W
 sz:w2.heap.size+2<=W.heap.size
 nF:∀b,b=w2.heap.size\/b=w2.heap.size+1->¬g.F b/\∃o,W.heap[b]?=c3 o/\o.isCells=false
def PA{g:Gh}{H:List aO}{e:World}(d:bF g H e){r b c:Nat}(a:g.β r=c3 (b,c)):∃h,e.heap[b]?=c3 h/\h.isCells=true:=by
 have i:=d.m8 r b c a;have f:=(d.obj r _ (c4 i)).mem;rw[a] at f;obtain⟨_,cells,j,_⟩:=f;exact⟨_,j,rfl⟩
section
variable {nl:Nat}{g2:Gh}{H2:List aO}{w2 W:World}{g:Gh}{H:List (Ob B.D)}
def jV.lF(h:jV nl B g2 H2 w2 W g H){a:Nat}{o o':Obj}(m:a=w2.heap.size\/a=w2.heap.size+1)
 (n:W.heap[a]?=c3 o) (w:o.isCells=false) (t:o'.isCells=false):jV nl B g2 H2 w2 (W.putObj a o') g H:=by
 have u:a<W.heap.size:=(c5.1 n).1;have j:∀b,b≠a->(W.putObj a o').heap[b]?=W.heap[b]? :=λb c=>dt (λe=>c e)
 have s:(W.putObj a o').heap.size=W.heap.size:=by simp[World.putObj]
 obtain⟨y,x⟩:=GStep.lF (w':=W.putObj a o') h.st h.m rfl rfl rfl (by rw[s];exact hq _)
  (λb c=>j b λe=>by subst e;exact(h.nF b m).1 c)
  (λr b C c=>j b λe=>by
   subst e;obtain⟨l,d,k⟩:=PA h.m c;rw[n] at d;injection d with d
   rw[<-d,w] at k;cases k)
  (λb c=>j b (by rcases m with e |e <;> omega))
 refine⟨x,y,by rw[s];exact h.sz,λb c=>⟨(h.nF b c).1,?_⟩⟩
 by_cases e:b=a
 .subst e;exact⟨o',ei u,t⟩
 .obtain⟨l,d,k⟩:=(h.nF b c).2;exact⟨l,by rw[j b e];exact d,k⟩
def jV.below(h:jV nl B g2 H2 w2 W g H){d:World}(a:Below W.heap.size W d):jV nl B g2 H2 w2 d g H:=by
 have o:=h.sz;obtain⟨l,j⟩:=GStep.lF (w':=d) h.st h.m a.os a.tape a.output a.size (λb c=>a.block b (h.m.fb b c)) (λr b C c=>a.block b (h.m.qD c)) (λb c=>a.block b (by omega));refine⟨j,l,fe h.sz a.size,λb c=>?_⟩
 obtain⟨n,k,e,m⟩:=h.nF b c;exact⟨n,k,(a.block b (c5.1 e).1).trans e,m⟩
def jV.next(h:jV nl B g2 H2 w2 W g H){j:World}{m:Gh}{H':List (Ob B.D)}(w:bF m (av B H') j)(c:Bml.GStep nl g (av B H) W m (av B H') j):jV nl B g2 H2 w2 j m H'/\KeepsOthers W j:=by
 have n:∀b a,W.heap[b]?=c3 a->a.isCells=false->∀r C,g.β r≠c3 (b,C):=λb a e l r C x=>by
  obtain⟨A,k,s⟩:=PA h.m x;rw[e] at k;injection k with k
  rw[<-k,l] at s;cases s
 refine⟨⟨w,h.st.trans c,fe h.sz c.size,λb t=>?_⟩,c.size,λb a e l=>(c.rest b (c5.1 e).1 (n b a e l)).trans e⟩
 obtain⟨y,a,d,o⟩:=h.nF b t;refine⟨λu=>?_,a,(c.rest b (c5.1 d).1 (n b a d o)).trans d,o⟩
 rcases c.oY b u with h |h |⟨r,C,h⟩
 .exact y h
 .have:=(c5.1 d).1;omega
 .exact n b a d o r C h
def F5(N:cU P B){l n nt v:Nat}{x:List Nat}{c:List Oper}{d:En B.D}{m:Act}{u:Type}{r:u}{k:St B.D->Option u}{Q:Exit->Act->World->Prop}(p:jV nl B g2 H2 w2 W g H)(R:fI g (av B H) W nt (aU B d) m)
 (M:ops B P [] x c (λ_ D=>k D) 0 c [] ⟨d,H⟩=c3 r) (z:∀e,e∈c->fL nt e.dst=true) (T:∀e,e∈c->∀h,e.op≠ .defer h)
 (L:∀j q o s,k j=c3 r->KeepsOthers W o->jV nl B g2 H2 w2 o s j.H->fI s (av B j.H) o nt (aU B j.E) q->Q .normal q o):(j5 v c.toArray false).wpIn (c6.inRound l) n P Q m W:=by
 have O:∀h,h∈([]:List (aq B))->Fits P B h:=λ_ a=>(ej a).elim
 obtain⟨V,i,F,E⟩:=qg N O M;have y:=yW (nt:=nt) (n:=nl) (Q:=λf d H=>f= .normal/\d=aU B i.E/\H=av B i.H) F z ⟨rfl,rfl,rfl⟩;have G:=y g m W ⟨p.m,R⟩ (eI nt nl g (av B H) W λf d H=>f= .normal/\d=aU B i.E/\H=av B i.H) (λ_ _ _ a=>a);have S:=Mn (l:=l) (n:=n) (λm X a=>a) c _ W T G;refine wpIn_mono (wpIn_region_lit S) ?_
 intro f I J b;cases f with
 |normal=>
  obtain⟨U,H3,w,⟨_,rfl,rfl⟩,t,C⟩:=b;obtain⟨K,A⟩:=p.next t.m C;exact L i I J w E A K t.e
 |exit v=>
  obtain⟨_,_,_,⟨a,_⟩,_⟩:=b;cases a
 |ret=>
  obtain⟨_,_,_,⟨a,_⟩,_⟩:=b;cases a
 |goto l=>
  obtain⟨_,_,_,⟨a,_⟩,_⟩:=b;cases a
 |panic h=>exact b.elim
 |outgrown=>exact b.elim
end
def mO(a b:Nat)(c:List (B.D b)):Nat->List (Ob B.D)
 |0=>[⟨1,1,.box a [.bg]⟩]
 |d+1=>[⟨1,1,.box a [.fl 1 1]⟩,⟨1,1,.aap b (c.take (d+1))⟩]
def LY{a:Nat}(e:B.D a->St B.D)(f:B.D a->List (B.D a)->St B.D)(c:List (B.D a))(b:B.D a):Nat->St B.D
 |0=>e b
 |d+1=>f b (c.take (d+1))
def QR(q:Nat):Nat->Option Nat
 |0=>c3 0
 |1=>c3 q
 |_=>dT
def Ku{q i r:Nat}(a:QR q i=c3 r):(i=0/\r=0)\/(i=1/\r=q):=by
 match i,a with
 |0,a=>injection a with a;exact .inl ⟨rfl,a.symm⟩
 |1,a=>injection a with a;exact .inr ⟨rfl,a.symm⟩
def Y5(T:cU P B){g:Gh}{n:World}{S J l a v q:Nat}{j:List (B.D a)}{m:List (Ob B.D)}(h0:nth m 0=c3 ⟨S,1,.box l [.fl q v]⟩)(K:nth m q=c3 ⟨J,v,.aap a j⟩)(X:q≠0)(D:bF g (av B m) n):
 ∃y,bF y (av B [⟨1,1,.box l [.fl 1 1]⟩,⟨1,1,.aap a j⟩]) n/\Bml.GStep 1 g (av B m) n y (av B [⟨1,1,.box l [.fl 1 1]⟩,⟨1,1,.aap a j⟩]) n:=by
 have C:(av B m)[0]?=c3 (⟨l,1,[.agg [.fl q v]],1⟩:aO):=df h0;have eq:(av B m)[q]?=c3 (⟨a,B.sz a,j.map (B.ty a).enc,v⟩:aO):=df K;refine⟨dj g (QR q) (λ_=>False),bF.re D (λ_ e=>e.elim) (λi V r e M=>?_) (λi r e=>?_) (λi A d=>?_),GStep.re λi I O h=>?_⟩
 .rcases Ku e with⟨o,b⟩ |⟨o,b⟩ <;> rcases Ku M with⟨N,L⟩ |⟨N,L⟩ <;> omega
 .show i<2
  rcases Ku e with⟨o,b⟩ |⟨o,b⟩ <;> omega
 .match i,d with
  |0,d=>
   have d:c3 (⟨l,1,[.agg [.fl 1 1]],1⟩:aO)=c3 A:=d;injection d with d
   subst d;refine⟨Nat.one_pos,λi x c=>?_,(λe=>by cases e),λr f=>?_⟩
   .match i,c with
    |0,c=>injection c with c;subst c;rfl
   .have f:c3 0=c3 r:=f;injection f with f
    subst f;refine⟨⟨l,1,[.agg [.fl q v]],1⟩,C,rfl,rfl,rfl,λi w p k=>?_⟩
    obtain⟨x,c,E⟩:=gw k
    match i,c with
    |0,c=>
     injection c with c
     subst c
     match w,E with
     |0,_=>
      injection k with k
      subst k;refine⟨.fl q v,rfl,λu s=>?_⟩
      cases s with
      |aW e=>cases e
      |fl _ _ I _ h U Q G=>
       rw[eq] at h;injection h with h
       subst h;refine .fl 1 1 ⟨a,B.sz a,j.map (B.ty a).enc,1⟩ u rfl (hq _) Q λ_=>?_
       have:=G rfl;unfold SL at this⊢;exact this
  |1,d=>
   have d:c3 (⟨a,B.sz a,j.map (B.ty a).enc,1⟩:aO)=c3 A:=d;injection d with d
   subst d;have t:=D.obj q ⟨a,B.sz a,j.map (B.ty a).enc,v⟩ eq;refine⟨t.pos,t.width,(λe=>by cases e),λr f=>?_⟩
   have f:c3 q=c3 r:=f;injection f with f
   subst f;refine⟨⟨a,B.sz a,j.map (B.ty a).enc,v⟩,eq,rfl,rfl,rfl,λi w p k=>⟨p,k,λu s=>?_⟩⟩
   have R:cE 0 p:=nR (λx c=>by
    obtain⟨z,_,rfl⟩:=hD.1 c;exact T.lt a z) k
   exact .aW ((s.dH R).mono (λ_ F=>.inl F) λ_ _=>rfl)
 .match i,O with
  |0,_=>
   rw[C] at h;injection h with h
   subst h;exact⟨⟨l,1,[.agg [.fl 1 1]],1⟩,rfl,hq _,λ_=>⟨rfl,rfl,rfl⟩⟩
def pA{b:Nat}{fn:Func}{code:Code}(e:P.funcs[b]?=c3 fn)(c:fn.body=c3 code)(d:(fn.name== "runtime.NumGoroutine")=false)(args:Array Value)(a:World):(callFunc b args).run P a= .ok (.enter b args) a:=by
 simp only[callFunc,hX];have f:(program:Sem Program).run P a= .ok P a:=rfl;rw[f];simp only[ft,e];rw[d];simp[c]
def akH{a:List Value}{d t:Nat}(b:a.length<=d):(a.toArray++hM (d -a.toArray.size) undef).getD t undef=a.getD t undef:=by
 rw[dd,ea];rcases hY t a.length with b |b
 .simp[Array.getElem?_append,b]
 .rw[List.getElem?_eq_none b];rw[Array.getElem?_append_right (by simpa using b)];rcases hY (t -a.length) (d -a.length) with c |c
  .simp[c]
  .simp[c]
def Ot{g:Gh}{H:List (Ob B.D)}{c:En B.D}{b:World}{a:List Value}{nt:Nat}(e:bF g (av B H) b)(f:a.length<=nt)(d:∀t,VR g (av B H) b (pv B (lk c t)) (a.getD t undef)):
 Rel g nt (aU B c) (av B H) {tmps:=a.toArray++hM (nt -a.toArray.size) undef,defers:=[]} b:=by
 refine⟨e,rfl,?_,λt=>?_⟩
 .simp;omega
 .rw[ep];have:=akH (t:=t) f;rw[this];exact d t
def O9(a1:P.follows .mixedOrders=true)(R:cU P B){L:Lp}{c:aq B}{fn:Func}{ag ah:Code}{cr bs bR:Nat}{K J:List Oper}{n t gf by_:Nat}{aS bI:TypeId}{a3 cs:String}{ba cg:Array Edge}{xs:bi B.D c.par.bX->List (B.D n)}{Z:B.D n->St B.D}{aa:B.D n->List (B.D n)->St B.D}{R0:B.D n->List (B.D n)->List (Ob B.D)}{R1:B.D n->List (B.D n)->List (Ob B.D)}{q0 v0 s0 s0' q1 v1 s1 s1':Nat}
 (a8:P.funcs[c.cO]?=c3 fn) (m:fn.body=c3 (.seq ag (.seq (.seq ah (.block 0 (.rangeFunc (.tmp 6) #[7] (.region cr K.toArray false) (.block 1 (.region bs J.toArray false)))))
  (.seq (.region bR [⟨c3 12,.load t (.tmp 2),aS,a3,ba,dT⟩,⟨c3 4,.assign (.tmp 12),bI,cs,cg,dT⟩].toArray false) .ret))))
 (b3:(fn.name== "runtime.NumGoroutine")=false) (bo:fn.results=#[.tmp 4]) (cx:c.na=2) (bc:ev 13 fn.ntmps=true) (bU:c.low=0) (b8:dP P t=c3 false) (bY:1<=by_)
 (cj:gB fn.ntmps ag=true) (bP:gB fn.ntmps ah=true) (ct:∀u,u∈K->fL fn.ntmps u.dst=true) (bS:∀u,u∈K->∀c,u.op≠ .defer c) (ch:∀u,u∈J->fL fn.ntmps u.dst=true) (ce:∀u,u∈J->∀c,u.op≠ .defer c)
 (bf:∀x,cz B c.par x=⟨[(0,.bg),(1,.fn gf [] [.vp [.row n (xs x)] 0])],[]⟩)
 (co:∀x,∃ay,exec L B P [] 0 [] ag 1 (λD l=>bif ee D 0 then c3 l else dT) ⟨[(0,.bg),(1,.fn gf [] [.vp [.row n (xs x)] 0])],[]⟩=c3 ⟨ay,[⟨1,1,.box t [.bg]⟩]⟩/\
  ∃aj,exec L B P [] 0 [] ah 1 (λD l=>bif ee D 0 then c3 l else dT) ⟨ay,[⟨1,1,.box t [.bg]⟩]⟩=c3 ⟨aj,[⟨1,1,.box t [.bg]⟩]⟩/\lk aj 6= .fn gf [] [.vp [.row n (xs x)] 0]/\lk aj 2= .ptr 0 1 0 0)
 (bF:∀args w,(callFunc gf args).run P w= .ok (.enter gf args) w)
 (ci:∀aL (az:Nat->Prop) (w:World) (pv:Value) (h:List (B.D n)),2<=aL->h.length<=140737488355328->VI az w (.dw [.vs (B.sz n) (h.map (B.ty n).enc)] 0) pv->∃G:List Value,G.length=h.length/\(∀(i:Nat) (e:B.D n) (v:Value),h[i]?=c3 e->G[i]?=c3 v->VI az w ((B.ty n).enc e) v)/\
  vy aL P gf #[pv] G (λW=>∀b,az b->W.heap[b]?=w.heap[b]?))
 (bE:∀e:B.D n,ops B P [] [2] K (λ_ l=>c3 l) 0 K [] ⟨[(7,B.tv n e),(2,.ptr 0 1 0 0)],[⟨1,1,.box t [.bg]⟩]⟩=c3 (Z e))
 (bD:∀(e:B.D n) (h:List (B.D n)),ops B P [] [2] K (λ_ l=>c3 l) 0 K [] ⟨[(7,B.tv n e),(2,.ptr 0 1 0 0)],[⟨1,1,.box t [.fl 1 1]⟩,⟨1,1,.aap n h⟩]⟩=c3 (aa e h))
 (au:∀(e:B.D n),ops B P [] [2] J (λ_ l=>c3 l.H) 0 J [] (Z e)=(bj by_ [] [e]).bind λI=>c3 (R0 e I))
 (bK:∀(e:B.D n) (h:List (B.D n)),ops B P [] [2] J (λ_ l=>c3 l.H) 0 J [] (aa e h)=(bj by_ h [e]).bind λI=>c3 (R1 e I))
 (bV:∀e I,nth (R0 e I) 0=c3 ⟨s0,1,.box t [.fl q0 v0]⟩/\nth (R0 e I) q0=c3 ⟨s0',v0,.aap n I⟩/\q0≠0)
 (bQ:∀e I,nth (R1 e I) 0=c3 ⟨s1,1,.box t [.fl q1 v1]⟩/\nth (R1 e I) q1=c3 ⟨s1',v1,.aap n I⟩/\q1≠0)
 (aA:∀x r,c.F x=c3 r->(xs x).length*by_<=140737488355328/\(cz B c.az r)=⟨[(0,.fl 0 0)],[⟨0,0,.aap n (xs x)⟩]⟩/\take B 0 c.az ⟨[(0,.fl 1 1)],[⟨1,1,.box t [.fl 1 1]⟩,⟨1,1,.aap n (xs x)⟩]⟩ c3=c3 r/\(xs x=[]->take B 0 c.az ⟨[(0,.bg)],[⟨1,1,.box t [.bg]⟩]⟩ c3=c3 r)):Fits P B c:=by
 have bc:13<=fn.ntmps:=e0 bc;have a2:∀c,c∈([]:List (aq B))->Fits P B c:=λ_ s=>(ej s).elim
 refine⟨pA a8 m b3,λx r bB g w bk cu bd a5=>?_⟩
 obtain⟨a9,bp,bM,b6⟩:=aA x r bB;rw[bf] at bd a5⊢;rw[bU];obtain⟨ay,b1,aj,bX,bh,bW⟩:=co x;generalize cF:xs x=h at*;have bl:=Ot bd (by omega:bk.length<=fn.ntmps) a5;refine(callsIn_wide (n:=10)).1 (callsIn_of_wp_marks a8 m trivial ?_ rfl)
 refine wpIn_seq (wpIn_wide.2 (gO a1 R a2 ag 1 _ _ _ b1 cj (e4 _) g _ w bl _ λD af cl M=>?_))
 cases D with
 |normal=>
  obtain⟨_,_,bJ,⟨cG,_,aF,rfl,rfl⟩,bt,bN⟩:=M;injection aF with aF
  subst aF;refine wpIn_seq (wpIn_seq (wpIn_wide.2 (gO a1 R a2 ah 1 _ _ _ bX bP (e4 _) bJ af cl bt _ λD y w2 M=>?_)))
  cases D with
  |normal=>
   obtain⟨_,_,g2,⟨cA,_,ao,rfl,rfl⟩,O,bL⟩:=M;injection ao with ao
   subst ao;have bb:=O.e.defers;have aQ:=O.e.size;have V:=O.e.at_ 6;rw[ep,bh] at V;have cp:∃pv,y.tmps.getD 6 undef= .func (.func gf) #[] #[pv]/\VI g2.F w2 (.dw [.vs (B.sz n) (h.map (B.ty n).enc)] 0) pv:=by
    generalize y.tmps.getD 6 undef=z at V;have V:VR g2 _ w2 (.fn gf [] [.dw [.vs (B.sz n) (h.map (B.ty n).enc)] 0]) z:=V;cases V with
    |aW s=>
     cases s with
     |fn _ _ _ bZ vs A _ o an=>
      obtain rfl:=e5 A.symm
      match vs,o with
      |[pv],_=>exact⟨pv,rfl,an 0 _ pv rfl rfl⟩
    |fn _ _ _ bZ vs A _ o an=>
     obtain rfl:=e5 A.symm
     match vs,o with
     |[pv],_=>
      refine⟨pv,rfl,?_⟩
      have:=an 0 _ pv rfl rfl;cases this with
      |aW s=>exact s
   obtain⟨cf,cm,bT⟩:=cp;obtain⟨G,bw,cc,bn⟩:=ci 9 g2.F w2 cf h (by omega) (fe (Nat.le_mul_of_pos_right _ bY) a9) bT;have aI:=O.e.at_ 2;rw[ep,bW] at aI;refine wpIn_block (Pq (n:=10) (xs:=G) (a:=y) (w:=w2) cm bF bn rfl
    (λk W=>∃g,jV 1 B g2 (av B [⟨1,1,.box t [.bg]⟩]) w2 W g (mO t n h k))
    (λk W s=> ?rd) (λk W r o' s Q aB=> ?put) (λk W aG s cB bH=> ?below) (λY=> ?start)
    (λk v af W=>∃(e:B.D n) (l:St B.D) (g:Gh),h[k]?=c3 e/\l=LY Z aa h e k/\jV 1 B g2 (av B [⟨1,1,.box t [.bg]⟩]) w2 W g l.H/\fI g (av B l.H) W fn.ntmps (aU B l.E) af)
    (λk x af W r o' s Q aB=> ?mput) (λbA k v W aM aw C ac=> ?assign) (λbA k v af W aw C=> ?body) (λW C aX=> ?done))
   case rd=>
    obtain⟨g,s⟩:=s;exact s.st.jh
   case put=>
    obtain⟨g,s⟩:=s;exact⟨g,s.lF (.inr rfl) Q rfl aB⟩
   case below=>
    obtain⟨g,s⟩:=s;exact⟨g,s.below bH⟩
   case start=>
    refine⟨g2,?_⟩
    have cy:((w2.alloc (.deferred (c3 []))).alloc (.loop Y)).heap.size=w2.heap.size+2:=by simp
    have aD:∀b,b<w2.heap.size->((w2.alloc (.deferred (c3 []))).alloc (.loop Y)).heap[b]?=w2.heap[b]? :=λb m=>(eo _ _ b (by simp;omega)).trans (eo _ _ b m)
    obtain⟨s1,bv⟩:=GStep.lF (w':=(w2.alloc (.deferred (c3 []))).alloc (.loop Y)) (GStep.refl 1 g2 (av B [⟨1,1,.box t [.bg]⟩]) w2) O.m rfl rfl rfl (by omega) (λb m=>aD b (O.m.fb b m)) (λr b cw m=>aD b (O.m.qD m)) aD;refine⟨bv,s1,by omega,λb m=>⟨λaA=>?_,?_⟩⟩
    .have:=O.m.fb b aA;omega
    .rcases m with rfl |rfl
     .exact⟨.deferred (c3 []),(eo (w2.alloc (.deferred (c3 []))) _ w2.heap.size (by simp)).trans (e6 w2 _),rfl⟩
     .refine⟨.loop Y,?_,rfl⟩
      have:=e6 (w2.alloc (.deferred (c3 []))) (.loop Y)
      rwa [hI] at this
   case mput=>
    obtain⟨e,l,g,A,o,ae,ax⟩:=s;have ak:=ae.lF (o':=o') (.inr rfl) Q rfl aB;refine⟨e,l,g,A,o,ak,ax.defers,ax.size,λq=>?_⟩
    have a0:=ax.at_ q;exact VR.uz (f:=λr v=>∃u,(av B l.H)[r]?=c3 u/\v<=u.aF) (λ_ m=>m) (λb m=>dt (λD=>by subst D;exact(ae.nF _ (.inr rfl)).1 m)) (λr v u _ Q am=>⟨u,Q,am,λD=>⟨D,rfl,rfl,rfl⟩⟩) a0 a0.wf
   case assign=>
    obtain⟨T,C⟩:=C;have F:k<h.length:=by
     have:=(ef.1 aw).1;omega
    obtain⟨e,S⟩:∃e,h[k]?=c3 e:=⟨_,c4 F⟩;have b0:=cc k _ v S aw;have b5:((#[7]:Array Nat).zip #[v]).foldl (λt (p,v)=>t.setIfInBounds p v) y.tmps=y.tmps.setIfInBounds 7 v:=by simp
    rw[b5];have bx:fI T (av B (mO t n h k)) W fn.ntmps (aU B [(7,B.tv n e),(2,.ptr 0 1 0 0)]) {tmps:=y.tmps.setIfInBounds 7 v,defers:=[]}:=by
     refine⟨rfl,by simp;exact aQ,λq=>?_⟩
     rw[ep]
     by_cases a6:q=7
     .subst a6;have X:(lk [(7,B.tv n e),(2,.ptr 0 1 0 0)] 7:TV B.D)=B.tv n e:=rfl;have aJ:(y.tmps.setIfInBounds 7 v).getD 7 undef=v:=by
       rw[dd,dv (by omega)]
       rfl
      rw[X,aJ,R.tv];exact .aW (b0.mono C.st.F C.st.jh)
     .by_cases o:q=2
      .subst o;have X:(lk [(7,B.tv n e),(2,.ptr 0 1 0 0)] 2:TV B.D)= .ptr 0 1 0 0:=rfl;have aJ:(y.tmps.setIfInBounds 7 v).getD 2 undef=y.tmps.getD 2 undef:=by
        rw[dd,dd,Array.getElem?_setIfInBounds_ne (by omega)]
       rw[X,aJ];exact aI.step C.st (.ptr 0 1 0 0 (by omega))
      .have X:(lk [(7,B.tv n e),(2,.ptr 0 1 0 0)] q:TV B.D)= .any:=by
        have cn:ee 7 q=false:=by cases m:ee 7 q with |false=>rfl |true=>exact absurd (beq_eq m).symm a6
        have aC:ee 2 q=false:=by cases m:ee 2 q with |false=>rfl |true=>exact absurd (beq_eq m).symm o
        simp only[lk,cn,aC,cond_false]
       rw[X];exact .aW (.any _)
    have aE:ops B P [] [2] K (λ_ l=>c3 l) 0 K [] ⟨[(7,B.tv n e),(2,.ptr 0 1 0 0)],mO t n h k⟩=c3 (LY Z aa h e k):=by
     cases k with
     |zero=>exact bE _
     |succ k=>exact bD _ _
    exact F5 R (k:=c3) C bx aE ct bS λck aN aG a7 U A o ae=>ac aN aG A ⟨e,_,a7,S,(hP U),o,ae⟩
   case body=>
    obtain⟨e,l,T,S,U,bC,b4⟩:=C;have F:k<h.length:=(ef.1 S).1;have aP:h[k]=e:=by
     rw[c4 F] at S;injection S
    have aY:(k+1)*by_<=140737488355328:=fe (Nat.mul_le_mul_right _ F) a9;have a4:h.take k++[h[k]]=h.take (k+1):=(List.take_succ_eq_append_getElem F).symm;have aE:∃ai,ops B P [] [2] J (λ_ l=>c3 l.H) 0 J [] l=c3 ai/\∃ab aO v q,nth ai 0=c3 ⟨ab,1,.box t [.fl q v]⟩/\nth ai q=c3 ⟨aO,v,.aap n (h.take (k+1))⟩/\q≠0:=by
     cases k with
     |zero=>
      have al:bj by_ [] [e]=c3 (h.take 1):=by
       unfold bj;rw[if_pos (by simpa using aY)];exact congrArg c3 (by rw[<-a4,aP];rfl)
      have A:=au e;rw[al, <-show l=Z e from U] at A;have o:=bV e (h.take 1);exact⟨_,A,s0,s0',v0,q0,o.1,o.2.1,o.2.2⟩
     |succ k=>
      have al:bj by_ (h.take (k+1)) [e]=c3 (h.take (k+1+1)):=by
       unfold bj;rw[if_pos (by rw[List.length_take,Nat.min_eq_left (by omega)];exact aY)];exact congrArg c3 (by rw[<-a4,aP])
      have A:=bK e (h.take (k+1));rw[al, <-show l=aa e (h.take (k+1)) from U] at A;have o:=bQ e (h.take (k+1+1));exact⟨_,A,s1,s1',v1,q1,o.1,o.2.1,o.2.2⟩
    obtain⟨ai,cq,ab,aO,cC,q,aR,aZ,b7⟩:=aE;refine wpIn_block (F5 R (k:=λl=>c3 l.H) bC b4 cq ch ce λck aN aG a7 U A o ae=>?_)
    rw[<-hP U] at aR aZ;obtain⟨ap,aH,aK⟩:=Y5 R aR aZ b7 o.m;obtain⟨b9,cE⟩:=o.next (H':=mO t n h (k+1)) aH aK;exact⟨rfl,A,ap,b9⟩
   case done=>
    obtain⟨T,C⟩:=C;obtain⟨N,ad⟩:∃N:Act,N={y with defers:={target:=.collected w2.heap.size,args:=#[]}::y.defers}:=⟨_,rfl⟩;rw[<-ad];have cd:N.eval=y.eval:=by rw[ad];rfl
    have b2:∃cv ab,nth (mO t n h G.length) 0=c3 ⟨ab,1,.box t [cv]⟩/\take B 0 c.az ⟨[(0,cv)],mO t n h G.length⟩ c3=c3 r:=by
     rw[bw];cases aT:h.length with
     |zero=>exact⟨.bg,1,rfl,b6 (e5 aT)⟩
     |succ aL=>
      simp only[mO];rw[<-aT,List.take_length];exact⟨.fl 1 1,1,rfl,bM⟩
    obtain⟨cv,ab,au,ca⟩:=b2;have bO:Rel T fn.ntmps [(2,.ptr 0 1 0 0)] (av B (mO t n h G.length)) y W:=by
     refine⟨C.m,bb,aQ,λq=>?_⟩
     by_cases o:q=2
     .subst o;exact aI.step C.st (.ptr 0 1 0 0 (by omega))
     .have aC:ee 2 q=false:=by cases m:ee 2 q with |false=>rfl |true=>exact absurd (beq_eq m).symm o
      have:Bml.look [(2,PV.ptr 0 1 0 0)] q=PV.any:=by simp only[Bml.look,aC,cond_false]
      rw[this];exact .aW (.any _)
    obtain⟨v,cb,aV⟩:=AT (P:=P) (d:=c3 12) (ty:=aS) (pos:=a3) (aft:=ba) (gd:=dT) (t:=t) (x:=.tmp 2) (E:=[(2,.ptr 0 1 0 0)]) (H:=av B (mO t n h G.length)) (r:=0) (v:=1) (i:=0) (j:=0) (c:=pv B cv) rfl (df au) rfl b8 rfl T fn.ntmps y W bO;refine wpIn_seq (wpIn_region_lit (wpListIn_plain rfl λaM ac=>⟨λf _=>trivial,?_⟩))
    rw[hQ _ _ _ (λc s=>by cases s),cd,cb];refine ac _ _ (wpListIn_plain rfl λaM ac=>⟨λf _=>trivial,?_⟩)
    rw[hQ _ _ _ (λc s=>by cases s)];have bq:(N.put (c3 12) v).eval (.tmp 12)=v:=by
     rw[ad];show((y.tmps.setIfInBounds 12 v).getD 12 undef)=v
     rw[dd,dv (by omega)]
     rfl
    show aM ((N.put (c3 12) v).put (c3 4) ((N.put (c3 12) v).eval (.tmp 12))) W
    rw[bq];refine ac _ _ (wpListIn_nil (wpIn_ret ?_))
    have bz:((N.put (c3 12) v).put (c3 4) v).defers=[{target:=.collected w2.heap.size,args:=#[]}]:=by
     rw[ad];show _::y.defers=_
     rw[bb]
    have be:(((N.put (c3 12) v).put (c3 4) v).tmps).getD 4 undef=v:=by
     rw[ad];show((y.tmps.setIfInBounds 12 v).setIfInBounds 4 v).getD 4 undef=v
     rw[dd,dv (by simp;omega)]
     rfl
    show LeavesInM _ _ _ _ _ _ ((N.put (c3 12) v).put (c3 4) v).defers .returning W
    rw[bz];refine⟨by simp,.inl ⟨_,_,rfl,run_takeDeferred aX,?_⟩⟩
    refine⟨v,by rw[results_tmp bo,be],v,?_⟩
    have ak:=C.lF (o':=.deferred dT) (.inl rfl) aX rfl rfl;have br:VR T (av B (mO t n h G.length)) (W.putObj w2.heap.size (.deferred dT)) (pv B cv) v:=VR.uz (f:=λr v=>∃u,(av B (mO t n h G.length))[r]?=c3 u/\v<=u.aF) (λ_ m=>m) (λb m=>dt (λD=>by subst D;exact(C.nF _ (.inl rfl)).1 m)) (λr v u _ Q am=>⟨u,Q,am,λD=>⟨D,rfl,rfl,rfl⟩⟩) aV aV.wf;obtain⟨cD,ar,ap,aH,aK,bm⟩:=EK R ca ak.m;injection ar with ar
    subst ar;refine⟨ap,rfl,aH,((bN.trans bL).trans (ak.st.less (e4 _))).trans aK,?_⟩
    have:=bm 0 v br;rw[bp] at this⊢;exact this
  |_=>first |exact M.elim |(obtain⟨_,_,_,⟨_,_,F,_⟩,_⟩:=M;cases F) |(obtain⟨_,_,_,F,_⟩:=M;exact F.elim)
 |_=>first |exact M.elim |(obtain⟨_,_,_,⟨_,_,F,_⟩,_⟩:=M;cases F) |(obtain⟨_,_,_,F,_⟩:=M;exact F.elim)
end
end Go.X
namespace Go.X.T
open Go Go.Aml Go.Bml Go.X Go.RowKit Go.Proofs
attribute [local go_sem] h5
def an0(m:Nat)(hm:2<=m)(l b off sb so cap N:Nat)(ad:Option Addr)(hN:N<=140737488355328)(val:Nat->Int)(J:Nat->World->Prop)
 (hr:∀k W,J k W->W.cell? ⟨b,off,dT⟩=c3 (.slice ad N cap)/\∀i:Nat,i<N->ad=c3 ⟨sb,so,dT⟩/\W.cell? ⟨sb,so+i,dT⟩=c3 (.int .i64 (val i)))
 (hy:∀k W,k<N->J k W->YieldAt c6 (m -1) c7 l #[.int .i64 (val k)] W λe W'=>e= .returned (.bool true)/\J (k+1) W') (W:World) (h0:J 0 W):
 CallsIn c6 m c7 269 #[.func (.yield l) #[] #[],.pointer (c3 ⟨b,off,dT⟩)] W λe W'=>(∃v,e= .returned v)/\J N W':=by
 have h269:c6.fn 269:=trivial;refine callsIn_of_wp ie rfl h269 ?_ rfl
 have hc0:=(hr 0 W h0).1;simp only[Tryz.ntmps269,ga,gv,h6,Nat.reduceAdd,Nat.reduceSub,ey,ez,gb,eH,h7,gx]
 gi_wp2
 gi_loopw [7] (λvi (wr:World)=>∃k:Nat,vi= .int .i64 (k:Int)/\k<=N/\J k wr) (λvi _=>match vi with | .int _ k=>N -k.toNat |_=>0)
 case atStart=>exact⟨0,rfl,e4 _,h0⟩
 case round=>
  obtain⟨k,rfl,hk,hJ⟩:=hrel;obtain⟨hc,he⟩:=hr k _ hJ
  by_cases hlt:k<N
  .obtain⟨rfl,hek⟩:=he k hlt;obtain⟨fn,tmps,assign,body,hyy,hR⟩:=hy k wr hlt hJ
   gi_wp2
   refine⟨λh=>by simp[c6] at h,hR.mono ?_⟩
   rintro e W3 ⟨rfl,hJ3⟩
   gi_wp2
   go_roundw
   case rel=>exact⟨k+1,congrArg (hK .i64) (by omega),by omega,hJ3⟩
   case measure=>
    show N - ((k:Int)+1).toNat<N - (k:Int).toNat
    omega
  .have:k=N:=by omega
   subst this
   gi_wp2
   go_end0
   exact⟨⟨_,rfl⟩,hJ⟩
def akF(m:Nat)(hm:2<=m)(l b off sb so cap N:Nat)(ad:Option Addr)(hN:N<=140737488355328)(pa pb:Nat->Option Addr)(na ca nb cb:Nat->Nat)(J:Nat->World->Prop)
 (hr:∀k W,J k W->W.cell? ⟨b,off,dT⟩=c3 (.slice ad N cap)/\∀i:Nat,i<N->ad=c3 ⟨sb,so,dT⟩/\W.cell? ⟨sb,so+i*2,dT⟩=c3 (.slice (pa i) (na i) (ca i))/\W.cell? ⟨sb,so+i*2+1,dT⟩=c3 (.slice (pb i) (nb i) (cb i)))
 (hJb:∀k W W',J k W->Below W.heap.size W W'->J k W')
 (hy:∀k W,k<N->J k W->YieldAt c6 (m -1) c7 l #[.agg #[.slice (pa k) (na k) (ca k),.slice (pb k) (nb k) (cb k)]] W λe W'=>e= .returned (.bool true)/\J (k+1) W') (W:World) (h0:J 0 W):
 CallsIn c6 m c7 326 #[.func (.yield l) #[] #[],.pointer (c3 ⟨b,off,dT⟩)] W λe W'=>(∃v,e= .returned v)/\J N W':=by
 have h326:c6.fn 326:=trivial;refine callsIn_of_wp ih rfl h326 ?_ rfl
 have hc0:=(hr 0 W h0).1;simp only[Tryz.ntmps326,ga,gv,h6,Nat.reduceAdd,Nat.reduceSub,ey,ez,gb,eH,h7,gx]
 gi_wp2
 gi_loopw [7] (λvi (wr:World)=>∃k:Nat,vi= .int .i64 (k:Int)/\k<=N/\J k wr) (λvi _=>match vi with | .int _ k=>N -k.toNat |_=>0)
 case atStart=>exact⟨0,rfl,e4 _,h0⟩
 case round=>
  obtain⟨k,rfl,hk,hJ⟩:=hrel;obtain⟨hc,he⟩:=hr k _ hJ
  by_cases hlt:k<N
  .obtain⟨rfl,hek,hek2⟩:=he k hlt;have hJ2:=hJb k wr (wr.alloc (.cells #[.slice (pa k) (na k) (ca k),.slice (pb k) (nb k) (cb k)] 140)) hJ ((j6 _ _).alloc (hq _) _);obtain⟨fn,tmps,assign,body,hyy,hR⟩:=hy k _ hlt hJ2
   gi_wp2
   refine⟨λh=>by simp[c6] at h,hR.mono ?_⟩
   rintro e W3 ⟨rfl,hJ3⟩
   gi_wp2
   go_roundw
   case rel=>exact⟨k+1,congrArg (hK .i64) (by omega),by omega,hJ3⟩
   case measure=>
    show N - ((k:Int)+1).toNat<N - (k:Int).toNat
    omega
  .have:k=N:=by omega
   subst this
   gi_wp2
   go_end0
   exact⟨⟨_,rfl⟩,hJ⟩
def aoU(q:Nat)(k:Nat->Prop)(j:World)(pv:Value)(a:List Int)(U:2<=q)(J:a.length<=140737488355328)(S:VI k j (.dw [.vs 1 (a.map (PV.int .i64))] 0) pv):
 ∃n:List Value,n.length=a.length/\(∀(i:Nat) (r:Int) (v:Value),a[i]?=c3 r->n[i]?=c3 v->VI k j (.int .i64 r) v)/\vy q c7 269 #[pv] n (λd=>∀b,k b->d.heap[b]?=j.heap[b]?):=by
 cases S with
 |dw _ _ b M u D E aa e=>
  have I:=E 0 _ rfl;have o:=e 0 _ rfl;have H:∃m f l cap,u 0= .slice m a.length cap/\∀i:Nat,i<a.length->m=c3 ⟨f,l,dT⟩/\k f/\j.cell? ⟨f,l+i,dT⟩=c3 (.int .i64 (a.getD i 0)):=by
   generalize p:a.map (PV.int .i64)=O at o;generalize u 0=z at o;cases o with
   |eX _ P cap=>
    have:a=[]:=eE.1 p;subst this;exact⟨P,0,0,cap,rfl,λi c=>by simp at c⟩
   |vs _ _ G N cap u2 X R Y K ac F=>
    refine⟨_,G,N,cap,by rw[<-p];simp,λi c=>⟨rfl,R,?_⟩⟩
    have y:abk O i 0=c3 (.int .i64 (a.getD i 0)):=by
     rw[<-p];unfold abk;rw[dk,c4 c,ea,c4 c]
     rfl
    have t:=K i 0 _ y;have x:=F i 0 _ y;rw[Nat.mul_one,Nat.add_zero] at t;rw[t];generalize u2 i 0=z at x⊢;cases x
    rfl
  obtain⟨m,f,l,cap,T,s⟩:=H;refine⟨a.map (hK .i64),by simp,λi r v L e=>?_,λC Q d B W V h0=>?_⟩
  .rw[dk,L] at e;injection e with e
   subst e;exact .int _ _
  .refine(an0 q U C b M f l cap a.length m J (λi=>List.getD (α:=Int) a i 0) Q (λg d h=>⟨?_,λi c=>⟨(s i c).1,?_⟩⟩) (λg d A h=>?_) d h0).mono λZ ab w=>⟨w.1,by rw[h8];exact w.2⟩
   .rw[oW (B g d h) D, <-T];exact I
   .rw[oW (B g d h) (s i c).2.1];exact(s i c).2.2
   .refine V g _ d ?_ h
    rw[dk,c4 A,ea,c4 A]
    rfl
def anR(P:Nat)(B:Nat->Prop)(m:World)(pv:Value)(d:List ay)(aq:2<=P)(ai:d.length<=140737488355328)(ao:VI B m (.dw [.vs 2 (d.map ay.enc)] 0) pv):
 ∃H:List Value,H.length=d.length/\(∀(i:Nat) (h:ay) (v:Value),d[i]?=c3 h->H[i]?=c3 v->VI B m (ay.enc h) v)/\vy P c7 326 #[pv] H (λg=>∀b,B b->g.heap[b]?=m.heap[b]?):=by
 cases ao with
 |dw _ _ b aj U ad af ax k=>
  have ah:=af 0 _ rfl;have O:=k 0 _ rfl;have ag:∃G l D cap,∃(u t:Nat->Option Addr) (x y C o:Nat->Nat),U 0= .slice G d.length cap/\∀i:Nat,i<d.length->(G=c3 ⟨l,D,dT⟩/\B l/\m.cell? ⟨l,D+i*2,dT⟩=c3 (.slice (u i) (x i) (y i))/\m.cell? ⟨l,D+i*2+1,dT⟩=c3 (.slice (t i) (C i) (o i)))/\
   ∀h,d[i]?=c3 h->VI B m (ay.enc h) (.agg #[.slice (u i) (x i) (y i),.slice (t i) (C i) (o i)]):=by
   generalize A:d.map ay.enc=N at O;generalize U 0=z at O;cases O with
   |eX _ al cap=>
    have:d=[]:=eE.1 A;subst this;exact⟨al,0,0,cap,λ_=>dT,λ_=>dT,λ_=>0,λ_=>0,λ_=>0,λ_=>0,rfl,λi a=>by simp at a⟩
   |vs _ _ R aa cap u2 av an aw T aB I=>
    have sl:∀i c:Nat,i<d.length->c<2->∃p F w,u2 i c= .slice p F w:=λi c a e=>by
     have M:∃S ab,abk N i c=c3 (.vs S ab):=by
      rw[<-A];unfold abk;rw[dk,c4 a]
      match c,e with
      |0,_=>exact⟨_,_,rfl⟩
      |1,_=>exact⟨_,_,rfl⟩
     obtain⟨S,ab,M⟩:=M;have Y:=I i c _ M;generalize u2 i c=z at Y⊢;cases Y with
     |eX=>exact⟨_,_,_,rfl⟩
     |vs=>exact⟨_,_,_,rfl⟩
    let J:Value->Option Addr:=λv=>match v with | .slice p _ _=>p |_=>dT
    let K:Value->Nat:=λv=>match v with | .slice _ F _=>F |_=>0
    let L:Value->Nat:=λv=>match v with | .slice _ _ w=>w |_=>0
    have W:∀i c:Nat,i<d.length->c<2->Value.slice (J (u2 i c)) (K (u2 i c)) (L (u2 i c))=u2 i c:=λi c a e=>by
     obtain⟨p,F,w,X⟩:=sl i c a e;rw[X]
    refine⟨c3 ⟨R,aa,dT⟩,R,aa,cap,λi=>J (u2 i 0),λi=>J (u2 i 1),λi=>K (u2 i 0),λi=>L (u2 i 0),λi=>K (u2 i 1),λi=>L (u2 i 1),by rw[<-A];simp,λi a=>?_⟩
    have Z:abk N i 0=c3 (.vs 1 ((d[i]).aw.map (PV.int .i64))):=by
     rw[<-A];unfold abk;rw[dk,c4 a]
     rfl
    have E:∃q,abk N i 1=c3 q/\ay.enc d[i]= .agg [.vs 1 ((d[i]).aw.map (PV.int .i64)),q]:=by
     rw[<-A];unfold abk;rw[dk,c4 a];exact⟨_,rfl,rfl⟩
    obtain⟨q,E,au⟩:=E;dsimp only;rw[W i 0 a (by omega),W i 1 a (by omega)];refine⟨⟨rfl,an,T i 0 _ Z,T i 1 _ E⟩,λh j=>?_⟩
    rw[c4 a] at j;injection j with j
    subst j;rw[au];refine .agg _ [u2 i 0,u2 i 1] rfl λc w az e f=>?_
    match c,e,f with
    |0,e,f=>
     injection e with e
     injection f with f
     subst e;subst f;exact I i 0 _ Z
    |1,e,f=>
     injection e with e
     injection f with f
     subst e;subst f;exact I i 1 _ E
  obtain⟨G,l,D,cap,u,t,x,y,C,o,ap,n⟩:=ag
  let val:Nat->Value:=λi=>.agg #[.slice (u i) (x i) (y i),.slice (t i) (C i) (o i)]
  refine⟨(List.range d.length).map val,by simp,λi h v j k=>?_,λae am g Q ac ar h0=>?_⟩
  .have a:=(ef.1 j).1;rw[dk,hz a] at k;injection k with k
   subst k;exact(n i a).2 h j
  .refine(akF P aq ae b aj l D cap d.length G ai u t x y C o am (λr g s=>⟨?_,λi a=>⟨(n i a).1.1,?_,?_⟩⟩) ac (λr g ak s=>?_) g h0).mono λX aA V=>⟨V.1,by rw[h8,List.length_range];exact V.2⟩
   .rw[oW (Q r g s) ad, <-ap];exact ah
   .rw[oW (Q r g s) (n i a).1.2.1];exact(n i a).1.2.2.1
   .rw[oW (Q r g s) (n i a).1.2.1];exact(n i a).1.2.2.2
   .refine ar r _ g ?_ s
    rw[dk,hz ak]
    rfl
def SQ{b:Type}{by_:Nat}{a r:List b}(e:bj by_ [] a=c3 r):a.length*by_<=140737488355328/\r=a:=by
 obtain⟨d,c⟩:=AN e;exact⟨by simpa using d,by simpa using c.symm⟩
def u6:∀b:List Oper,(b.all λa=>match a.op with | .defer _=>false |_=>true)=true->∀a,a∈b->∀c,a.op≠ .defer c:=λb f a e c d=>by
 have:=hL.1 f a e;rw[d] at this;cases this
def mL{c:Nat}:∀b:List Oper,(b.all λa=>fL c a.dst)=true->∀a,a∈b->fL c a.dst=true:=λb e a d=>hL.1 e a d
def K15(L:Lp):FT (C15 L):=O9 (L:=L) (n:=3) (t:=22) (by_:=8) (gf:=269) (xs:=λc=>c) (q0:=1) (v0:=1) (s0:=2) (s0':=1) (q1:=1) (v1:=2) (s1:=2) (s1':=2)
 (R0:=λ_ b=>[⟨2,1,.box 22 [.fl 1 1]⟩,⟨1,1,.aap 3 b⟩]) (R1:=λ_ b=>[⟨2,1,.box 22 [.fl 1 2]⟩,⟨2,2,.aap 3 b⟩])
 mixed dM Tryz.func308 rfl rfl rfl rfl rfl rfl (by kernel_rfl) (by omega) rfl rfl (mL _ rfl) (u6 _ rfl) (mL _ rfl) (u6 _ rfl) (λ_=>rfl) (λc=>⟨_,rfl,_,rfl,rfl,rfl⟩) (pA ie rfl rfl) aoU
 (λa=>rfl) (λa d=>rfl) (λa=>by kernel_rfl) (λa d=>by kernel_rfl) (λa b=>⟨rfl,rfl,by omega⟩) (λa b=>⟨rfl,rfl,by omega⟩)
 (λc r f=>by
  obtain⟨e,rfl⟩:=SQ (by_:=8) f;exact⟨e,rfl,rfl,λh0=>by cases h0;rfl⟩)
def U9(L:Lp):FT (U0 L):=O9 (L:=L) (n:=140) (t:=44) (by_:=48) (gf:=326) (xs:=λc=>c) (q0:=2) (v0:=1) (s0:=2) (s0':=1) (q1:=1) (v1:=2) (s1:=2) (s1':=2)
 (R0:=λ(a:ay) b=>[⟨2,1,.box 44 [.fl 2 1]⟩,⟨2,1,.box 140 [.row 3 a.aw,.row 142 a.aH]⟩,⟨1,1,.aap 140 b⟩]) (R1:=λ(a:ay) b=>[⟨2,1,.box 44 [.fl 1 2]⟩,⟨2,2,.aap 140 b⟩,⟨2,1,.box 140 [.row 3 a.aw,.row 142 a.aH]⟩])
 mixed dM Tryz.func337 rfl rfl rfl rfl rfl rfl (by kernel_rfl) (by omega) rfl rfl (mL _ rfl) (u6 _ rfl) (mL _ rfl) (u6 _ rfl) (λ_=>rfl) (λc=>⟨_,rfl,_,rfl,rfl,rfl⟩) (pA ih rfl rfl) anR
 (λa=>rfl) (λa d=>rfl) (λa=>by kernel_rfl) (λa d=>by kernel_rfl) (λa b=>⟨rfl,rfl,by omega⟩) (λa b=>⟨rfl,rfl,by omega⟩)
 (λc r f=>by
  obtain⟨e,rfl⟩:=SQ (by_:=48) f;exact⟨e,rfl,rfl,λh0=>by cases h0;rfl⟩)
end Go.X.T
namespace Go.X
open Go Go.Aml Go.Bml Go.RowKit
def IX:List (Code×List (Nat×Hn))->Code->Code
 |[],a=>a
 |b::c,a=>.seq b.1 (IX c a)
section
variable {P:Program}{B:Tb}{R:Type}{r:R}
def AS(c:Lp)(B:Tb)(P:Program)(e:List (aq B))(d:Nat){R:Type}:List (Code×List (Nat×Hn))->(Nat->St B.D->Option R)->St B.D->Option R
 |[],b,a=>b 0 a
 |g::h,b,a=>exec c B P e d g.2 g.1 1 (λf a=>bif ee f 0 then AS c B P e d h b a else b f a) a
def RB(a:Nat):List (Code×List (Nat×Hn))->Bool
 |[]=>true
 |b::c=>bif gB a b.1 then RB a c else false
def Ck{l n:Nat}{o:Region.Mode}{g:Array Oper}{k:Exit->Act->World->Prop}(e:∀c b,¬k .outgrown c b)(f:∀(i:Nat) (h:Oper),g[i]?=c3 h->∀u,h.op≠ .defer u):∀(d:Nat) (bN:Array Bool) (c:Act) (b:World),wpAny P o g k d bN c b->wpAnyIn (c6.inRound l) n P o g k d bN c b
 |0,_,_,_,a=>a
 |d+1,bN,c,b,⟨h0,s⟩=>by
  refine⟨h0,λi p=>?_⟩
  have a:=s i p;unfold wpOp at a;unfold wpOpIn;cases m:g[i]? with
  |none=>
   rw[m] at a;exact Ck e f d _ c b a
  |some h=>
   rw[m] at a;simp only at a⊢
   split at a
   .rename_i j;rw[if_pos j];rcases a with a |⟨_,t,q,a⟩
    .exact PP (f i h m) (λc b a=>Ck e f d _ c b a) a
    .exact(e t q a).elim
   .rename_i j;rw[if_neg j];exact⟨λ_ _=>trivial,Ck e f d _ _ _ a⟩
def EB(s:P.follows .mixedOrders=true)(e:cU P B){j:Lp}{d:List (aq B)}(o:∀a,a∈d->Fits P B a){a:aq B}{fn:Func}{code:Code}{rs:List ResultVar}{hs:List (Nat×Hn)}(l:P.funcs[a.cO]?=c3 fn)(f:fn.body=c3 code)(k:(fn.name== "runtime.NumGoroutine")=false)
 (m:fn.results=rs.toArray) (q:ev a.na fn.ntmps=true) (n:gB fn.ntmps code=true) (t:ev a.low (len a.par.dF)=true) (i:lY 0 rs.length a.az.dE=true) (p:∀b c,a.F b=c3 c->gl j B P d a rs code hs b=c3 c):Fits P B a:=by
 refine ti e l f k m q i λb c g=>?_
 have h:a.low<=(cz B a.par b).H.length:=by
  rw[A7, <-eu];exact e0 t
 exact(gO s e o code 1 _ _ _ (p b c g) n h).mono nP
def aed(s:P.follows .mixedOrders=true)(e:cU P B){j:Lp}{a:aq B}{fn:Func}{code:Code}{rs:List ResultVar}{hs:List (Nat×Hn)}(l:P.funcs[a.cO]?=c3 fn)(f:fn.body=c3 code)(k:(fn.name== "runtime.NumGoroutine")=false)
 (m:fn.results=rs.toArray) (q:ev a.na fn.ntmps=true) (n:gB fn.ntmps code=true) (u:ev a.low (len a.par.dF)=true) (i:lY 0 rs.length a.az.dE=true) (p:∀b c,a.F b=c3 c->∃d:List (aq B),(∀a,a∈d->Fits P B a)/\gl j B P d a rs code hs b=c3 c):Fits P B a:=by
 refine ti e l f k m q i λb c g=>?_
 have h:a.low<=(cz B a.par b).H.length:=by
  rw[A7, <-eu];exact e0 u
 obtain⟨d,o,t⟩:=p b c g;exact(gO s e o code 1 _ _ _ t n h).mono nP
def afO(t:P.follows .mixedOrders=true)(f:cU P B){k:Lp}{a:aq B}{fn:Func}{code:Code}{rs:List ResultVar}(m:P.funcs[a.cO]?=c3 fn)(g:fn.body=c3 code)(l:(fn.name== "runtime.NumGoroutine")=false)
 (n:fn.results=rs.toArray) (s:ev a.na fn.ntmps=true) (o:gB fn.ntmps code=true) (v:ev a.low (len a.par.dF)=true) (j:lY 0 rs.length a.az.dE=true) (q:∀b c,a.F b=c3 c->∃(d:List (aq B)) (e:List (Nat×Hn)),(∀a,a∈d->Fits P B a)/\gl k B P d a rs code e b=c3 c):Fits P B a:=by
 refine ti f m g l n s j λb c h=>?_
 have i:a.low<=(cz B a.par b).H.length:=by
  rw[A7, <-eu];exact e0 v
 obtain⟨d,e,p,u⟩:=q b c h;exact(gO t f p code 1 _ _ _ u o i).mono nP
end
def ji(b:List Deferred)(a:Act):Act:={a with defers:=b}
def xM{c:List Deferred}{b:Act}{a:Option Tmp}{v:Value}:(ji c b).put a v=ji c (b.put a v):=by
 cases a <;> rfl
def amK{b:List Deferred}{a:Act}:(ji b a).eval=a.eval:=rfl
section
variable {P:Program}{B:Tb}
def pK(P:Program)(d:Oper):Prop:=∀(e:Act) (c:World) (b:Deferred) (a:World),(execOp e.eval d).run P c≠ .ok (.defer b) a
def aeJ{e:List Deferred}{d:Oper}{a:Act}{b:World}{s g:Act->World->Prop}{o q:Exit->Act->World->Prop}(z:pK P d)(n:∀k a b,o k a b->q k (ji e a) b)(j:∀a b,s a b->g (ji e a) b)(c:d.wp P a b s o):d.wp P (ji e a) b g q:=by
 unfold j7 at c⊢;rw[amK];have p:=z a b;generalize (execOp a.eval d).run P b=r at c p⊢;cases r with
 |ok w i=>
  cases w with
  |value v=>
   show g ((ji e a).put d.dst v) i
   rw[xM];exact j _ _ c
  |skip=>
   show g ((ji e a).put d.dst undef) i
   rw[xM];exact j _ _ c
  |defer y=>exact absurd rfl (p y i)
  |enter f args=>
   refine Calls.mono (show Calls P f args i _ from c) ?_
   intro k m h;cases k with
   |returned v=>
    show g ((ji e a).put d.dst v) m
    rw[xM];exact j _ _ h
   |panicked l=>exact n _ _ _ h
   |outgrown=>obtain⟨C,A,x⟩:=h;exact⟨_,_,n _ _ _ x⟩
  |row row args=>
   intro l t;obtain⟨v,m,h,u⟩:=c l t;refine⟨v,m,?_,u⟩
   show g ((ji e a).put d.dst v) m
   rw[xM];exact j _ _ h
  |_=>exact c.elim
 |halt l i=>
  cases l with
  |panic v=>exact n _ _ _ c
  |_=>exact c.elim
def Lv{h:List Deferred}{all:Array Oper}{i m:Exit->Act->World->Prop}(f:∀l b c,i l b c->m l (ji h b) c):∀(e:List Oper) (b:Act) (c:World),(∀d,d∈e->pK P d)->wpList P all i e b c->wpList P all m e (ji h b) c
 |[],_,_,_,a=>f _ _ _ a
 |d::e,b,c,j,a=>by
  unfold wpList at a⊢;have k:=λb c=>Lv (all:=all) f e b c λd o=>j d (h9 _ o)
  show if Region.wanted d (yielded all b.tmps) then _ else _
  split at a
  .rename_i g;rw[if_pos g];rcases a with a |⟨n,q,p,a⟩
   .exact .inl (aeJ (j d hB) f k a)
   .exact .inr ⟨n,_,_,f _ _ _ a⟩
  .rename_i g;rw[if_neg g,xM];exact k _ _ a
def Hv(O:cU P B){t:List (aq B)}(L:∀l,l∈t->Fits P B l){m nt y:Nat}{A:List Nat}{d:List Oper}{a:St B.D}{x:Type}{r:x}{s:St B.D->Option x}{g:Gh}{k:Act}{e:World}{v:List Deferred}{Q:Exit->Act->World->Prop}
 (R:Rel g nt (aU B a.E) (av B a.H) k e) (N:ops B P t A d (λ_ a=>s a) 0 d [] a=c3 r) (D:∀f,f∈d->fL nt f.dst=true) (S:∀f,f∈d->pK P f)
 (M:∀j u o w,s j=c3 r->Rel w nt (aU B j.E) (av B j.H) u o->Bml.GStep m g (av B a.H) e w (av B j.H) o->Q .normal (ji v u) o):(j5 y d.toArray false).wp P Q (ji v k) e:=by
 obtain⟨V,i,H,F⟩:=qg O L N;have C:=yW (nt:=nt) (n:=m) (Q:=λh q p=>h= .normal/\q=aU B i.E/\p=av B i.H) H D ⟨rfl,rfl,rfl⟩;have I:=C g k e R (eI nt m g (av B a.H) e λh q p=>h= .normal/\q=aU B i.E/\p=av B i.H) (λ_ _ _ b=>b);refine wp_region_lit (Lv ?_ d k e S I)
 intro h J K c;cases h with
 |normal=>
  obtain⟨U,H3,z,⟨_,rfl,rfl⟩,G,E⟩:=c;exact M i J K z F G E
 |exit y=>obtain⟨_,_,_,⟨b,_⟩,_⟩:=c;cases b
 |ret=>obtain⟨_,_,_,⟨b,_⟩,_⟩:=c;cases b
 |goto T=>obtain⟨_,_,_,⟨b,_⟩,_⟩:=c;cases b
 |panic l=>exact c.elim
 |outgrown=>exact c.elim
def Xn(D:cU P B){c:aq B}{fn:Func}{rs:List ResultVar}{y:Nat}(R:fn.results=rs.toArray)(J:lY 0 rs.length c.az.dE=true){j:St B.D}{k:bi B.D c.az.bX}(U:(nh B P j 0 rs [] λV=>take B c.low c.az ⟨V,j.H⟩ c3)=c3 k){t:Gh}{h:Act}{a:World}(E:Rel t y (aU B j.E) (av B j.H) h a):
 ∃v f,(results fn h.tmps).run P a= .ok v a/\bF f (av B (cz B c.az k).H) a/\Bml.GStep c.low t (av B j.H) a f (av B (cz B c.az k).H) a/\VR f (av B (cz B c.az k).H) a (pv B (kR (cz B c.az k).E)) v:=by
 obtain⟨vs,Y,N,G⟩:=H4 D U;obtain⟨g,O,X,M⟩:=G t y h a E;obtain⟨l,q,f,Q,K,I⟩:=EK D N E.m;injection q with q
 subst q;have p:∃e:List (TV B.D),e.length=rs.length/\(cz B c.az l).E=fi 0 e:=by
  unfold cz nI;exact GW J
 obtain⟨e,u,p⟩:=p;have x:∀(i:Nat) (n:TV B.D) (v:Value),e[i]?=c3 n->g[i]?=c3 v->VR f (av B (cz B c.az l).H) a (pv B n) v:=λi n v d s=>by
  have A:i<vs.length:=by have:=c9 d;omega
  have m:=M i _ v (c4 A) s;have r:=I i v (by
   rw[Jz,if_pos (e4 _),Nat.sub_zero,c4 A];exact m)
  rw[p] at r;have z:=Dz e 0 i;rw[Nat.zero_add] at z;rw[z,d] at r;exact r
 have H:∃v,(results fn h.tmps).run P a= .ok v a/\VR f (av B (cz B c.az l).H) a (pv B (kR (cz B c.az l).E)) v:=by
  have W:(fn.results.mapM (yR h.tmps)).run P a= .ok g.toArray a:=by
   rw[R,Array.mapM_eq_mapM_toList];simp only[Sem.run_map,O,ft]
  rw[ND,hX,W,ft,p]
  by_cases m:g.length=1
  .obtain⟨C,rfl⟩:=gy.1 m;obtain⟨o,rfl⟩:=gy.1 (show e.length=1 by omega);exact⟨C,rfl,x 0 o C rfl rfl⟩
  .refine⟨.tuple g.toArray,?_,?_⟩
   .rw[Sem.run_pure]
    congr 1
    exact dif_neg (by simpa using m)
   .have:kR (fi 0 e)= .bu e:=by
     match e,u with
     |[],_=>rfl
     |[o],u=>simp at u;omega
     |T::b::F,_=>exact congrArg TV.bu (GN (T::b::F) 0)
    rw[this];refine .bu _ g (by rw[db,h8];omega) λi n v d s=>?_
    rw[db,dk] at d;cases w:e[i]? with
    |none=>rw[w] at d;cases d
    |some o=>
     rw[w] at d;injection d with d
     subst d;exact x i o v w s
 obtain⟨v,L,S⟩:=H;exact⟨v,f,L,Q,K,S⟩
end
end Go.X
namespace Go.X.T
open Go Go.Aml Go.Bml Go.X Go.RowKit Go.Proofs
attribute [local go_sem] h5
def ai5(m:Nat)(hm:2<=m)(l b off b2 off2 sb so cap N:Nat)(ad:Option Addr)(hN:N*2<=140737488355328)(J:Nat->World->Prop)
 (hr:∀k W,J k W->W.cell? ⟨b,off,dT⟩=c3 (.slice ad (N*2) cap)/\W.cell? ⟨b2,off2,dT⟩=c3 (.int .i64 2)/\N*2<=cap/\(0<N->ad=c3 ⟨sb,so,dT⟩))
 (hJb:∀k W W',J k W->Below W.heap.size W W'->J k W')
 (hy:∀k W,k<N->J k W->YieldAt c6 (m -1) c7 l #[.slice (c3 ⟨sb,so+k*2,dT⟩) 2 2] W λe W'=>e= .returned (.bool true)/\J (k+1) W') (W:World) (h0:J 0 W):
 CallsIn c6 m c7 139 #[.func (.yield l) #[] #[],.pointer (c3 ⟨b,off,dT⟩),.pointer (c3 ⟨b2,off2,dT⟩)] W λe W'=>(∃v,e= .returned v)/\J N W':=by
 have h139:c6.fn 139:=trivial;refine callsIn_of_wp Tryz.func139 rfl h139 ?_ rfl
 have hc0:=(hr 0 W h0).1;simp only[Tryz.ntmps139,ga,gv,h6,Nat.reduceAdd,Nat.reduceSub,ey,ez,gb,eH,h7,gx]
 gi_wp2
 gi_loopw [4] (λvi (wr:World)=>∃k:Nat,vi= .int .i64 ((k*2:Nat):Int)/\k<=N/\J k wr) (λvi _=>match vi with | .int _ k=>N*2 -k.toNat |_=>0)
 case atStart=>exact⟨0,rfl,e4 _,h0⟩
 case round=>
  obtain⟨k,rfl,hk,hJ⟩:=hrel;obtain⟨hc,hc2,hcap,had⟩:=hr k _ hJ
  by_cases hlt:k<N
  .obtain rfl:=had (by omega);have hb0:(0:Int)<=(k:Int)*2:=by omega
   have hb1:(k:Int)*2+2<=(N:Int)*2:=by omega
   have hb2:(N:Int)*2<=(cap:Int):=by omega
   gi_wp2
   gi_region
   have hJ2:=hJb k wr wr.drew hJ (j6 _ _).drew;obtain⟨hcd,hcd2,_,_⟩:=hr k _ hJ2;obtain⟨fn,tmps,assign,body,hyy,hR⟩:=hy k _ hlt hJ2
   gi_wp2
   have e2:k*2+2 -k*2=2:=by omega
   try simp only[e2]
   refine⟨λh=>by simp[c6] at h,hR.mono ?_⟩
   rintro e W3 ⟨rfl,hJ3⟩;obtain⟨_,hc3,_,_⟩:=hr (k+1) _ hJ3
   gi_wp2
   go_roundw
   case rel=>exact⟨k+1,congrArg (hK .i64) (by omega),by omega,hJ3⟩
   case measure=>
    show N*2 - ((k:Int)*2+2).toNat<N*2 - ((k:Int)*2).toNat
    omega
  .have:k=N:=by omega
   subst this
   gi_wp2
   go_end0
   exact⟨⟨_,rfl⟩,hJ⟩
end Go.X.T
