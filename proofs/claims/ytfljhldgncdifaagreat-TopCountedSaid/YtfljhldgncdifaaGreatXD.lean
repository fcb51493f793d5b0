/- For TopCounted, part 4. -/
import Derived.Test.YtfljhldgncdifaaGreatXC
import Derived.Lib.SliceRun
import Derived.Laws.Entries
import Derived.RangeFuncNested
import Derived.RangeFuncBound
import Derived.RangeFuncCalls
import Derived.RangeFuncLeaves
import Derived.RangeFuncBox
import Derived.WalkKit
import Derived.OwnWalkIn
import Derived.TacticsInMore
import Derived.LoopNIn
import Derived.LoopIn
import Derived.Stop.RegionWithIn
import Derived.BigRegionIn
set_option linter.defProp false
set_option linter.unusedVariables false
set_option linter.unusedSimpArgs false
set_option maxHeartbeats 0
set_option maxRecDepth 100000
set_option maxHeartbeats 2000000
open Option renaming some → c3, none → dT
open List renaming getElem?_eq_getElem → c4, getElem?_map → dk, eq_nil_of_length_eq_zero → e5, getD_eq_getElem?_getD → ea, getElem?_eq_some_iff → ef, not_mem_nil → ej, map_eq_nil_iff → eE, append_toArray → eH, size_toArray → ga, push_toArray → gb, length_cons → gv, cons_append → gx, length_eq_one_iff → gy, length_nil → h6, nil_append → h7, length_map → h8, mem_cons_of_mem → h9, getElem?_range → hz, mem_cons_self → hB, mem_map → hD, all_eq_true → hL
open Array renaming getElem?_eq_some_iff → c5, getD_eq_getD_getElem? → dd, getElem?_setIfInBounds_self_of_lt → dv, replicate_succ → ey, replicate_zero → ez, replicate → hM
open Go.Fence renaming wide → c6
open Go.Proofs.Tryz renaming prog → c7, func211 → hS, func102 → hU, func269 → ie, func326 → ih, func96 → j1, func97 → j2, func99 → j3, func98 → j4
open Go.World renaming putObj_heap_other → dt, alloc_heap_new → e6, putObj_heap_same → ei, size_alloc → hI
open Nat renaming le_of_ble_eq_true → e0, zero_le → e4, beq → ee, ble → ev, le_trans → fe, le_refl → hq, lt_or_ge → hY
open Bool renaming and_eq_true → ec
open Go.RowKit.Below renaming heap_alloc → eo, refl → j6
open Go.Result renaming andThen_ok → ft
open Go.Oper renaming semAt_some → h5, semAt_eq → hQ, wp → j7
open Go.Value renaming int → hK
open Option.some renaming inj → hP
open Go.Sem renaming run_bind → hX
open Go.Code renaming region → j5
namespace Go.X.T
open Go Go.Aml Go.Bml Go.X Go.Proofs
def an3{a:Nat}{e:IntKind}{d:DT a=Int}(h:bh a=fA DT e d)(g:∀c,(BT.ty a).enc c= .int e (dA d c):=by(intro c;rfl))(b:BT.sz a=1:=by rfl)(f:cH c7 a=c3 1:=by kernel_rfl):cK c7 BT a (bh a):=by
 rw[h];exact vR g b f
def amR{a c:Nat}{e:DT a=List (DT c)}(j:bh a=bJ DT c e)(i:∀d,(BT.ty a).enc d= .vs (BT.sz c) ((dA e d).map (BT.ty c).enc):=by(intro d;rfl))(b:BT.sz a=1:=by rfl)(g:cH c7 a=c3 1:=by kernel_rfl)(h:BT.el a=c:=by rfl)(f:BT.flat a=false:=by rfl):cK c7 BT a (bh a):=by
 rw[j];exact iA i b g h f
def amd{a:Nat}(c:bf a=bh a)(b:cK c7 BT a (bh a)):cN c7 BT a (bf a):=by
 rw[c];exact b.ok
def O0:List Nat:=[3,4,5,22,27,28,31,32,33,36,41,44,53,54,62,67,95,107,134,138,159,161,167,168,179,181,247,272,309]
def eY:∀a,a∈O0->cK c7 BT a (bh a):=F2 O0 ⟨an3 (rfl:bh 3=fA DT .i64 rfl),(show cK c7 BT 4 (bh 4) from(show bh 4=nE DT rfl from rfl)▸agM (λ_=>rfl) rfl (by kernel_rfl)),an3 (rfl:bh 5=fA DT .u8 rfl),amR (rfl:bh 22=bJ DT 3 rfl),amR (rfl:bh 27=bJ DT 117 rfl),amR (rfl:bh 28=bJ DT 115 rfl),amR (rfl:bh 31=bJ DT 88 rfl),amR (rfl:bh 32=bJ DT 120 rfl),(show cK c7 BT 33 (bh 33) from(show bh 33=lx DT 22 3 rfl rfl from rfl)▸alG (λ_=>rfl) (λ_=>rfl) rfl (by kernel_rfl) rfl rfl),amR (rfl:bh 36=bJ DT 90 rfl),amR (rfl:bh 41=bJ DT 101 rfl),amR (rfl:bh 44=bJ DT 140 rfl),amR (rfl:bh 53=bJ DT 75 rfl),amR (rfl:bh 54=bJ DT 83 rfl),amR (rfl:bh 62=bJ DT 65 rfl),an3 (rfl:bh 67=fA DT .i64 rfl),amR (rfl:bh 95=bJ DT 5 rfl),amR (rfl:bh 107=bJ DT 97 rfl),(show cK c7 BT 134 (bh 134) from(show bh 134=iR DT rfl from rfl)▸Lq (λ_=>rfl) rfl (by kernel_rfl)),amR (rfl:bh 138=bJ DT 142 rfl),amR (rfl:bh 159=bJ DT 161 rfl),(show cK c7 BT 161 (bh 161) from(show bh 161=iR DT rfl from rfl)▸Lq (λ_=>rfl) rfl (by kernel_rfl)),amR (rfl:bh 167=bJ DT 174 rfl),amR (rfl:bh 168=bJ DT 4 rfl),an3 (rfl:bh 179=fA DT .u64 rfl),an3 (rfl:bh 181=fA DT .u64 rfl),amR (rfl:bh 247=bJ DT 251 rfl),amR (rfl:bh 272=bJ DT 275 rfl),amR (rfl:bh 309=bJ DT 312 rfl),trivial⟩
def alp{a:Nat}{e:Type}{ns:List Nat}{mk:bi DT ns->e}{d:e->bi DT ns}{g:DT a=e}(j:bf a=cw DT bh ns mk d g)(p:∀b,b∈ns->b∈O0:=by exact e8 (by decide))(l:∀f,d (mk f)=f:=by(intro f;rfl))(i:∀c,(BT.ty a).enc c= .agg (mJ BT ns (d (dA g c))):=by(intro c;rfl))(m:BT.sz a=ns.length:=by rfl)(o:0<ns.length:=by decide)(k:cH c7 a=c3 ns.length:=by kernel_rfl)(n:BT.flat a=true->∀b,b∈ns->BT.flat b=true:=by decide):cN c7 BT a (bf a):=by
 rw[j];exact eS (λb h=>eY b (p b h)) l i m o k n
def RH:List Nat:=[3,4,5,22,27,28,30,31,32,33,35,36,38,40,41,43,44,46,48,50,52,53,54,56,60,62,65,67,75,83,88,90,95,97,101,106,107,115,117,120,134,138,140,142,144,159,161,167,168,170,174,179,181,222,230,247,251,272,275,283,309,312,333]
def aqD:∀a,a∈RH->cN c7 BT a (bf a):=F2 RH ⟨amd rfl (eY 3 (by decide)),amd rfl (eY 4 (by decide)),amd rfl (eY 5 (by decide)),amd rfl (eY 22 (by decide)),amd rfl (eY 27 (by decide)),amd rfl (eY 28 (by decide)),alp (rfl:bf 30=cw DT bh [27,28] aof aop rfl),amd rfl (eY 31 (by decide)),amd rfl (eY 32 (by decide)),amd rfl (eY 33 (by decide)),alp (rfl:bf 35=cw DT bh [27,28,3,31,22,32,22,22,33] aow aoG rfl),amd rfl (eY 36 (by decide)),alp (rfl:bf 38=cw DT bh [22,22,22,3] aoM ao3 rfl),alp (rfl:bf 40=cw DT bh [22,3,3] apd ape rfl),amd rfl (eY 41 (by decide)),alp (rfl:bf 43=cw DT bh [22,22] apx apI rfl),amd rfl (eY 44 (by decide)),alp (rfl:bf 46=cw DT bh [44] apL apQ rfl),alp (rfl:bf 48=cw DT bh [3,22] aqd aqm rfl),alp (rfl:bf 50=cw DT bh [22,22,4] aqs aqz rfl),alp (rfl:bf 52=cw DT bh [3,3,3,3] aqB aqN rfl),amd rfl (eY 53 (by decide)),amd rfl (eY 54 (by decide)),alp (rfl:bf 56=cw DT bh [27,28,3,31,22,32,22,22,33,27,28,36,22,22,22,3,22,3,3,41,41,22,22,44,3,22,22,22,4,3,3,3,3,44,53,54] aqO aqP rfl),alp (rfl:bf 60=cw DT bh [27,28,32,22,22,36,22,22,22,3,22,3,3,22] aqR aqS rfl),amd rfl (eY 62 (by decide)),alp (rfl:bf 65=cw DT bh [3,3,3,3] aqU aqV rfl),amd rfl (eY 67 (by decide)),alp (rfl:bf 75=cw DT bh [3,3,3,3,3,4,4,3,3] aqW aqX rfl),alp (rfl:bf 83=cw DT bh [3,3,3,3,3,67,22] aqY aq0 rfl),alp (rfl:bf 88=cw DT bh [3,3,3] aq1 aq2 rfl),alp (rfl:bf 90=cw DT bh [3,3] aq3 aq7 rfl),amd rfl (eY 95 (by decide)),alp (rfl:bf 97=cw DT bh [3,3,95] aq8 aq9 rfl),alp (rfl:bf 101=cw DT bh [3,3,3,22] arb ard rfl),alp (rfl:bf 106=cw DT bh [95,3] are arh rfl),amd rfl (eY 107 (by decide)),alp (rfl:bf 115=cw DT bh [3,3,3,3,4,4,3,3,3,3] ari arj rfl),alp (rfl:bf 117=cw DT bh [3,4] ark arl rfl),alp (rfl:bf 120=cw DT bh [22,3,3,3] arn aro rfl),amd rfl (eY 134 (by decide)),amd rfl (eY 138 (by decide)),alp (rfl:bf 140=cw DT bh [22,138] arq art rfl),alp (rfl:bf 142=cw DT bh [3,22] aru arv rfl),alp (rfl:bf 144=cw DT bh [3,3] arw arx rfl),amd rfl (eY 159 (by decide)),amd rfl (eY 161 (by decide)),amd rfl (eY 167 (by decide)),amd rfl (eY 168 (by decide)),alp (rfl:bf 170=cw DT bh [3,167,168,168] ary arA rfl),alp (rfl:bf 174=cw DT bh [3,3,3,3] arD arF rfl),amd rfl (eY 179 (by decide)),amd rfl (eY 181 (by decide)),alp (rfl:bf 222=cw DT bh [3,3,3] arG arH rfl),alp (rfl:bf 230=cw DT bh [27,28,36,22] arI arL rfl),amd rfl (eY 247 (by decide)),alp (rfl:bf 251=cw DT bh [3,3,3,3] arN arO rfl),amd rfl (eY 272 (by decide)),alp (rfl:bf 275=cw DT bh [3,3] arP arQ rfl),alp (rfl:bf 283=cw DT bh [3,3] arR arS rfl),amd rfl (eY 309 (by decide)),alp (rfl:bf 312=cw DT bh [3,3,3,3] arT arV rfl),alp (rfl:bf 333=cw DT bh [22,3,3,3,3,3,3,22,22,4,44,3,3] arW arX rfl),trivial⟩
def dM:cU c7 BT:=afw bf (λ_=>rfl) (λ_=>rfl) λa=>by
 rcases ahP (px IQ (a/16)) a with b |b
 .refine aqD a ?_
  obtain⟨p,e,rfl⟩:=hD.1 b;obtain⟨i,j,g⟩:=P5 _ _ _ e;have d:p.1∈(IQ.flatten.map λp=>p.1):=hD.2 ⟨p,List.mem_flatten.2 ⟨i,j,g⟩,rfl⟩;exact d
 .have f:Du a=⟨Empty,λ_=>.any⟩:=b;refine amI (λh=>?_) (amT _ _ (Qa _ _ (by decide)))
  have c:(Du a).T:=h;rw[f] at c;exact c.elim
def mixed:c7.follows .mixedOrders=true:=by kernel_rfl
abbrev FT(a:aq BT):Prop:=Fits c7 BT a
def f0:∀a,a∈([]:List (aq BT))->FT a:=λ_ b=>(ej b).elim
def fc{c:aq BT}{d:List (aq BT)}(e:FT c)(f:∀a,a∈d->FT a):∀a,a∈c::d->FT a:=λa b=>by
 rcases List.mem_cons.1 b with rfl |b
 .exact e
 .exact f a b
def chk(a:aq BT)(fn:Func):Bool:=fn.body.isSome&&!(fn.name== "runtime.NumGoroutine")&&ev a.na fn.ntmps&&gB fn.ntmps (fn.body.getD .skip)&&ev a.low (len a.par.dF)&&lY 0 fn.results.toList.length a.az.dE
def kf{L:Lp}{a:Lp->aq BT}{f:List (aq BT)}(hs:List (Nat×Hn))(m:∀a,a∈f->FT a){fn:Func}(i:c7.funcs[(a L).cO]?=c3 fn)(d:chk (a L) fn=true:=by kernel_rfl)
 (k:∀b,gl L BT c7 f (a L) fn.results.toList (fn.body.getD .skip) hs b=(a L).F b:=by(intro b;kernel_rfl)):FT (a L):=by
 unfold chk at d;rw[ec,ec,ec,ec,ec] at d;obtain⟨⟨⟨⟨⟨g,l⟩,h⟩,e⟩,n⟩,j⟩:=d;obtain⟨code,c⟩:=Option.isSome_iff_exists.1 g;refine FA (L:=L) (hs:=hs) mixed dM m i c (by simpa using l) (rs:=fn.results.toList) rfl h ?_ n j λb=>?_
 .rw[c] at e;exact e
 .have:=k b;rw[c] at this;exact this
end Go.X.T
namespace Go.X
open Go Go.Aml Go.Bml
section
variable {P:Program}{B:Tb}
def ahH{p A:Nat}{m:Env}{h:List aO}{d:Option Nat}{f s o q:TypeId}{r:String}{t:Array Edge}{c:Operand}{sz:Nat}{es:List PV}(D:PE m c= .vs sz es)(x:dU P f=c3 q)(w:fL p d=true):
 Hk P p A ⟨d,.binOp .eql f c (.const (.slice dT 0 0)) s,o,r,t,dT⟩ (λF C=>∃b,(b=true->es=[])/\F=li m d (.bool b)/\C=h) m h:=by
 intro g e j i K J H;have n:=D▸i.e.eval c;have v:∃a k cap,e.eval c= .slice a k cap/\(a.isNone=true->es=[]):=by
  generalize e.eval c=z at n;cases n with
  |aW l=>
   cases l with
   |eX _ a cap=>exact⟨a,0,cap,rfl,λ_=>rfl⟩
   |vs _ _ b I cap=>exact⟨c3 ⟨b,I,dT⟩,_,cap,rfl,λl=>by cases l⟩
 obtain⟨a,k,cap,E,u⟩:=v;have G:(execOp e.eval ⟨d,.binOp .eql f c (.const (.slice dT 0 0)) s,o,r,t,dT⟩).run P j= .ok (.value (.bool a.isNone)) j:=by
  have y:e.eval (.const (.slice dT 0 0))= .slice dT 0 0:=rfl;simp[execOp,E,y,eqGuard_at_slice,Lib.run_eql_slice_nil j f q a k cap 0 0 (gD x)]
 unfold j7;rw[G];exact H _ _ ⟨_,h,g,⟨a.isNone,u,rfl,rfl⟩,⟨i.m,i.e.tn w (.bool _)⟩,GStep.refl _ _ _ _⟩
def lc(t:P.follows .mixedOrders=true)(j:cU P B){L:Lp}{c:aq B}{fn:Func}{l i h:Code}{rs:List ResultVar}{x V J T a:TypeId}{U O:String}{Y N:Array Edge}{s n:Nat}{xs:bi B.D c.par.bX->List (B.D n)}
 (A:P.funcs[c.cO]?=c3 fn) (G:fn.body=c3 (.seq l (.seq (.seq (.region s [⟨c3 3,.move (.tmp 0),J,U,Y,dT⟩,⟨c3 4,.binOp .eql x (.tmp 3) (.const (.slice dT 0 0)) V,T,O,N,dT⟩].toArray false) i) h)))
 (S:(fn.name== "runtime.NumGoroutine")=false) (E:fn.results=rs.toArray) (K:ev c.na fn.ntmps=true) (H:lY 0 rs.length c.az.dE=true) (W:c.low=0) (I:dU P x=c3 a) (z:ev 5 fn.ntmps=true)
 (D:gB fn.ntmps l=true) (C:gB fn.ntmps i=true) (Z:gB fn.ntmps h=true)
 (F:∀d,cz B c.par d=⟨[(0,.row n (xs d))],[]⟩)
 (h0:∀d,exec L B P [] 0 [] l 1 (λa e=>bif ee a 0 then c3 e else dT) ⟨[(0,.row n (xs d))],[]⟩=c3 ⟨[(2,.bg),(0,.row n (xs d))],[]⟩)
 (X:∀d,xs d=[]->exec L B P [] 0 [] i 1 (λa e=>bif ee a 0 then exec L B P [] 0 [] h 1 (kL P c rs) e else kL P c rs a e) ⟨[(4,.bool true),(0,.row n (xs d))],[]⟩=(c.F d).bind c3)
 (M:∀d,exec L B P [] 0 [] i 1 (λa e=>bif ee a 0 then exec L B P [] 0 [] h 1 (kL P c rs) e else kL P c rs a e) ⟨[(4,.bool false),(0,.row n (xs d))],[]⟩=(c.F d).bind c3):Fits P B c:=by
 refine ti j A G S E K H λd m y=>?_
 rw[F,W];have p:∀c,c∈([]:List (aq B))->Fits P B c:=λ_ q=>(ej q).elim
 have z:5<=fn.ntmps:=e0 z;have v:∀k,k<5->fL fn.ntmps (c3 k)=true:=λk f=>by
  exact Nat.ble_eq_true_of_le (show k+1<=fn.ntmps by omega)
 refine rN ((gO t j p l 1 _ _ _ (h0 d) D (e4 _)).mono λa o H1 g=>?_)
 have Q:∀a (o:Env) (H1:List aO),qP B (λa e=>bif ee a 0 then exec L B P [] 0 [] h 1 (kL P c rs) e else kL P c rs a e) m a o H1->Ce (eT P fn.ntmps 0 h (qP B (kL P c rs) m)) (qP B (kL P c rs) m) a o H1:=by
  intro a o H1 g;cases a with
  |normal=>
   obtain⟨r,f,rfl,rfl⟩:=g;exact(gO t j p h 1 _ _ _ f Z (e4 _)).mono nP
  |ret=>exact g
  |exit s=>exact g
  |_=>exact g
 cases a with
 |normal=>
  obtain⟨r,_,f,rfl,rfl⟩:=g;injection f with f
  subst f;refine rN (rN (Lc (aae Pt (v 3 (by omega)) (KR rfl (ahH (sz:=B.sz n) (es:=(xs d).map (B.ty n).enc) (by rfl) I (v 4 (by omega))) ?_))))
  rintro ab H2 ⟨b,R,rfl,rfl⟩;refine Of ?_
  refine aht (aU B [(4,.bool b),(0,.row n (xs d))]) ⟨rfl,rfl,trivial⟩ ?_
  have aa:exec L B P [] 0 [] i 1 (λa e=>bif ee a 0 then exec L B P [] 0 [] h 1 (kL P c rs) e else kL P c rs a e) ⟨[(4,.bool b),(0,.row n (xs d))],[]⟩=c3 m:=by
   cases b with
   |true=>rw[X d (eE.1 (R rfl)),y];rfl
   |false=>rw[M d,y];rfl
  exact(gO t j p i 1 _ _ _ aa C (e4 _)).mono λa w u q=>Q a w u (nP a w u q)
 |ret=>obtain⟨r,_,f,_⟩:=g;cases f
 |exit s=>obtain⟨r,_,f,_⟩:=g;cases f
 |_=>exact g.elim
end
end Go.X
namespace Go.X.T
open Go Go.Aml Go.Bml Go.X Go.Proofs
def oh(L:Lp):FT (RL L):=lc (L:=L) (n:=117) (xs:=λa=>a) (rs:=[.tmp 2]) mixed dM j1 rfl rfl rfl rfl rfl rfl rfl rfl rfl rfl rfl (λ_=>rfl) (λ_=>by kernel_rfl) (λa b=>by cases b;kernel_rfl) (λa=>by kernel_rfl)
def sP(L:Lp):FT (Mq L):=lc (L:=L) (n:=115) (xs:=λa=>a) (rs:=[.tmp 2]) mixed dM j2 rfl rfl rfl rfl rfl rfl rfl rfl rfl rfl rfl (λ_=>rfl) (λ_=>by kernel_rfl) (λa b=>by cases b;kernel_rfl) (λa=>by kernel_rfl)
def Md(L:Lp):FT (Pv L):=lc (L:=L) (n:=88) (xs:=λa=>a) (rs:=[.tmp 2]) mixed dM hS rfl rfl rfl rfl rfl rfl rfl rfl rfl rfl rfl (λ_=>rfl) (λ_=>by kernel_rfl) (λa b=>by cases b;kernel_rfl) (λa=>by kernel_rfl)
def iY(L:Lp):FT (PI L):=lc (L:=L) (n:=3) (xs:=λa=>a) (rs:=[.tmp 2]) mixed dM j3 rfl rfl rfl rfl rfl rfl rfl rfl rfl rfl rfl (λ_=>rfl) (λ_=>by kernel_rfl) (λa b=>by cases b;kernel_rfl) (λa=>by kernel_rfl)
def oH(L:Lp):FT (OB L):=lc (L:=L) (n:=3) (xs:=λa=>a) (rs:=[.tmp 2]) mixed dM j3 rfl rfl rfl rfl rfl rfl rfl rfl rfl rfl rfl (λ_=>rfl) (λ_=>by kernel_rfl) (λa b=>by cases b;kernel_rfl) (λa=>by kernel_rfl)
def O8(L:Lp):FT (C69 L):=lc (L:=L) (n:=88) (xs:=λa=>a) (rs:=[.tmp 2]) mixed dM hS rfl rfl rfl rfl rfl rfl rfl rfl rfl rfl rfl (λ_=>rfl) (λ_=>by kernel_rfl) (λa b=>by cases b;kernel_rfl) (λa=>by kernel_rfl)
def G7(L:Lp):FT (C72 L):=lc (L:=L) (n:=90) (xs:=λa=>a) (rs:=[.tmp 2]) mixed dM j4 rfl rfl rfl rfl rfl rfl rfl rfl rfl rfl rfl (λ_=>rfl) (λ_=>by kernel_rfl) (λa b=>by cases b;kernel_rfl) (λa=>by kernel_rfl)
def IE(L:Lp):FT (C76 L):=lc (L:=L) (n:=75) (xs:=λa=>a) (rs:=[.tmp 2]) mixed dM hU rfl rfl rfl rfl rfl rfl rfl rfl rfl rfl rfl (λ_=>rfl) (λ_=>by kernel_rfl) (λa b=>by cases b;kernel_rfl) (λa=>by kernel_rfl)
def yo(L:Lp):FT (abt L):=lc (L:=L) (n:=115) (xs:=λa=>a) (rs:=[.tmp 2]) mixed dM j2 rfl rfl rfl rfl rfl rfl rfl rfl rfl rfl rfl (λ_=>rfl) (λ_=>by kernel_rfl) (λa b=>by cases b;kernel_rfl) (λa=>by kernel_rfl)
def akq(L:Lp):FT (aoO L):=lc (L:=L) (n:=117) (xs:=λa=>a) (rs:=[.tmp 2]) mixed dM j1 rfl rfl rfl rfl rfl rfl rfl rfl rfl rfl rfl (λ_=>rfl) (λ_=>by kernel_rfl) (λa b=>by cases b;kernel_rfl) (λa=>by kernel_rfl)
def apm(L:Lp):FT (Vb L):=lc (L:=L) (n:=140) (xs:=λa=>a) (rs:=[.tmp 2]) mixed dM Tryz.func236 rfl rfl rfl rfl rfl rfl rfl rfl rfl rfl rfl (λ_=>rfl) (λ_=>by kernel_rfl) (λa b=>by cases b;kernel_rfl) (λa=>by kernel_rfl)
def anc(L:Lp):FT (afV L):=lc (L:=L) (n:=75) (xs:=λa=>a) (rs:=[.tmp 2]) mixed dM hU rfl rfl rfl rfl rfl rfl rfl rfl rfl rfl rfl (λ_=>rfl) (λ_=>by kernel_rfl) (λa b=>by cases b;kernel_rfl) (λa=>by kernel_rfl)
def VN(L:Lp):FT (aeW L):=lc (L:=L) (n:=90) (xs:=λa=>a) (rs:=[.tmp 2]) mixed dM j4 rfl rfl rfl rfl rfl rfl rfl rfl rfl rfl rfl (λ_=>rfl) (λ_=>by kernel_rfl) (λa b=>by cases b;kernel_rfl) (λa=>by kernel_rfl)
end Go.X.T
namespace Go.X
open Go Go.Aml Go.Bml Go.RowKit
section
variable {P:Program}{B:Tb}
def PP{e s:Nat}{h:Oper}{b:Act}{c:World}{l k:Act->World->Prop}{m:Exit->Act->World->Prop}(n:∀d,h.op≠ .defer d)(i:∀b c,l b c->k b c)(a:h.wp P b c l m):h.wpIn (c6.inRound e) s P b c k m:=by
 refine⟨λf _=>trivial,?_⟩
 rw[show(c6.inRound e).round=c3 e from rfl,h5 e b.eval h n];unfold j7 at a;generalize (execOp b.eval h).run P c=r at a;cases r with
 |ok p q=>
  cases p with
  |value v=>exact i _ _ a
  |skip=>exact i _ _ a
  |defer w=>exact i _ _ a
  |enter f args=>
   refine⟨λa=>by simp[c6] at a,(CallsIn.inRound e (callsIn_wide.2 a)).mono λt j g=>?_⟩
   cases t with
   |returned v=>exact i _ _ g
   |panicked d=>exact g
   |outgrown=>exact g
  |row row args=>
   refine⟨λa=>by simp[c6] at a,λd o _=>?_⟩
   obtain⟨v,j,g,u⟩:=a d o;exact⟨v,j,i _ _ g,stepsIn_wide.2 u⟩
  |_=>exact a.elim
 |halt d q=>
  cases d with
  |panic v=>exact a
  |_=>exact a.elim
def Mn{l n:Nat}{all:Array Oper}{g:Exit->Act->World->Prop}(i:∀b c,¬g .outgrown b c):∀(e:List Oper) (b:Act) (c:World),(∀d,d∈e->∀m,d.op≠ .defer m)->wpList P all g e b c->wpListIn (c6.inRound l) n P all g e b c
 |[],_,_,_,a=>a
 |d::e,b,c,h,a=>by
  unfold wpList at a;unfold wpListIn;have j:=λb c=>Mn (l:=l) (n:=n) (all:=all) i e b c λd p=>h d (h9 _ p)
  split at a
  .rename_i f;rw[if_pos f];rcases a with a |⟨_,k,o,a⟩
   .exact PP (h d hB) j a
   .exact(i k o a).elim
  .rename_i f;rw[if_neg f];exact⟨λ_ _=>trivial,j _ _ a⟩
def GStep.lF{n:Nat}{s g:Gh}{H0 H:List aO}{o d w':World}(h:Bml.GStep n s H0 o g H d)(m:bF g H d)(w:w'.os=d.os)(ht:w'.tape=d.tape)(k:w'.output=d.output)(t:d.heap.size<=w'.heap.size)
 (u:∀b,g.F b->w'.heap[b]?=d.heap[b]?) (K:∀r b C,g.β r=c3 (b,C)->w'.heap[b]?=d.heap[b]?) (Q:∀b,b<o.heap.size->w'.heap[b]?=d.heap[b]?):Bml.GStep n s H0 o g H w'/\bF g H w':=by
 refine⟨⟨w.trans h.os,ht.trans h.tape,k.trans h.output,fe h.size t,h.F,λb a=>?_,λb a N=>(Q b a).trans (h.rest b a N),h.oY,h.oZ,h.dF⟩,⟨λb a=>Nat.lt_of_lt_of_le (m.fb b a) t,m.inj,m.m8,λr j k=>?_⟩⟩
 .exact(u b (h.F b a)).trans (h.jh b a)
 .obtain⟨M,J,l⟩:=m.obj r j k;refine⟨M,J,?_⟩
  cases a:g.β r with
  |none=>rw[a] at l;exact l
  |some G=>
   obtain⟨b,C⟩:=G;rw[a] at l;obtain⟨O,cells,R,y,E,F,A⟩:=l;refine⟨O,cells,by rw[K r b C a];exact R,y,E,F,λi x c L=>?_⟩
   obtain⟨D,u1,u2,u3⟩:=A i x c L;exact⟨D,u1,u2,VR.uz (f:=λr v=>∃j,H[r]?=c3 j/\v<=j.aF) (λ_ a=>a) u (λr v j _ k I=>⟨j,k,I,λe=>⟨e,rfl,rfl,rfl⟩⟩) u3 u3.wf⟩
def vy(i:Nat)(P:Program)(k:Nat)(j:Array Value)(g:List Value)(l:World->Prop):Prop:=
 ∀(h:Nat) (c:Nat->World->Prop) (a:World),(∀b a,c b a->l a)->(∀b a d,c b a->Below a.heap.size a d->c b d)->
  (∀b f a,g[b]?=c3 f->c b a->YieldAt c6 (i -1) P h #[f] a λe d=>e= .returned (.bool true)/\c (b+1) d)->
  c 0 a->CallsIn c6 i P k (#[.func (.yield h) #[] #[]]++j) a λe d=>(∃v,e= .returned v)/\c g.length d
def Pq{n:Nat}{g:Operand}{ps:Array Tmp}{assign body:Code}{Q:Exit->Act->World->Prop}{a:Act}{w:World}
 {gf:Nat} {lb:Array Value} (hg:a.eval g= .func (.func gf) #[] lb) (eg:∀args w,(callFunc gf args).run P w= .ok (.enter gf args) w)
 {xs:List Value} {Rd:World->Prop} (hseq:vy (n -1) P gf lb xs Rd) (hps:ps.size=1)
 (I:Nat->World->Prop) (hIr:∀k W,I k W->Rd W)
 (hIp:∀k W r o',I k W->W.heap[w.heap.size+1]?=c3 (.loop r)->o'.isCells=false->I k (W.putObj (w.heap.size+1) o'))
 (hIb:∀k W W',I k W->w.heap.size+2<=W.heap.size->Below W.heap.size W W'->I k W')
 (h0:∀r,I 0 ((w.alloc (.deferred (c3 []))).alloc (.loop r)))
 (Im:Nat->Value->Act->World->Prop)
 (hImp:∀k x a1 W r o',Im k x a1 W->W.heap[w.heap.size+1]?=c3 (.loop r)->o'.isCells=false->Im k x a1 (W.putObj (w.heap.size+1) o'))
 (hassign:∀(l k:Nat) (x:Value) (W:World) (K:Act->World->Prop),xs[k]?=c3 x->I k W->(∀a1 W1,KeepsOthers W W1->Im k x a1 W1->K a1 W1)->
  assign.wpIn (c6.inRound l) (n -1 -1) P (Exit.then K (λ_ _ _=>False)) {tmps:=(ps.zip #[x]).foldl (λt (p,v)=>t.setIfInBounds p v) a.tmps,defers:=[]} W)
 (hbody:∀(l k:Nat) (x:Value) (a1:Act) (W:World),xs[k]?=c3 x->Im k x a1 W->body.wpIn (c6.inRound l) (n -1 -1) P (λe _ W'=>e= .normal/\KeepsOthers W W'/\I (k+1) W') a1 W)
 (hdone:∀(W:World),I xs.length W->W.heap[w.heap.size]?=c3 (.deferred (c3 []))->Q .normal {a with defers:={target:=.collected w.heap.size,args:=#[]}::a.defers} W):
 (Code.rangeFunc g ps assign body).wpIn c6 n P Q a w:=by
 refine wpIn_rangeFunc ?_
 intro fn hfn;obtain⟨rec,hrec⟩:∃rec:LoopState->Option Code->Loop,rec=λst pe=>{state:=st,pending:=pe,fn,tmps:=a.tmps,params:=ps,assign,body,defers:=w.heap.size}:=⟨_,rfl⟩
 obtain⟨W1,hW1⟩:∃W1,(w.alloc (.deferred (c3 []))).alloc (.loop (rec .ready dT))=W1:=⟨_,rfl⟩;have hL1:W1.heap[w.heap.size+1]?=c3 (.loop (rec .ready dT)):=by
  rw[<-hW1];have:=e6 (w.alloc (.deferred (c3 []))) (.loop (rec .ready dT));rwa [hI] at this
 have hK1:W1.heap[w.heap.size]?=c3 (.deferred (c3 [])):=by
  rw[<-hW1];exact(eo _ _ _ (by simp)).trans (e6 w _)
 have hI1:I 0 W1:=by rw[<-hW1];exact h0 _
 refine⟨w.heap.size+1,[{target:=.collected w.heap.size,args:=#[]}],W1,{target:=.fn (.func gf) lb,args:=#[.func (.yield (w.heap.size+1)) #[] #[]]},W1,gf,
  #[.func (.yield (w.heap.size+1)) #[] #[]]++lb,W1,?_,?_,λ_ _=>trivial,?_,λh=>by simp[c6] at h,?_⟩
 .rw[<-hW1,hrec];exact run_enterLoop_outer _ _ _ _ _
 .simp only[resolve,hg];simp[go_sem]
 .simp[invoke,go_sem,eg]
 .refine(hseq (w.heap.size+1)
   (λk W=>I k W/\W.heap[w.heap.size+1]?=c3 (.loop (rec .ready dT))/\W.heap[w.heap.size]?=c3 (.deferred (c3 []))) W1
   (λk W h=>hIr k W h.1) (λk W W' h hb=>by
    have h1:=(c5.1 h.2.1).1;exact⟨hIb k W W' h.1 (by omega) hb,(hb.block _ (by omega)).trans h.2.1,(hb.block _ (by omega)).trans h.2.2⟩) ?_ ⟨hI1,hL1,hK1⟩).mono ?_
  .rintro k x W hx ⟨hi,hl,hk⟩;have hlt:w.heap.size+1<W.heap.size:=(c5.1 hl).1;have hy:=run_yield (P:=P) (args:=#[x]) hl (by rw[hrec];simp[hps]);rw[hrec] at hy;refine⟨fn,_,assign,body,hy,roundIn_of_wpIn hfn (hassign _ k x W _ hx hi λa1 Wa hka him=>?_)⟩
   have hla:=hka.same _ _ hl rfl;have hkka:=hka.same _ _ hk rfl;have hlta:w.heap.size+1<Wa.heap.size:=(c5.1 hla).1;refine⟨_,run_beginRound hla (by rw[hrec]),?_⟩
   have hl2:(Wa.putObj (w.heap.size+1) (.loop {rec .ready dT with state:=.busy})).heap[w.heap.size+1]?=c3 (.loop {rec .ready dT with state:=.busy}):=ei hlta;have hk2:(Wa.putObj (w.heap.size+1) (.loop {rec .ready dT with state:=.busy})).heap[w.heap.size]?=c3 (.deferred (c3 [])):=(dt (by omega)).trans hkka;refine wpIn_mono (hbody _ k x a1 _ hx (hImp _ _ _ _ _ _ him hla rfl)) ?_
   rintro e a3 W3 ⟨rfl,hk3,hi3⟩;have hl3:=hk3.same _ _ hl2 rfl;have hr:=run_endRound (P:=P) dT hl3;rw[hrec] at hr;rw[hrec] at hl3;refine⟨_,_,hr,rfl,hIp _ _ _ _ hi3 hl3 rfl,?_,(dt (by omega)).trans (hk3.same _ _ hk2 rfl)⟩
   rw[hrec];exact ei (c5.1 hl3).1
  .rintro e W2 ⟨⟨v,rfl⟩,hi,hl,hk⟩;exact⟨dT,_,by have:=run_endLoop (P:=P) hl (by rw[hrec];simp);rw[hrec] at this;exact this,hdone _ (hIp _ _ _ _ hi hl rfl) ((dt (by omega)).trans hk)⟩
end
section
variable {P:Program}{B:Tb}
structure jV (nl:Nat) (B:Tb) (g2:Gh) (H2:List aO) (w2:World) (W:World) (g:Gh) (H:List (Ob B.D)):Prop where
 m:bF g (av B H) W
 st:Bml.GStep nl g2 H2 w2 g (av B H) W
 sz:w2.heap.size+2<=W.heap.size
 nF:∀b,b=w2.heap.size\/b=w2.heap.size+1->¬g.F b/\∃o,W.heap[b]?=c3 o/\o.isCells=false
def PA{g:Gh}{H:List aO}{f:World}(a:bF g H f){r b c:Nat}(d:g.β r=c3 (b,c)):∃h,f.heap[b]?=c3 h/\h.isCells=true:=by
 have j:=a.m8 r b c d;have e:=(a.obj r _ (c4 j)).mem;rw[d] at e;obtain⟨_,cells,i,_⟩:=e;exact⟨_,i,rfl⟩
section
variable {nl:Nat}{g2:Gh}{H2:List aO}{w2 W:World}{g:Gh}{H:List (Ob B.D)}
def jV.lF(h:jV nl B g2 H2 w2 W g H){a:Nat}{s o':Obj}(l:a=w2.heap.size\/a=w2.heap.size+1)
 (n:W.heap[a]?=c3 s) (w:s.isCells=false) (u:o'.isCells=false):jV nl B g2 H2 w2 (W.putObj a o') g H:=by
 have t:a<W.heap.size:=(c5.1 n).1;have k:∀b,b≠a->(W.putObj a o').heap[b]?=W.heap[b]? :=λb c=>dt (λe=>c e)
 have m:(W.putObj a o').heap.size=W.heap.size:=by simp[World.putObj]
 obtain⟨y,x⟩:=GStep.lF (w':=W.putObj a o') h.st h.m rfl rfl rfl (by rw[m];exact hq _)
  (λb c=>k b λe=>by subst e;exact(h.nF b l).1 c)
  (λr b C c=>k b λe=>by
   subst e;obtain⟨o,d,j⟩:=PA h.m c;rw[n] at d;injection d with d
   rw[<-d,w] at j;cases j)
  (λb c=>k b (by rcases l with e |e <;> omega))
 refine⟨x,y,by rw[m];exact h.sz,λb c=>⟨(h.nF b c).1,?_⟩⟩
 by_cases e:b=a
 .subst e;exact⟨o',ei t,u⟩
 .obtain⟨o,d,j⟩:=(h.nF b c).2;exact⟨o,by rw[k b e];exact d,j⟩
def jV.below(h:jV nl B g2 H2 w2 W g H){d:World}(a:Below W.heap.size W d):jV nl B g2 H2 w2 d g H:=by
 have o:=h.sz;obtain⟨n,l⟩:=GStep.lF (w':=d) h.st h.m a.os a.tape a.output a.size (λb c=>a.block b (h.m.fb b c)) (λr b C c=>a.block b (h.m.qD c)) (λb c=>a.block b (by omega));refine⟨l,n,fe h.sz a.size,λb c=>?_⟩
 obtain⟨k,m,e,j⟩:=h.nF b c;exact⟨k,m,(a.block b (c5.1 e).1).trans e,j⟩
def jV.next(h:jV nl B g2 H2 w2 W g H){k:World}{n:Gh}{H':List (Ob B.D)}(u:bF n (av B H') k)(c:Bml.GStep nl g (av B H) W n (av B H') k):jV nl B g2 H2 w2 k n H'/\KeepsOthers W k:=by
 have m:∀b a,W.heap[b]?=c3 a->a.isCells=false->∀r C,g.β r≠c3 (b,C):=λb a e o r C y=>by
  obtain⟨A,j,s⟩:=PA h.m y;rw[e] at j;injection j with j
  rw[<-j,o] at s;cases s
 refine⟨⟨u,h.st.trans c,fe h.sz c.size,λb x=>?_⟩,c.size,λb a e o=>(c.rest b (c5.1 e).1 (m b a e o)).trans e⟩
 obtain⟨w,a,d,l⟩:=h.nF b x;refine⟨λt=>?_,a,(c.rest b (c5.1 d).1 (m b a d l)).trans d,l⟩
 rcases c.oY b t with h |h |⟨r,C,h⟩
 .exact w h
 .have:=(c5.1 d).1;omega
 .exact m b a d l r C h
def F5(A:cU P B){l n nt u:Nat}{O:List Nat}{b:List Oper}{d:En B.D}{m:Act}{t:Type}{r:t}{k:St B.D->Option t}{Q:Exit->Act->World->Prop}(v:jV nl B g2 H2 w2 W g H)(y:fI g (av B H) W nt (aU B d) m)
 (w:ops B P [] O b (λ_ C=>k C) 0 b [] ⟨d,H⟩=c3 r) (M:∀i,i∈b->fL nt i.dst=true) (S:∀i,i∈b->∀h,i.op≠ .defer h)
 (x:∀o s j q,k o=c3 r->KeepsOthers W j->jV nl B g2 H2 w2 j q o.H->fI q (av B o.H) j nt (aU B o.E) s->Q .normal s j):(j5 u b.toArray false).wpIn (c6.inRound l) n P Q m W:=by
 have F:∀h,h∈([]:List (aq B))->Fits P B h:=λ_ a=>(ej a).elim
 obtain⟨X,e,I,L⟩:=qg A F w;have N:=yW (nt:=nt) (n:=nl) (Q:=λf d H=>f= .normal/\d=aU B e.E/\H=av B e.H) I M ⟨rfl,rfl,rfl⟩;have E:=N g m W ⟨v.m,y⟩ (eI nt nl g (av B H) W λf d H=>f= .normal/\d=aU B e.E/\H=av B e.H) (λ_ _ _ a=>a);have z:=Mn (l:=l) (n:=n) (λm V a=>a) b _ W S E;refine wpIn_mono (wpIn_region_lit z) ?_
 intro f T J c;cases f with
 |normal=>
  obtain⟨U,H3,R,⟨_,rfl,rfl⟩,p,D⟩:=c;obtain⟨K,G⟩:=v.next p.m D;exact x e T J R L G K p.e
 |exit u=>
  obtain⟨_,_,_,⟨a,_⟩,_⟩:=c;cases a
 |ret=>
  obtain⟨_,_,_,⟨a,_⟩,_⟩:=c;cases a
 |goto l=>
  obtain⟨_,_,_,⟨a,_⟩,_⟩:=c;cases a
 |panic h=>exact c.elim
 |outgrown=>exact c.elim
end
def mO(a b:Nat)(c:List (B.D b)):Nat->List (Ob B.D)
 |0=>[⟨1,1,.box a [.bg]⟩]
 |d+1=>[⟨1,1,.box a [.fl 1 1]⟩,⟨1,1,.aap b (c.take (d+1))⟩]
def LY{a:Nat}(c:B.D a->St B.D)(d:B.D a->List (B.D a)->St B.D)(e:List (B.D a))(b:B.D a):Nat->St B.D
 |0=>c b
 |f+1=>d b (e.take (f+1))
def QR(q:Nat):Nat->Option Nat
 |0=>c3 0
 |1=>c3 q
 |_=>dT
def Ku{q i r:Nat}(a:QR q i=c3 r):(i=0/\r=0)\/(i=1/\r=q):=by
 match i,a with
 |0,a=>injection a with a;exact .inl ⟨rfl,a.symm⟩
 |1,a=>injection a with a;exact .inr ⟨rfl,a.symm⟩
def Y5(J:cU P B){g:Gh}{n:World}{G E l a v q:Nat}{j:List (B.D a)}{m:List (Ob B.D)}(h0:nth m 0=c3 ⟨G,1,.box l [.fl q v]⟩)(M:nth m q=c3 ⟨E,v,.aap a j⟩)(U:q≠0)(D:bF g (av B m) n):
 ∃w,bF w (av B [⟨1,1,.box l [.fl 1 1]⟩,⟨1,1,.aap a j⟩]) n/\Bml.GStep 1 g (av B m) n w (av B [⟨1,1,.box l [.fl 1 1]⟩,⟨1,1,.aap a j⟩]) n:=by
 have x:(av B m)[0]?=c3 (⟨l,1,[.agg [.fl q v]],1⟩:aO):=df h0;have eq:(av B m)[q]?=c3 (⟨a,B.sz a,j.map (B.ty a).enc,v⟩:aO):=df M;refine⟨dj g (QR q) (λ_=>False),bF.re D (λ_ f=>f.elim) (λi X r f F=>?_) (λi r f=>?_) (λi A d=>?_),GStep.re λi S R h=>?_⟩
 .rcases Ku f with⟨p,b⟩ |⟨p,b⟩ <;> rcases Ku F with⟨Q,L⟩ |⟨Q,L⟩ <;> omega
 .show i<2
  rcases Ku f with⟨p,b⟩ |⟨p,b⟩ <;> omega
 .match i,d with
  |0,d=>
   have d:c3 (⟨l,1,[.agg [.fl 1 1]],1⟩:aO)=c3 A:=d;injection d with d
   subst d;refine⟨Nat.one_pos,λi C c=>?_,(λf=>by cases f),λr e=>?_⟩
   .match i,c with
    |0,c=>injection c with c;subst c;rfl
   .have e:c3 0=c3 r:=e;injection e with e
    subst e;refine⟨⟨l,1,[.agg [.fl q v]],1⟩,x,rfl,rfl,rfl,λi t o k=>?_⟩
    obtain⟨C,c,T⟩:=gw k
    match i,c with
    |0,c=>
     injection c with c
     subst c
     match t,T with
     |0,_=>
      injection k with k
      subst k;refine⟨.fl q v,rfl,λu s=>?_⟩
      cases s with
      |aW f=>cases f
      |fl _ _ S _ h V N O=>
       rw[eq] at h;injection h with h
       subst h;refine .fl 1 1 ⟨a,B.sz a,j.map (B.ty a).enc,1⟩ u rfl (hq _) N λ_=>?_
       have:=O rfl;unfold SL at this⊢;exact this
  |1,d=>
   have d:c3 (⟨a,B.sz a,j.map (B.ty a).enc,1⟩:aO)=c3 A:=d;injection d with d
   subst d;have y:=D.obj q ⟨a,B.sz a,j.map (B.ty a).enc,v⟩ eq;refine⟨y.pos,y.width,(λf=>by cases f),λr e=>?_⟩
   have e:c3 q=c3 r:=e;injection e with e
   subst e;refine⟨⟨a,B.sz a,j.map (B.ty a).enc,v⟩,eq,rfl,rfl,rfl,λi t o k=>⟨o,k,λu s=>?_⟩⟩
   have K:cE 0 o:=nR (λC c=>by
    obtain⟨z,_,rfl⟩:=hD.1 c;exact J.lt a z) k
   exact .aW ((s.dH K).mono (λ_ I=>.inl I) λ_ _=>rfl)
 .match i,R with
  |0,_=>
   rw[x] at h;injection h with h
   subst h;exact⟨⟨l,1,[.agg [.fl 1 1]],1⟩,rfl,hq _,λ_=>⟨rfl,rfl,rfl⟩⟩
def pA{b:Nat}{fn:Func}{code:Code}(c:P.funcs[b]?=c3 fn)(f:fn.body=c3 code)(e:(fn.name== "runtime.NumGoroutine")=false)(args:Array Value)(a:World):(callFunc b args).run P a= .ok (.enter b args) a:=by
 simp only[callFunc,hX];have d:(program:Sem Program).run P a= .ok P a:=rfl;rw[d];simp only[ft,c];rw[e];simp[f]
def akH{a:List Value}{d t:Nat}(b:a.length<=d):(a.toArray++hM (d -a.toArray.size) undef).getD t undef=a.getD t undef:=by
 rw[dd,ea];rcases hY t a.length with b |b
 .simp[Array.getElem?_append,b]
 .rw[List.getElem?_eq_none b];rw[Array.getElem?_append_right (by simpa using b)];rcases hY (t -a.length) (d -a.length) with c |c
  .simp[c]
  .simp[c]
def Ot{g:Gh}{H:List (Ob B.D)}{c:En B.D}{b:World}{a:List Value}{nt:Nat}(d:bF g (av B H) b)(e:a.length<=nt)(f:∀t,VR g (av B H) b (pv B (lk c t)) (a.getD t undef)):
 Rel g nt (aU B c) (av B H) {tmps:=a.toArray++hM (nt -a.toArray.size) undef,defers:=[]} b:=by
 refine⟨d,rfl,?_,λt=>?_⟩
 .simp;omega
 .rw[ep];have:=akH (t:=t) e;rw[this];exact f t
def O9(aS:P.follows .mixedOrders=true)(Q:cU P B){L:Lp}{c:aq B}{fn:Func}{ak ai:Code}{bH bN b0:Nat}{N M:List Oper}{n t gf by_:Nat}{aY co:TypeId}{aO b8:String}{aQ ci:Array Edge}{xs:bi B.D c.par.bX->List (B.D n)}{ac:B.D n->St B.D}{ab:B.D n->List (B.D n)->St B.D}{R0:B.D n->List (B.D n)->List (Ob B.D)}{R1:B.D n->List (B.D n)->List (Ob B.D)}{q0 v0 s0 s0' q1 v1 s1 s1':Nat}
 (a6:P.funcs[c.cO]?=c3 fn) (m:fn.body=c3 (.seq ak (.seq (.seq ai (.block 0 (.rangeFunc (.tmp 6) #[7] (.region bH N.toArray false) (.block 1 (.region bN M.toArray false)))))
  (.seq (.region b0 [⟨c3 12,.load t (.tmp 2),aY,aO,aQ,dT⟩,⟨c3 4,.assign (.tmp 12),co,b8,ci,dT⟩].toArray false) .ret))))
 (bp:(fn.name== "runtime.NumGoroutine")=false) (bx:fn.results=#[.tmp 4]) (cF:c.na=2) (a4:ev 13 fn.ntmps=true) (b5:c.low=0) (cg:dP P t=c3 false) (cm:1<=by_)
 (bV:gB fn.ntmps ak=true) (bT:gB fn.ntmps ai=true) (bk:∀u,u∈N->fL fn.ntmps u.dst=true) (bn:∀u,u∈N->∀c,u.op≠ .defer c) (bM:∀u,u∈M->fL fn.ntmps u.dst=true) (cc:∀u,u∈M->∀c,u.op≠ .defer c)
 (be:∀x,cz B c.par x=⟨[(0,.bg),(1,.fn gf [] [.vp [.row n (xs x)] 0])],[]⟩)
 (bF:∀x,∃aA,exec L B P [] 0 [] ak 1 (λD l=>bif ee D 0 then c3 l else dT) ⟨[(0,.bg),(1,.fn gf [] [.vp [.row n (xs x)] 0])],[]⟩=c3 ⟨aA,[⟨1,1,.box t [.bg]⟩]⟩/\
  ∃ag,exec L B P [] 0 [] ai 1 (λD l=>bif ee D 0 then c3 l else dT) ⟨aA,[⟨1,1,.box t [.bg]⟩]⟩=c3 ⟨ag,[⟨1,1,.box t [.bg]⟩]⟩/\lk ag 6= .fn gf [] [.vp [.row n (xs x)] 0]/\lk ag 2= .ptr 0 1 0 0)
 (bA:∀args w,(callFunc gf args).run P w= .ok (.enter gf args) w)
 (ck:∀az (aB:Nat->Prop) (w:World) (pv:Value) (h:List (B.D n)),2<=az->h.length<=140737488355328->VI aB w (.dw [.vs (B.sz n) (h.map (B.ty n).enc)] 0) pv->∃I:List Value,I.length=h.length/\(∀(i:Nat) (e:B.D n) (v:Value),h[i]?=c3 e->I[i]?=c3 v->VI aB w ((B.ty n).enc e) v)/\
  vy az P gf #[pv] I (λW=>∀b,aB b->W.heap[b]?=w.heap[b]?))
 (bv:∀e:B.D n,ops B P [] [2] N (λ_ l=>c3 l) 0 N [] ⟨[(7,B.tv n e),(2,.ptr 0 1 0 0)],[⟨1,1,.box t [.bg]⟩]⟩=c3 (ac e))
 (bY:∀(e:B.D n) (h:List (B.D n)),ops B P [] [2] N (λ_ l=>c3 l) 0 N [] ⟨[(7,B.tv n e),(2,.ptr 0 1 0 0)],[⟨1,1,.box t [.fl 1 1]⟩,⟨1,1,.aap n h⟩]⟩=c3 (ab e h))
 (aE:∀(e:B.D n),ops B P [] [2] M (λ_ l=>c3 l.H) 0 M [] (ac e)=(bj by_ [] [e]).bind λG=>c3 (R0 e G))
 (bo:∀(e:B.D n) (h:List (B.D n)),ops B P [] [2] M (λ_ l=>c3 l.H) 0 M [] (ab e h)=(bj by_ h [e]).bind λG=>c3 (R1 e G))
 (bh:∀e G,nth (R0 e G) 0=c3 ⟨s0,1,.box t [.fl q0 v0]⟩/\nth (R0 e G) q0=c3 ⟨s0',v0,.aap n G⟩/\q0≠0)
 (b3:∀e G,nth (R1 e G) 0=c3 ⟨s1,1,.box t [.fl q1 v1]⟩/\nth (R1 e G) q1=c3 ⟨s1',v1,.aap n G⟩/\q1≠0)
 (au:∀x r,c.F x=c3 r->(xs x).length*by_<=140737488355328/\(cz B c.az r)=⟨[(0,.fl 0 0)],[⟨0,0,.aap n (xs x)⟩]⟩/\take B 0 c.az ⟨[(0,.fl 1 1)],[⟨1,1,.box t [.fl 1 1]⟩,⟨1,1,.aap n (xs x)⟩]⟩ c3=c3 r/\(xs x=[]->take B 0 c.az ⟨[(0,.bg)],[⟨1,1,.box t [.bg]⟩]⟩ c3=c3 r)):Fits P B c:=by
 have a4:13<=fn.ntmps:=e0 a4;have aT:∀c,c∈([]:List (aq B))->Fits P B c:=λ_ s=>(ej s).elim
 refine⟨pA a6 m bp,λx r ch g w ca cu ba a1=>?_⟩
 obtain⟨a2,cn,bl,b1⟩:=au x r ch;rw[be] at ba a1⊢;rw[b5];obtain⟨aA,bw,ag,bO,cp,b6⟩:=bF x;generalize cD:xs x=h at*;have br:=Ot ba (by omega:ca.length<=fn.ntmps) a1;refine(callsIn_wide (n:=10)).1 (callsIn_of_wp_marks a6 m trivial ?_ rfl)
 refine wpIn_seq (wpIn_wide.2 (gO aS Q aT ak 1 _ _ _ bw bV (e4 _) g _ w br _ λD ae bP K=>?_))
 cases D with
 |normal=>
  obtain⟨_,_,bt,⟨cB,_,aH,rfl,rfl⟩,ce,bB⟩:=K;injection aH with aH
  subst aH;refine wpIn_seq (wpIn_seq (wpIn_wide.2 (gO aS Q aT ai 1 _ _ _ bO bT (e4 _) bt ae bP ce _ λD y w2 K=>?_)))
  cases D with
  |normal=>
   obtain⟨_,_,g2,⟨cA,_,aD,rfl,rfl⟩,O,bK⟩:=K;injection aD with aD
   subst aD;have aP:=O.e.defers;have bc:=O.e.size;have V:=O.e.at_ 6;rw[ep,cp] at V;have b2:∃pv,y.tmps.getD 6 undef= .func (.func gf) #[] #[pv]/\VI g2.F w2 (.dw [.vs (B.sz n) (h.map (B.ty n).enc)] 0) pv:=by
    generalize y.tmps.getD 6 undef=z at V;have V:VR g2 _ w2 (.fn gf [] [.dw [.vs (B.sz n) (h.map (B.ty n).enc)] 0]) z:=V;cases V with
    |aW s=>
     cases s with
     |fn _ _ _ bf vs C _ o ax=>
      obtain rfl:=e5 C.symm
      match vs,o with
      |[pv],_=>exact⟨pv,rfl,ax 0 _ pv rfl rfl⟩
    |fn _ _ _ bf vs C _ o ax=>
     obtain rfl:=e5 C.symm
     match vs,o with
     |[pv],_=>
      refine⟨pv,rfl,?_⟩
      have:=ax 0 _ pv rfl rfl;cases this with
      |aW s=>exact s
   obtain⟨bm,cj,cl⟩:=b2;obtain⟨I,bz,cs,bZ⟩:=ck 9 g2.F w2 bm h (by omega) (fe (Nat.le_mul_of_pos_right _ cm) a2) cl;have aC:=O.e.at_ 2;rw[ep,b6] at aC;refine wpIn_block (Pq (n:=10) (xs:=I) (a:=y) (w:=w2) cj bA bZ rfl
    (λk W=>∃g,jV 1 B g2 (av B [⟨1,1,.box t [.bg]⟩]) w2 W g (mO t n h k))
    (λk W s=> ?rd) (λk W r o' s R am=> ?put) (λk W aF s cE bs=> ?below) (λaf=> ?start)
    (λk v ae W=>∃(e:B.D n) (l:St B.D) (g:Gh),h[k]?=c3 e/\l=LY ac ab h e k/\jV 1 B g2 (av B [⟨1,1,.box t [.bg]⟩]) w2 W g l.H/\fI g (av B l.H) W fn.ntmps (aU B l.E) ae)
    (λk x ae W r o' s R am=> ?mput) (λbC k v W aJ aI A Y=> ?assign) (λbC k v ae W aI A=> ?body) (λW A a7=> ?done))
   case rd=>
    obtain⟨g,s⟩:=s;exact s.st.jh
   case put=>
    obtain⟨g,s⟩:=s;exact⟨g,s.lF (.inr rfl) R rfl am⟩
   case below=>
    obtain⟨g,s⟩:=s;exact⟨g,s.below bs⟩
   case start=>
    refine⟨g2,?_⟩
    have cG:((w2.alloc (.deferred (c3 []))).alloc (.loop af)).heap.size=w2.heap.size+2:=by simp
    have aL:∀b,b<w2.heap.size->((w2.alloc (.deferred (c3 []))).alloc (.loop af)).heap[b]?=w2.heap[b]? :=λb m=>(eo _ _ b (by simp;omega)).trans (eo _ _ b m)
    obtain⟨s1,ct⟩:=GStep.lF (w':=(w2.alloc (.deferred (c3 []))).alloc (.loop af)) (GStep.refl 1 g2 (av B [⟨1,1,.box t [.bg]⟩]) w2) O.m rfl rfl rfl (by omega) (λb m=>aL b (O.m.fb b m)) (λr b cy m=>aL b (O.m.qD m)) aL;refine⟨ct,s1,by omega,λb m=>⟨λau=>?_,?_⟩⟩
    .have:=O.m.fb b au;omega
    .rcases m with rfl |rfl
     .exact⟨.deferred (c3 []),(eo (w2.alloc (.deferred (c3 []))) _ w2.heap.size (by simp)).trans (e6 w2 _),rfl⟩
     .refine⟨.loop af,?_,rfl⟩
      have:=e6 (w2.alloc (.deferred (c3 []))) (.loop af)
      rwa [hI] at this
   case mput=>
    obtain⟨e,l,g,C,o,aa,ar⟩:=s;have ah:=aa.lF (o':=o') (.inr rfl) R rfl am;refine⟨e,l,g,C,o,ah,ar.defers,ar.size,λq=>?_⟩
    have a9:=ar.at_ q;exact VR.uz (f:=λr v=>∃u,(av B l.H)[r]?=c3 u/\v<=u.aF) (λ_ m=>m) (λb m=>dt (λD=>by subst D;exact(aa.nF _ (.inr rfl)).1 m)) (λr v u _ R aK=>⟨u,R,aK,λD=>⟨D,rfl,rfl,rfl⟩⟩) a9 a9.wf
   case assign=>
    obtain⟨U,A⟩:=A;have F:k<h.length:=by
     have:=(ef.1 aI).1;omega
    obtain⟨e,S⟩:∃e,h[k]?=c3 e:=⟨_,c4 F⟩;have bI:=cs k _ v S aI;have bX:((#[7]:Array Nat).zip #[v]).foldl (λt (p,v)=>t.setIfInBounds p v) y.tmps=y.tmps.setIfInBounds 7 v:=by simp
    rw[bX];have bR:fI U (av B (mO t n h k)) W fn.ntmps (aU B [(7,B.tv n e),(2,.ptr 0 1 0 0)]) {tmps:=y.tmps.setIfInBounds 7 v,defers:=[]}:=by
     refine⟨rfl,by simp;exact bc,λq=>?_⟩
     rw[ep]
     by_cases aV:q=7
     .subst aV;have ad:(lk [(7,B.tv n e),(2,.ptr 0 1 0 0)] 7:TV B.D)=B.tv n e:=rfl;have ap:(y.tmps.setIfInBounds 7 v).getD 7 undef=v:=by
       rw[dd,dv (by omega)]
       rfl
      rw[ad,ap,Q.tv];exact .aW (bI.mono A.st.F A.st.jh)
     .by_cases o:q=2
      .subst o;have ad:(lk [(7,B.tv n e),(2,.ptr 0 1 0 0)] 2:TV B.D)= .ptr 0 1 0 0:=rfl;have ap:(y.tmps.setIfInBounds 7 v).getD 2 undef=y.tmps.getD 2 undef:=by
        rw[dd,dd,Array.getElem?_setIfInBounds_ne (by omega)]
       rw[ad,ap];exact aC.step A.st (.ptr 0 1 0 0 (by omega))
      .have ad:(lk [(7,B.tv n e),(2,.ptr 0 1 0 0)] q:TV B.D)= .any:=by
        have cf:ee 7 q=false:=by cases m:ee 7 q with |false=>rfl |true=>exact absurd (beq_eq m).symm aV
        have aM:ee 2 q=false:=by cases m:ee 2 q with |false=>rfl |true=>exact absurd (beq_eq m).symm o
        simp only[lk,cf,aM,cond_false]
       rw[ad];exact .aW (.any _)
    have ay:ops B P [] [2] N (λ_ l=>c3 l) 0 N [] ⟨[(7,B.tv n e),(2,.ptr 0 1 0 0)],mO t n h k⟩=c3 (LY ac ab h e k):=by
     cases k with
     |zero=>exact bv _
     |succ k=>exact bY _ _
    exact F5 Q (k:=c3) A bR ay bk bn λb9 bb aF aR T C o aa=>Y bb aF C ⟨e,_,aR,S,(hP T),o,aa⟩
   case body=>
    obtain⟨e,l,U,S,T,bQ,bq⟩:=A;have F:k<h.length:=(ef.1 S).1;have a8:h[k]=e:=by
     rw[c4 F] at S;injection S
    have aX:(k+1)*by_<=140737488355328:=fe (Nat.mul_le_mul_right _ F) a2;have a3:h.take k++[h[k]]=h.take (k+1):=(List.take_succ_eq_append_getElem F).symm;have ay:∃aj,ops B P [] [2] M (λ_ l=>c3 l.H) 0 M [] l=c3 aj/\∃Z a5 v q,nth aj 0=c3 ⟨Z,1,.box t [.fl q v]⟩/\nth aj q=c3 ⟨a5,v,.aap n (h.take (k+1))⟩/\q≠0:=by
     cases k with
     |zero=>
      have an:bj by_ [] [e]=c3 (h.take 1):=by
       unfold bj;rw[if_pos (by simpa using aX)];exact congrArg c3 (by rw[<-a3,a8];rfl)
      have C:=aE e;rw[an, <-show l=ac e from T] at C;have o:=bh e (h.take 1);exact⟨_,C,s0,s0',v0,q0,o.1,o.2.1,o.2.2⟩
     |succ k=>
      have an:bj by_ (h.take (k+1)) [e]=c3 (h.take (k+1+1)):=by
       unfold bj;rw[if_pos (by rw[List.length_take,Nat.min_eq_left (by omega)];exact aX)];exact congrArg c3 (by rw[<-a3,a8])
      have C:=bo e (h.take (k+1));rw[an, <-show l=ab e (h.take (k+1)) from T] at C;have o:=b3 e (h.take (k+1+1));exact⟨_,C,s1,s1',v1,q1,o.1,o.2.1,o.2.2⟩
    obtain⟨aj,bS,Z,a5,cC,q,aN,aZ,bD⟩:=ay;refine wpIn_block (F5 Q (k:=λl=>c3 l.H) bQ bq bS bM cc λb9 bb aF aR T C o aa=>?_)
    rw[<-hP T] at aN aZ;obtain⟨al,aw,aG⟩:=Y5 Q aN aZ bD o.m;obtain⟨bJ,cx⟩:=o.next (H':=mO t n h (k+1)) aw aG;exact⟨rfl,C,al,bJ⟩
   case done=>
    obtain⟨U,A⟩:=A;obtain⟨J,X⟩:∃J:Act,J={y with defers:={target:=.collected w2.heap.size,args:=#[]}::y.defers}:=⟨_,rfl⟩;rw[<-X];have bL:J.eval=y.eval:=by rw[X];rfl
    have b7:∃cv Z,nth (mO t n h I.length) 0=c3 ⟨Z,1,.box t [cv]⟩/\take B 0 c.az ⟨[(0,cv)],mO t n h I.length⟩ c3=c3 r:=by
     rw[bz];cases a0:h.length with
     |zero=>exact⟨.bg,1,rfl,b1 (e5 a0)⟩
     |succ az=>
      simp only[mO];rw[<-a0,List.take_length];exact⟨.fl 1 1,1,rfl,bl⟩
    obtain⟨cv,Z,aE,bW⟩:=b7;have bU:Rel U fn.ntmps [(2,.ptr 0 1 0 0)] (av B (mO t n h I.length)) y W:=by
     refine⟨A.m,aP,bc,λq=>?_⟩
     by_cases o:q=2
     .subst o;exact aC.step A.st (.ptr 0 1 0 0 (by omega))
     .have aM:ee 2 q=false:=by cases m:ee 2 q with |false=>rfl |true=>exact absurd (beq_eq m).symm o
      have:Bml.look [(2,PV.ptr 0 1 0 0)] q=PV.any:=by simp only[Bml.look,aM,cond_false]
      rw[this];exact .aW (.any _)
    obtain⟨v,cq,bd⟩:=AT (P:=P) (d:=c3 12) (ty:=aY) (pos:=aO) (aft:=aQ) (gd:=dT) (t:=t) (x:=.tmp 2) (E:=[(2,.ptr 0 1 0 0)]) (H:=av B (mO t n h I.length)) (r:=0) (v:=1) (i:=0) (j:=0) (c:=pv B cv) rfl (df aE) rfl cg rfl U fn.ntmps y W bU;refine wpIn_seq (wpIn_region_lit (wpListIn_plain rfl λaJ Y=>⟨λf _=>trivial,?_⟩))
    rw[hQ _ _ _ (λc s=>by cases s),bL,cq];refine Y _ _ (wpListIn_plain rfl λaJ Y=>⟨λf _=>trivial,?_⟩)
    rw[hQ _ _ _ (λc s=>by cases s)];have cb:(J.put (c3 12) v).eval (.tmp 12)=v:=by
     rw[X];show((y.tmps.setIfInBounds 12 v).getD 12 undef)=v
     rw[dd,dv (by omega)]
     rfl
    show aJ ((J.put (c3 12) v).put (c3 4) ((J.put (c3 12) v).eval (.tmp 12))) W
    rw[cb];refine Y _ _ (wpListIn_nil (wpIn_ret ?_))
    have bE:((J.put (c3 12) v).put (c3 4) v).defers=[{target:=.collected w2.heap.size,args:=#[]}]:=by
     rw[X];show _::y.defers=_
     rw[aP]
    have cr:(((J.put (c3 12) v).put (c3 4) v).tmps).getD 4 undef=v:=by
     rw[X];show((y.tmps.setIfInBounds 12 v).setIfInBounds 4 v).getD 4 undef=v
     rw[dd,dv (by simp;omega)]
     rfl
    show LeavesInM _ _ _ _ _ _ ((J.put (c3 12) v).put (c3 4) v).defers .returning W
    rw[bE];refine⟨by simp,.inl ⟨_,_,rfl,run_takeDeferred a7,?_⟩⟩
    refine⟨v,by rw[results_tmp bx,cr],v,?_⟩
    have ah:=A.lF (o':=.deferred dT) (.inl rfl) a7 rfl rfl;have b4:VR U (av B (mO t n h I.length)) (W.putObj w2.heap.size (.deferred dT)) (pv B cv) v:=VR.uz (f:=λr v=>∃u,(av B (mO t n h I.length))[r]?=c3 u/\v<=u.aF) (λ_ m=>m) (λb m=>dt (λD=>by subst D;exact(A.nF _ (.inl rfl)).1 m)) (λr v u _ R aK=>⟨u,R,aK,λD=>⟨D,rfl,rfl,rfl⟩⟩) bd bd.wf;obtain⟨cw,ao,al,aw,aG,cd⟩:=EK Q bW ah.m;injection ao with ao
    subst ao;refine⟨al,rfl,aw,((bB.trans bK).trans (ah.st.less (e4 _))).trans aG,?_⟩
    have:=cd 0 v b4;rw[cn] at this⊢;exact this
  |_=>first |exact K.elim |(obtain⟨_,_,_,⟨_,_,F,_⟩,_⟩:=K;cases F) |(obtain⟨_,_,_,F,_⟩:=K;exact F.elim)
 |_=>first |exact K.elim |(obtain⟨_,_,_,⟨_,_,F,_⟩,_⟩:=K;cases F) |(obtain⟨_,_,_,F,_⟩:=K;exact F.elim)
end
end Go.X
namespace Go.X.T
open Go Go.Aml Go.Bml Go.X Go.RowKit Go.Proofs
attribute [local go_sem] h5
def an0(m:Nat)(hm:2<=m)(l b off sb so cap N:Nat)(ad:Option Addr)(hN:N<=140737488355328)(val:Nat->Int)(J:Nat->World->Prop)
 (hr:∀k W,J k W->W.cell? ⟨b,off,dT⟩=c3 (.slice ad N cap)/\∀i:Nat,i<N->ad=c3 ⟨sb,so,dT⟩/\W.cell? ⟨sb,so+i,dT⟩=c3 (.int .i64 (val i)))
 (hy:∀k W,k<N->J k W->YieldAt c6 (m -1) c7 l #[.int .i64 (val k)] W λe W'=>e= .returned (.bool true)/\J (k+1) W') (W:World) (h0:J 0 W):
 CallsIn c6 m c7 269 #[.func (.yield l) #[] #[],.pointer (c3 ⟨b,off,dT⟩)] W λe W'=>(∃v,e= .returned v)/\J N W':=by
 have h269:c6.fn 269:=trivial;refine callsIn_of_wp ie rfl h269 ?_ rfl
 have hc0:=(hr 0 W h0).1;simp only[Tryz.ntmps269,ga,gv,h6,Nat.reduceAdd,Nat.reduceSub,ey,ez,gb,eH,h7,gx]
 gi_wp2
 gi_loopw [7] (λvi (wr:World)=>∃k:Nat,vi= .int .i64 (k:Int)/\k<=N/\J k wr) (λvi _=>match vi with | .int _ k=>N -k.toNat |_=>0)
 case atStart=>exact⟨0,rfl,e4 _,h0⟩
 case round=>
  obtain⟨k,rfl,hk,hJ⟩:=hrel;obtain⟨hc,he⟩:=hr k _ hJ
  by_cases hlt:k<N
  .obtain⟨rfl,hek⟩:=he k hlt;obtain⟨fn,tmps,assign,body,hyy,hR⟩:=hy k wr hlt hJ
   gi_wp2
   refine⟨λh=>by simp[c6] at h,hR.mono ?_⟩
   rintro e W3 ⟨rfl,hJ3⟩
   gi_wp2
   go_roundw
   case rel=>exact⟨k+1,congrArg (hK .i64) (by omega),by omega,hJ3⟩
   case measure=>
    show N - ((k:Int)+1).toNat<N - (k:Int).toNat
    omega
  .have:k=N:=by omega
   subst this
   gi_wp2
   go_end0
   exact⟨⟨_,rfl⟩,hJ⟩
def akF(m:Nat)(hm:2<=m)(l b off sb so cap N:Nat)(ad:Option Addr)(hN:N<=140737488355328)(pa pb:Nat->Option Addr)(na ca nb cb:Nat->Nat)(J:Nat->World->Prop)
 (hr:∀k W,J k W->W.cell? ⟨b,off,dT⟩=c3 (.slice ad N cap)/\∀i:Nat,i<N->ad=c3 ⟨sb,so,dT⟩/\W.cell? ⟨sb,so+i*2,dT⟩=c3 (.slice (pa i) (na i) (ca i))/\W.cell? ⟨sb,so+i*2+1,dT⟩=c3 (.slice (pb i) (nb i) (cb i)))
 (hJb:∀k W W',J k W->Below W.heap.size W W'->J k W')
 (hy:∀k W,k<N->J k W->YieldAt c6 (m -1) c7 l #[.agg #[.slice (pa k) (na k) (ca k),.slice (pb k) (nb k) (cb k)]] W λe W'=>e= .returned (.bool true)/\J (k+1) W') (W:World) (h0:J 0 W):
 CallsIn c6 m c7 326 #[.func (.yield l) #[] #[],.pointer (c3 ⟨b,off,dT⟩)] W λe W'=>(∃v,e= .returned v)/\J N W':=by
 have h326:c6.fn 326:=trivial;refine callsIn_of_wp ih rfl h326 ?_ rfl
 have hc0:=(hr 0 W h0).1;simp only[Tryz.ntmps326,ga,gv,h6,Nat.reduceAdd,Nat.reduceSub,ey,ez,gb,eH,h7,gx]
 gi_wp2
 gi_loopw [7] (λvi (wr:World)=>∃k:Nat,vi= .int .i64 (k:Int)/\k<=N/\J k wr) (λvi _=>match vi with | .int _ k=>N -k.toNat |_=>0)
 case atStart=>exact⟨0,rfl,e4 _,h0⟩
 case round=>
  obtain⟨k,rfl,hk,hJ⟩:=hrel;obtain⟨hc,he⟩:=hr k _ hJ
  by_cases hlt:k<N
  .obtain⟨rfl,hek,hek2⟩:=he k hlt;have hJ2:=hJb k wr (wr.alloc (.cells #[.slice (pa k) (na k) (ca k),.slice (pb k) (nb k) (cb k)] 140)) hJ ((j6 _ _).alloc (hq _) _);obtain⟨fn,tmps,assign,body,hyy,hR⟩:=hy k _ hlt hJ2
   gi_wp2
   refine⟨λh=>by simp[c6] at h,hR.mono ?_⟩
   rintro e W3 ⟨rfl,hJ3⟩
   gi_wp2
   go_roundw
   case rel=>exact⟨k+1,congrArg (hK .i64) (by omega),by omega,hJ3⟩
   case measure=>
    show N - ((k:Int)+1).toNat<N - (k:Int).toNat
    omega
  .have:k=N:=by omega
   subst this
   gi_wp2
   go_end0
   exact⟨⟨_,rfl⟩,hJ⟩
def aoU(s:Nat)(g:Nat->Prop)(k:World)(pv:Value)(a:List Int)(Q:2<=s)(C:a.length<=140737488355328)(L:VI g k (.dw [.vs 1 (a.map (PV.int .i64))] 0) pv):
 ∃r:List Value,r.length=a.length/\(∀(i:Nat) (q:Int) (v:Value),a[i]?=c3 q->r[i]?=c3 v->VI g k (.int .i64 q) v)/\vy s c7 269 #[pv] r (λd=>∀b,g b->d.heap[b]?=k.heap[b]?):=by
 cases L with
 |dw _ _ b V w P G aa e=>
  have M:=G 0 _ rfl;have p:=e 0 _ rfl;have E:∃m f j cap,w 0= .slice m a.length cap/\∀i:Nat,i<a.length->m=c3 ⟨f,j,dT⟩/\g f/\k.cell? ⟨f,j+i,dT⟩=c3 (.int .i64 (a.getD i 0)):=by
   generalize o:a.map (PV.int .i64)=I at p;generalize w 0=z at p;cases p with
   |eX _ N cap=>
    have:a=[]:=eE.1 o;subst this;exact⟨N,0,0,cap,rfl,λi c=>by simp at c⟩
   |vs _ _ S K cap u2 X O ac H W F=>
    refine⟨_,S,K,cap,by rw[<-o];simp,λi c=>⟨rfl,O,?_⟩⟩
    have B:abk I i 0=c3 (.int .i64 (a.getD i 0)):=by
     rw[<-o];unfold abk;rw[dk,c4 c,ea,c4 c]
     rfl
    have A:=H i 0 _ B;have t:=F i 0 _ B;rw[Nat.mul_one,Nat.add_zero] at A;rw[A];generalize u2 i 0=z at t⊢;cases t
    rfl
  obtain⟨m,f,j,cap,R,n⟩:=E;refine⟨a.map (hK .i64),by simp,λi q v T e=>?_,λD U d u Z J h0=>?_⟩
  .rw[dk,T] at e;injection e with e
   subst e;exact .int _ _
  .refine(an0 s Q D b V f j cap a.length m C (λi=>List.getD (α:=Int) a i 0) U (λl d h=>⟨?_,λi c=>⟨(n i c).1,?_⟩⟩) (λl d y h=>?_) d h0).mono λab Y x=>⟨x.1,by rw[h8];exact x.2⟩
   .rw[oW (u l d h) P, <-R];exact M
   .rw[oW (u l d h) (n i c).2.1];exact(n i c).2.2
   .refine J l _ d ?_ h
    rw[dk,c4 y,ea,c4 y]
    rfl
def anR(Q:Nat)(o:Nat->Prop)(l:World)(pv:Value)(d:List ay)(ap:2<=Q)(ac:d.length<=140737488355328)(aj:VI o l (.dw [.vs 2 (d.map ay.enc)] 0) pv):
 ∃O:List Value,O.length=d.length/\(∀(i:Nat) (h:ay) (v:Value),d[i]?=c3 h->O[i]?=c3 v->VI o l (ay.enc h) v)/\vy Q c7 326 #[pv] O (λg=>∀b,o b->g.heap[b]?=l.heap[b]?):=by
 cases aj with
 |dw _ _ b au U ao ag aA n=>
  have ak:=ag 0 _ rfl;have N:=n 0 _ rfl;have ae:∃G k s cap,∃(x C:Nat->Option Addr) (B t D y:Nat->Nat),U 0= .slice G d.length cap/\∀i:Nat,i<d.length->(G=c3 ⟨k,s,dT⟩/\o k/\l.cell? ⟨k,s+i*2,dT⟩=c3 (.slice (x i) (B i) (t i))/\l.cell? ⟨k,s+i*2+1,dT⟩=c3 (.slice (C i) (D i) (y i)))/\
   ∀h,d[i]?=c3 h->VI o l (ay.enc h) (.agg #[.slice (x i) (B i) (t i),.slice (C i) (D i) (y i)]):=by
   generalize u:d.map ay.enc=M at N;generalize U 0=z at N;cases N with
   |eX _ al cap=>
    have:d=[]:=eE.1 u;subst this;exact⟨al,0,0,cap,λ_=>dT,λ_=>dT,λ_=>0,λ_=>0,λ_=>0,λ_=>0,rfl,λi a=>by simp at a⟩
   |vs _ _ ab W cap u2 aw am aB V av K=>
    have sl:∀i c:Nat,i<d.length->c<2->∃p F A,u2 i c= .slice p F A:=λi c a e=>by
     have P:∃S T,abk M i c=c3 (.vs S T):=by
      rw[<-u];unfold abk;rw[dk,c4 a]
      match c,e with
      |0,_=>exact⟨_,_,rfl⟩
      |1,_=>exact⟨_,_,rfl⟩
     obtain⟨S,T,P⟩:=P;have R:=K i c _ P;generalize u2 i c=z at R⊢;cases R with
     |eX=>exact⟨_,_,_,rfl⟩
     |vs=>exact⟨_,_,_,rfl⟩
    let I:Value->Option Addr:=λv=>match v with | .slice p _ _=>p |_=>dT
    let L:Value->Nat:=λv=>match v with | .slice _ F _=>F |_=>0
    let H:Value->Nat:=λv=>match v with | .slice _ _ A=>A |_=>0
    have aa:∀i c:Nat,i<d.length->c<2->Value.slice (I (u2 i c)) (L (u2 i c)) (H (u2 i c))=u2 i c:=λi c a e=>by
     obtain⟨p,F,A,Y⟩:=sl i c a e;rw[Y]
    refine⟨c3 ⟨ab,W,dT⟩,ab,W,cap,λi=>I (u2 i 0),λi=>I (u2 i 1),λi=>L (u2 i 0),λi=>H (u2 i 0),λi=>L (u2 i 1),λi=>H (u2 i 1),by rw[<-u];simp,λi a=>?_⟩
    have Z:abk M i 0=c3 (.vs 1 ((d[i]).aw.map (PV.int .i64))):=by
     rw[<-u];unfold abk;rw[dk,c4 a]
     rfl
    have E:∃q,abk M i 1=c3 q/\ay.enc d[i]= .agg [.vs 1 ((d[i]).aw.map (PV.int .i64)),q]:=by
     rw[<-u];unfold abk;rw[dk,c4 a];exact⟨_,rfl,rfl⟩
    obtain⟨q,E,af⟩:=E;dsimp only;rw[aa i 0 a (by omega),aa i 1 a (by omega)];refine⟨⟨rfl,am,V i 0 _ Z,V i 1 _ E⟩,λh j=>?_⟩
    rw[c4 a] at j;injection j with j
    subst j;rw[af];refine .agg _ [u2 i 0,u2 i 1] rfl λc A ax e f=>?_
    match c,e,f with
    |0,e,f=>
     injection e with e
     injection f with f
     subst e;subst f;exact K i 0 _ Z
    |1,e,f=>
     injection e with e
     injection f with f
     subst e;subst f;exact K i 1 _ E
  obtain⟨G,k,s,cap,x,C,B,t,D,y,aq,m⟩:=ae
  let val:Nat->Value:=λi=>.agg #[.slice (x i) (B i) (t i),.slice (C i) (D i) (y i)]
  refine⟨(List.range d.length).map val,by simp,λi h v j n=>?_,λad ar g J ah ai h0=>?_⟩
  .have a:=(ef.1 j).1;rw[dk,hz a] at n;injection n with n
   subst n;exact(m i a).2 h j
  .refine(akF Q ap ad b au k s cap d.length G ac x C B t D y ar (λw g r=>⟨?_,λi a=>⟨(m i a).1.1,?_,?_⟩⟩) ah (λw g an r=>?_) g h0).mono λY az X=>⟨X.1,by rw[h8,List.length_range];exact X.2⟩
   .rw[oW (J w g r) ao, <-aq];exact ak
   .rw[oW (J w g r) (m i a).1.2.1];exact(m i a).1.2.2.1
   .rw[oW (J w g r) (m i a).1.2.1];exact(m i a).1.2.2.2
   .refine ai w _ g ?_ r
    rw[dk,hz an]
    rfl
def SQ{e:Type}{by_:Nat}{a r:List e}(c:bj by_ [] a=c3 r):a.length*by_<=140737488355328/\r=a:=by
 obtain⟨b,d⟩:=AN c;exact⟨by simpa using b,by simpa using d.symm⟩
def u6:∀b:List Oper,(b.all λa=>match a.op with | .defer _=>false |_=>true)=true->∀a,a∈b->∀c,a.op≠ .defer c:=λb d a e c f=>by
 have:=hL.1 d a e;rw[f] at this;cases this
def mL{c:Nat}:∀b:List Oper,(b.all λa=>fL c a.dst)=true->∀a,a∈b->fL c a.dst=true:=λb d a e=>hL.1 d a e
def K15(L:Lp):FT (C15 L):=O9 (L:=L) (n:=3) (t:=22) (by_:=8) (gf:=269) (xs:=λc=>c) (q0:=1) (v0:=1) (s0:=2) (s0':=1) (q1:=1) (v1:=2) (s1:=2) (s1':=2)
 (R0:=λ_ a=>[⟨2,1,.box 22 [.fl 1 1]⟩,⟨1,1,.aap 3 a⟩]) (R1:=λ_ a=>[⟨2,1,.box 22 [.fl 1 2]⟩,⟨2,2,.aap 3 a⟩])
 mixed dM Tryz.func308 rfl rfl rfl rfl rfl rfl (by kernel_rfl) (by omega) rfl rfl (mL _ rfl) (u6 _ rfl) (mL _ rfl) (u6 _ rfl) (λ_=>rfl) (λc=>⟨_,rfl,_,rfl,rfl,rfl⟩) (pA ie rfl rfl) aoU
 (λb=>rfl) (λb f=>rfl) (λb=>by kernel_rfl) (λb f=>by kernel_rfl) (λb a=>⟨rfl,rfl,by omega⟩) (λb a=>⟨rfl,rfl,by omega⟩)
 (λc r e=>by
  obtain⟨d,rfl⟩:=SQ (by_:=8) e;exact⟨d,rfl,rfl,λh0=>by cases h0;rfl⟩)
def U9(L:Lp):FT (U0 L):=O9 (L:=L) (n:=140) (t:=44) (by_:=48) (gf:=326) (xs:=λc=>c) (q0:=2) (v0:=1) (s0:=2) (s0':=1) (q1:=1) (v1:=2) (s1:=2) (s1':=2)
 (R0:=λ(a:ay) b=>[⟨2,1,.box 44 [.fl 2 1]⟩,⟨2,1,.box 140 [.row 3 a.aw,.row 142 a.aH]⟩,⟨1,1,.aap 140 b⟩]) (R1:=λ(a:ay) b=>[⟨2,1,.box 44 [.fl 1 2]⟩,⟨2,2,.aap 140 b⟩,⟨2,1,.box 140 [.row 3 a.aw,.row 142 a.aH]⟩])
 mixed dM Tryz.func337 rfl rfl rfl rfl rfl rfl (by kernel_rfl) (by omega) rfl rfl (mL _ rfl) (u6 _ rfl) (mL _ rfl) (u6 _ rfl) (λ_=>rfl) (λc=>⟨_,rfl,_,rfl,rfl,rfl⟩) (pA ih rfl rfl) anR
 (λa=>rfl) (λa f=>rfl) (λa=>by kernel_rfl) (λa f=>by kernel_rfl) (λa b=>⟨rfl,rfl,by omega⟩) (λa b=>⟨rfl,rfl,by omega⟩)
 (λc r e=>by
  obtain⟨d,rfl⟩:=SQ (by_:=48) e;exact⟨d,rfl,rfl,λh0=>by cases h0;rfl⟩)
end Go.X.T
namespace Go.X
open Go Go.Aml Go.Bml Go.RowKit
def IX:List (Code×List (Nat×Hn))->Code->Code
 |[],a=>a
 |b::c,a=>.seq b.1 (IX c a)
section
variable {P:Program}{B:Tb}{R:Type}{r:R}
def AS(c:Lp)(B:Tb)(P:Program)(g:List (aq B))(f:Nat){R:Type}:List (Code×List (Nat×Hn))->(Nat->St B.D->Option R)->St B.D->Option R
 |[],b,a=>b 0 a
 |d::h,b,a=>exec c B P g f d.2 d.1 1 (λe a=>bif ee e 0 then AS c B P g f h b a else b e a) a
def RB(a:Nat):List (Code×List (Nat×Hn))->Bool
 |[]=>true
 |c::b=>bif gB a c.1 then RB a b else false
def Ck{l n:Nat}{o:Region.Mode}{e:Array Oper}{m:Exit->Act->World->Prop}(g:∀b c,¬m .outgrown b c)(f:∀(i:Nat) (h:Oper),e[i]?=c3 h->∀s,h.op≠ .defer s):∀(d:Nat) (bN:Array Bool) (b:Act) (c:World),wpAny P o e m d bN b c->wpAnyIn (c6.inRound l) n P o e m d bN b c
 |0,_,_,_,a=>a
 |d+1,bN,b,c,⟨h0,p⟩=>by
  refine⟨h0,λi t=>?_⟩
  have a:=p i t;unfold wpOp at a;unfold wpOpIn;cases k:e[i]? with
  |none=>
   rw[k] at a;exact Ck g f d _ b c a
  |some h=>
   rw[k] at a;simp only at a⊢
   split at a
   .rename_i j;rw[if_pos j];rcases a with a |⟨_,q,u,a⟩
    .exact PP (f i h k) (λb c a=>Ck g f d _ b c a) a
    .exact(g q u a).elim
   .rename_i j;rw[if_neg j];exact⟨λ_ _=>trivial,Ck g f d _ _ _ a⟩
def EB(t:P.follows .mixedOrders=true)(d:cU P B){s:Lp}{e:List (aq B)}(k:∀a,a∈e->Fits P B a){a:aq B}{fn:Func}{code:Code}{rs:List ResultVar}{hs:List (Nat×Hn)}(f:P.funcs[a.cO]?=c3 fn)(h:fn.body=c3 code)(o:(fn.name== "runtime.NumGoroutine")=false)
 (g:fn.results=rs.toArray) (l:ev a.na fn.ntmps=true) (j:gB fn.ntmps code=true) (q:ev a.low (len a.par.dF)=true) (i:lY 0 rs.length a.az.dE=true) (m:∀b c,a.F b=c3 c->gl s B P e a rs code hs b=c3 c):Fits P B a:=by
 refine ti d f h o g l i λb c p=>?_
 have n:a.low<=(cz B a.par b).H.length:=by
  rw[A7, <-eu];exact e0 q
 exact(gO t d k code 1 _ _ _ (m b c p) j n).mono nP
def aed(u:P.follows .mixedOrders=true)(e:cU P B){t:Lp}{a:aq B}{fn:Func}{code:Code}{rs:List ResultVar}{hs:List (Nat×Hn)}(f:P.funcs[a.cO]?=c3 fn)(i:fn.body=c3 code)(p:(fn.name== "runtime.NumGoroutine")=false)
 (g:fn.results=rs.toArray) (m:ev a.na fn.ntmps=true) (k:gB fn.ntmps code=true) (s:ev a.low (len a.par.dF)=true) (j:lY 0 rs.length a.az.dE=true) (n:∀b c,a.F b=c3 c->∃d:List (aq B),(∀a,a∈d->Fits P B a)/\gl t B P d a rs code hs b=c3 c):Fits P B a:=by
 refine ti e f i p g m j λb c q=>?_
 have o:a.low<=(cz B a.par b).H.length:=by
  rw[A7, <-eu];exact e0 s
 obtain⟨d,l,h⟩:=n b c q;exact(gO u e l code 1 _ _ _ h k o).mono nP
def afO(v:P.follows .mixedOrders=true)(e:cU P B){u:Lp}{a:aq B}{fn:Func}{code:Code}{rs:List ResultVar}(g:P.funcs[a.cO]?=c3 fn)(j:fn.body=c3 code)(q:(fn.name== "runtime.NumGoroutine")=false)
 (h:fn.results=rs.toArray) (n:ev a.na fn.ntmps=true) (l:gB fn.ntmps code=true) (t:ev a.low (len a.par.dF)=true) (k:lY 0 rs.length a.az.dE=true) (o:∀b c,a.F b=c3 c->∃(d:List (aq B)) (f:List (Nat×Hn)),(∀a,a∈d->Fits P B a)/\gl u B P d a rs code f b=c3 c):Fits P B a:=by
 refine ti e g j q h n k λb c s=>?_
 have p:a.low<=(cz B a.par b).H.length:=by
  rw[A7, <-eu];exact e0 t
 obtain⟨d,f,m,i⟩:=o b c s;exact(gO v e m code 1 _ _ _ i l p).mono nP
end
def ji(a:List Deferred)(b:Act):Act:={b with defers:=a}
def xM{b:List Deferred}{c:Act}{a:Option Tmp}{v:Value}:(ji b c).put a v=ji b (c.put a v):=by
 cases a <;> rfl
def amK{b:List Deferred}{a:Act}:(ji b a).eval=a.eval:=rfl
section
variable {P:Program}{B:Tb}
def pK(P:Program)(e:Oper):Prop:=∀(b:Act) (d:World) (a:Deferred) (c:World),(execOp b.eval e).run P d≠ .ok (.defer a) c
def aeJ{e:List Deferred}{d:Oper}{a:Act}{b:World}{q g:Act->World->Prop}{s o:Exit->Act->World->Prop}(t:pK P d)(n:∀k a b,s k a b->o k (ji e a) b)(m:∀a b,q a b->g (ji e a) b)(c:d.wp P a b q s):d.wp P (ji e a) b g o:=by
 unfold j7 at c⊢;rw[amK];have p:=t a b;generalize (execOp a.eval d).run P b=r at c p⊢;cases r with
 |ok x h=>
  cases x with
  |value v=>
   show g ((ji e a).put d.dst v) h
   rw[xM];exact m _ _ c
  |skip=>
   show g ((ji e a).put d.dst undef) h
   rw[xM];exact m _ _ c
  |defer w=>exact absurd rfl (p w h)
  |enter f args=>
   refine Calls.mono (show Calls P f args h _ from c) ?_
   intro k j i;cases k with
   |returned v=>
    show g ((ji e a).put d.dst v) j
    rw[xM];exact m _ _ i
   |panicked l=>exact n _ _ _ i
   |outgrown=>obtain⟨A,C,y⟩:=i;exact⟨_,_,n _ _ _ y⟩
  |row row args=>
   intro l u;obtain⟨v,j,i,z⟩:=c l u;refine⟨v,j,?_,z⟩
   show g ((ji e a).put d.dst v) j
   rw[xM];exact m _ _ i
  |_=>exact c.elim
 |halt l h=>
  cases l with
  |panic v=>exact n _ _ _ c
  |_=>exact c.elim
def Lv{i:List Deferred}{all:Array Oper}{l k:Exit->Act->World->Prop}(f:∀j b c,l j b c->k j (ji i b) c):∀(e:List Oper) (b:Act) (c:World),(∀d,d∈e->pK P d)->wpList P all l e b c->wpList P all k e (ji i b) c
 |[],_,_,_,a=>f _ _ _ a
 |d::e,b,c,h,a=>by
  unfold wpList at a⊢;have m:=λb c=>Lv (all:=all) f e b c λd o=>h d (h9 _ o)
  show if Region.wanted d (yielded all b.tmps) then _ else _
  split at a
  .rename_i g;rw[if_pos g];rcases a with a |⟨n,p,q,a⟩
   .exact .inl (aeJ (h d hB) f m a)
   .exact .inr ⟨n,_,_,f _ _ _ a⟩
  .rename_i g;rw[if_neg g,xM];exact m _ _ a
def Hv(E:cU P B){s:List (aq B)}(H:∀q,q∈s->Fits P B q){m nt y:Nat}{N:List Nat}{c:List Oper}{a:St B.D}{x:Type}{r:x}{v:St B.D->Option x}{g:Gh}{j:Act}{e:World}{t:List Deferred}{Q:Exit->Act->World->Prop}
 (D:Rel g nt (aU B a.E) (av B a.H) j e) (z:ops B P s N c (λ_ a=>v a) 0 c [] a=c3 r) (L:∀i,i∈c->fL nt i.dst=true) (R:∀i,i∈c->pK P i)
 (C:∀k w o u,v k=c3 r->Rel u nt (aU B k.E) (av B k.H) w o->Bml.GStep m g (av B a.H) e u (av B k.H) o->Q .normal (ji t w) o):(j5 y c.toArray false).wp P Q (ji t j) e:=by
 obtain⟨V,f,I,K⟩:=qg E H z;have M:=yW (nt:=nt) (n:=m) (Q:=λh p l=>h= .normal/\p=aU B f.E/\l=av B f.H) I L ⟨rfl,rfl,rfl⟩;have G:=M g j e D (eI nt m g (av B a.H) e λh p l=>h= .normal/\p=aU B f.E/\l=av B f.H) (λ_ _ _ b=>b);refine wp_region_lit (Lv ?_ c j e R G)
 intro h S J d;cases h with
 |normal=>
  obtain⟨T,H3,O,⟨_,rfl,rfl⟩,A,F⟩:=d;exact C f S J O K A F
 |exit y=>obtain⟨_,_,_,⟨b,_⟩,_⟩:=d;cases b
 |ret=>obtain⟨_,_,_,⟨b,_⟩,_⟩:=d;cases b
 |goto U=>obtain⟨_,_,_,⟨b,_⟩,_⟩:=d;cases b
 |panic q=>exact d.elim
 |outgrown=>exact d.elim
def Xn(z:cU P B){c:aq B}{fn:Func}{rs:List ResultVar}{C:Nat}(F:fn.results=rs.toArray)(K:lY 0 rs.length c.az.dE=true){k:St B.D}{h:bi B.D c.az.bX}(T:(nh B P k 0 rs [] λO=>take B c.low c.az ⟨O,k.H⟩ c3)=c3 h){w:Gh}{j:Act}{a:World}(x:Rel w C (aU B k.E) (av B k.H) j a):
 ∃v f,(results fn j.tmps).run P a= .ok v a/\bF f (av B (cz B c.az h).H) a/\Bml.GStep c.low w (av B k.H) a f (av B (cz B c.az h).H) a/\VR f (av B (cz B c.az h).H) a (pv B (kR (cz B c.az h).E)) v:=by
 obtain⟨vs,X,G,R⟩:=H4 z T;obtain⟨g,U,Y,L⟩:=R w C j a x;obtain⟨n,q,f,W,M,J⟩:=EK z G x.m;injection q with q
 subst q;have l:∃e:List (TV B.D),e.length=rs.length/\(cz B c.az n).E=fi 0 e:=by
  unfold cz nI;exact GW K
 obtain⟨e,u,l⟩:=l;have y:∀(i:Nat) (m:TV B.D) (v:Value),e[i]?=c3 m->g[i]?=c3 v->VR f (av B (cz B c.az n).H) a (pv B m) v:=λi m v d t=>by
  have E:i<vs.length:=by have:=c9 d;omega
  have o:=L i _ v (c4 E) t;have r:=J i v (by
   rw[Jz,if_pos (e4 _),Nat.sub_zero,c4 E];exact o)
  rw[l] at r;have D:=Dz e 0 i;rw[Nat.zero_add] at D;rw[D,d] at r;exact r
 have Q:∃v,(results fn j.tmps).run P a= .ok v a/\VR f (av B (cz B c.az n).H) a (pv B (kR (cz B c.az n).E)) v:=by
  have I:(fn.results.mapM (yR j.tmps)).run P a= .ok g.toArray a:=by
   rw[F,Array.mapM_eq_mapM_toList];simp only[Sem.run_map,U,ft]
  rw[ND,hX,I,ft,l]
  by_cases o:g.length=1
  .obtain⟨A,rfl⟩:=gy.1 o;obtain⟨p,rfl⟩:=gy.1 (show e.length=1 by omega);exact⟨A,rfl,y 0 p A rfl rfl⟩
  .refine⟨.tuple g.toArray,?_,?_⟩
   .rw[Sem.run_pure]
    congr 1
    exact dif_neg (by simpa using o)
   .have:kR (fi 0 e)= .bu e:=by
     match e,u with
     |[],_=>rfl
     |[p],u=>simp at u;omega
     |N::b::H,_=>exact congrArg TV.bu (GN (N::b::H) 0)
    rw[this];refine .bu _ g (by rw[db,h8];omega) λi m v d t=>?_
    rw[db,dk] at d;cases s:e[i]? with
    |none=>rw[s] at d;cases d
    |some p=>
     rw[s] at d;injection d with d
     subst d;exact y i p v s t
 obtain⟨v,S,V⟩:=Q;exact⟨v,f,S,W,M,V⟩
end
end Go.X
namespace Go.X.T
open Go Go.Aml Go.Bml Go.X Go.RowKit Go.Proofs
attribute [local go_sem] h5
def ai5(m:Nat)(hm:2<=m)(l b off b2 off2 sb so cap N:Nat)(ad:Option Addr)(hN:N*2<=140737488355328)(J:Nat->World->Prop)
 (hr:∀k W,J k W->W.cell? ⟨b,off,dT⟩=c3 (.slice ad (N*2) cap)/\W.cell? ⟨b2,off2,dT⟩=c3 (.int .i64 2)/\N*2<=cap/\(0<N->ad=c3 ⟨sb,so,dT⟩))
 (hJb:∀k W W',J k W->Below W.heap.size W W'->J k W')
 (hy:∀k W,k<N->J k W->YieldAt c6 (m -1) c7 l #[.slice (c3 ⟨sb,so+k*2,dT⟩) 2 2] W λe W'=>e= .returned (.bool true)/\J (k+1) W') (W:World) (h0:J 0 W):
 CallsIn c6 m c7 139 #[.func (.yield l) #[] #[],.pointer (c3 ⟨b,off,dT⟩),.pointer (c3 ⟨b2,off2,dT⟩)] W λe W'=>(∃v,e= .returned v)/\J N W':=by
 have h139:c6.fn 139:=trivial;refine callsIn_of_wp Tryz.func139 rfl h139 ?_ rfl
 have hc0:=(hr 0 W h0).1;simp only[Tryz.ntmps139,ga,gv,h6,Nat.reduceAdd,Nat.reduceSub,ey,ez,gb,eH,h7,gx]
 gi_wp2
 gi_loopw [4] (λvi (wr:World)=>∃k:Nat,vi= .int .i64 ((k*2:Nat):Int)/\k<=N/\J k wr) (λvi _=>match vi with | .int _ k=>N*2 -k.toNat |_=>0)
 case atStart=>exact⟨0,rfl,e4 _,h0⟩
 case round=>
  obtain⟨k,rfl,hk,hJ⟩:=hrel;obtain⟨hc,hc2,hcap,had⟩:=hr k _ hJ
  by_cases hlt:k<N
  .obtain rfl:=had (by omega);have hb0:(0:Int)<=(k:Int)*2:=by omega
   have hb1:(k:Int)*2+2<=(N:Int)*2:=by omega
   have hb2:(N:Int)*2<=(cap:Int):=by omega
   gi_wp2
   gi_region
   have hJ2:=hJb k wr wr.drew hJ (j6 _ _).drew;obtain⟨hcd,hcd2,_,_⟩:=hr k _ hJ2;obtain⟨fn,tmps,assign,body,hyy,hR⟩:=hy k _ hlt hJ2
   gi_wp2
   have e2:k*2+2 -k*2=2:=by omega
   try simp only[e2]
   refine⟨λh=>by simp[c6] at h,hR.mono ?_⟩
   rintro e W3 ⟨rfl,hJ3⟩;obtain⟨_,hc3,_,_⟩:=hr (k+1) _ hJ3
   gi_wp2
   go_roundw
   case rel=>exact⟨k+1,congrArg (hK .i64) (by omega),by omega,hJ3⟩
   case measure=>
    show N*2 - ((k:Int)*2+2).toNat<N*2 - ((k:Int)*2).toNat
    omega
  .have:k=N:=by omega
   subst this
   gi_wp2
   go_end0
   exact⟨⟨_,rfl⟩,hJ⟩
end Go.X.T
