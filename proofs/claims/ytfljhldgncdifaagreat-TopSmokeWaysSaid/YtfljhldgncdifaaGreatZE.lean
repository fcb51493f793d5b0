/- For TopSmokeWays, part 5. -/
import Derived.Test.YtfljhldgncdifaaGreatZD
import Derived.Lib.AppendZerosOnto
import Derived.Lib.AppendZeros
import Derived.Lib.Walk
import Derived.Laws.Externs
import Derived.Laws.NewBlocks
import Derived.Deep.RegionLaw
import Derived.Shelf.Sort.Plain
import Derived.Shelf.Slices.In.SortNone
import Derived.Ground.Names2Prog
import Derived.Lib.Overlaps
import Derived.WalkKit
import Derived.Test.YtfljhldgncdifaaGreatProg
set_option linter.unusedVariables false
set_option linter.unusedSimpArgs false
set_option maxHeartbeats 2000000
set_option maxRecDepth 100000
set_option maxHeartbeats 4000000
set_option maxHeartbeats 0
set_option maxRecDepth 1000000
open Go.IntKind renaming wrap → c3, i64 → c4, wrap_i64 → eH
open Decidable renaming decide → c5, byContradiction → ei, not_not → f5
open Option renaming some → c6, none → c7, bind_some → dt
open Go.Proofs.Tryz renaming prog → d0, func147 → dk, func86 → e5, underlying53 → f4, func143 → g9, f163 → h6, f171 → hK
open List renaming getElem?_eq_getElem → d1, length_take → d2, getElem?_eq_some_iff → d5, length_drop → d7, getElem?_append_right → d8, length_append → d9, getElem?_append_left → e0, mem_singleton → ea, mem_of_getElem? → ec, getElem?_take → ej, getElem?_take_of_lt → ey, length_map → f2, mem_cons → f6, eq_nil_of_length_eq_zero → f9, getElem?_drop → fd, getElem?_eq_none → fe, getElem?_map → ft, mem_of_mem_take → g5, mem_iff_getElem → g6, mem_map → g7, not_mem_nil → ga, getElem_mem → gb, pairwise_cons → ge, size_toArray → gv, take_append_drop → h5, mem_of_mem_drop → h9, append_nil → hq, mem_append → hu, append_assoc → hB, map → hP
open Go.Builtin renaming zeroCells → d3, copy_ → eE
open Array renaming length_toList → d4, getElem?_toList → e6, getD_eq_getD_getElem? → ee, getElem?_setIfInBounds_self_of_lt → eo, getElem?_eq_getElem → f1, size_append → gt, getElem?_modify → gy
open Nat renaming le_refl → d6, zero_le → dv, beq → e4, mul_le_mul_right → g4, zero_add → g8, min_eq_left → gc, add_mul → hD
open Go.Result renaming andThen_ok → dd, andThen → gx
open Go.Sem renaming run_bind → dT, run_pure → ez
open Go.Value renaming agg → ef, int → f7
open Go.World renaming cell?_setCells_out → ev, alloc_heap_new → g0
open Go.RowKit.Below renaming heap_alloc → f8
open Go.Instr renaming checkKey → g3, findNow → h7, findKey → hI, lookup → hL
open Go.Sort renaming putCells → h8
open Go.Addr renaming add_lit → hz
open Sum renaming inr → hM
namespace Go.X.T
open Go Go.Aml Go.Bml Go.X Go.RowKit Go.Proofs
theorem YQ(a:World)(e c:Obj):(a.alloc e).putObj a.heap.size c=a.alloc c:=by
 unfold World.putObj World.alloc;have:(a.heap.push e).setIfInBounds a.heap.size c=a.heap.push c:=by
  apply Array.ext_getElem?
  intro i;rw[Array.getElem?_setIfInBounds,Array.getElem?_push,Array.getElem?_push]
  by_cases b:a.heap.size=i
  ·subst b;simp
  ·rw[if_neg b,if_neg (λd=>b d.symm),if_neg (λd=>b d.symm)]
 rw[this]
theorem LK(a:World)(b:Obj):(a.alloc b).heap[a.heap.size]? =c6 b:=g0 a b
theorem PG{d:Program}(a:World)(b:Array MapEntry)(i:Nat):(getObj a.heap.size).run d (a.alloc (.map b i))= .ok (.map b i) (a.alloc (.map b i)):=by
 have c:=LK a (.map b i);simp only[getObj,Sem.run,c]
theorem ag2{g:Program}(a:World)(d b:Array MapEntry)(i c:Nat):(setObj a.heap.size (.map b c)).run g (a.alloc (.map d i))= .ok () (a.alloc (.map b c)):=by
 have e:=LK a (.map d i);have f:=YQ a (.map d i) (.map b c);simp only[setObj,Sem.run,e];exact congrArg (Result.ok ()) f
theorem aaO{P:Program}{w0:World}{t kt et:TypeId}{es:Array MapEntry}{i:Nat}{k:Int}{v:Value}(f:P.underlying t=c6 (.map kt et))(a:P.underlying kt=c6 (.int .i64))(d:h7 (.int .i64) (.int .i64 k) es.toList 0=c6 c7):
 (Instr.mapUpdate t (.map (c6 w0.heap.size)) (.int .i64 k) v).run P (w0.alloc (.map es i))= .ok () (w0.alloc (.map (es.push ⟨.int .i64 k,v,i⟩) (i+1))):=by
 have e:(g3 false (9999+1) kt (.int .i64 k)).run P (w0.alloc (.map es i))= .ok () (w0.alloc (.map es i)):=by
  unfold g3;simp only[dT,run_underlying a,dd,ez]
 have c:(hI kt (.int .i64 k) es.toList).run P (w0.alloc (.map es i))= .ok c7 (w0.alloc (.map es i)):=by
  unfold hI;simp only[dT,run_underlying a,dd,d,ez]
 unfold Instr.mapUpdate;simp only[dT,run_underlying f,dd,PG];have b:(g3 false 10000 kt (.int .i64 k)).run P (w0.alloc (.map es i))= .ok () (w0.alloc (.map es i)):=e;rw[b];simp only[dd,c,dT,ag2]
def PB(z:Value):Option (Nat×Value)->Value
 |some p=>p.2
 |none=>z
theorem anN{P:Program}{w0:World}{t kt et:TypeId}{es:Array MapEntry}{i:Nat}{k:Int}{r:Option (Nat×Value)}{z:Value}(g:P.underlying t=c6 (.map kt et))(a:P.underlying kt=c6 (.int .i64))(d:dV P et=c6 z)(e:h7 (.int .i64) (.int .i64 k) es.toList 0=c6 r):
 (hL t (.map (c6 w0.heap.size)) (.int .i64 k) false).run P (w0.alloc (.map es i))= .ok (PB z r) (w0.alloc (.map es i)):=by
 have f:∀b,(g3 b 10000 kt (.int .i64 k)).run P (w0.alloc (.map es i))= .ok () (w0.alloc (.map es i)):=λb=>by
  show(g3 b (9999+1) kt (.int .i64 k)).run P _=_
  unfold g3;simp only[dT,run_underlying a,dd,ez]
 have c:(hI kt (.int .i64 k) es.toList).run P (w0.alloc (.map es i))= .ok r (w0.alloc (.map es i)):=by
  unfold hI;simp only[dT,run_underlying a,dd,e,ez]
 unfold hL;simp only[dT,run_underlying g,dd,PG,ez,f,c];cases r with
 |none=>simp only[dT,Ey d,dd,ez,Bool.false_eq_true,if_false];rfl
 |some p=>simp only[dT,dd,ez,Bool.false_eq_true,if_false];rfl
def nv:Nat->Array MapEntry
 |0=>#[]
 |i+1=>(nv i).push ⟨.int .i64 ((i:Int)+1),.func (.func (103+i)) #[] #[],i⟩
theorem uj{c:Program}{d:Array Oper}{f:Exit->Act->World->Prop}{a:Oper}{h:List Oper}{b:Act}{g e:World}{v:Value}(j:a.guard=c7)(l:(execOp b.eval a).run c g= .ok (.value v) e)(i:wpList c d f h (b.put a.dst v) e):wpList c d f (a::h) b g:=
 wpList_plain j λm k=>by
  unfold Oper.wp;rw[l];exact k _ _ i
theorem lr{c:Program}{d:Array Oper}{f:Exit->Act->World->Prop}{a:Oper}{h:List Oper}{b:Act}{g e:World}(j:a.guard=c7)(l:(execOp b.eval a).run c g= .ok .skip e)(i:wpList c d f h (b.put a.dst undef) e):wpList c d f (a::h) b g:=
 wpList_plain j λm k=>by
  unfold Oper.wp;rw[l];exact k _ _ i
theorem kZ{a:Act}{w0:World}{k:Int}{f:Nat}{c:TypeId}{d:String}{m:Array Edge}(i:Nat)(e:a.eval (.tmp 3)= .map (c6 w0.heap.size))(j:k=(i:Int)+1:=by rfl)(g:f=103+i:=by rfl)(l:h7 (.int .i64) (.int .i64 ((i:Int)+1)) (nv i).toList 0=c6 c7:=by rfl):
 (execOp a.eval ⟨c7,.insert 209 (.tmp 3) (.const (.int .i64 k)) (.func f),c,d,m,c7⟩).run d0 (w0.alloc (.map (nv i) i))= .ok .skip (w0.alloc (.map (nv (i+1)) (i+1))):=by
 subst j;subst g;have h:a.eval (.const (.int .i64 ((i:Int)+1)))= .int .i64 ((i:Int)+1):=rfl;have b:a.eval (.func (103+i))= .func (.func (103+i)) #[] #[]:=rfl;have:=aaO (P:=d0) (w0:=w0) (t:=209) (kt:=3) (et:=134) (es:=nv i) (i:=i) (k:=(i:Int)+1) (v:=.func (.func (103+i)) #[] #[]) (by kernel_rfl) (by kernel_rfl) l;simp only[execOp,e,h,b,dT,this,dd,ez]
 rfl
theorem afd{b:Act}{c a:World}{d:Int}{v:Value}{f:TypeId}{g:String}{j:Array Edge}(h:b.eval (.tmp 4)= .map (c6 c.heap.size))(i:b.eval (.tmp 5)= .int .i64 d)(e:(hL 209 (.map (c6 c.heap.size)) (.int .i64 d) false).run d0 a= .ok v a):
 (execOp b.eval ⟨c6 6,.lookup 209 (.tmp 4) (.tmp 5) false,f,g,j,c7⟩).run d0 a= .ok (.value v) a:=by
 simp only[execOp,h,i];simp[e]
theorem apG(a:Int):∃r,h7 (.int .i64) (.int .i64 a) (nv 13).toList 0=c6 r/\PB .nilFunc r=(match lK a with |none=>.nilFunc |some f=>.func (.func f) #[] #[]):=by
 by_cases e:1<=a/\a<=13
 ·have:a=1\/a=2\/a=3\/a=4\/a=5\/a=6\/a=7\/a=8\/a=9\/a=10\/a=11\/a=12\/a=13:=by omega
  rcases this with rfl |rfl |rfl |rfl |rfl |rfl |rfl |rfl |rfl |rfl |rfl |rfl |rfl <;> exact⟨_,rfl,rfl⟩
 ·have g:∀b:Int,1<=b->b<=13->(a==b)=false:=λb d c=>by
   rw[beq_eq_false_iff_ne];intro h;exact e ⟨by omega,by omega⟩
  refine⟨c7,?_,?_⟩
  ·simp[nv,h7,Instr.sameNow,g]
  ·have:lK a=c7:=by
    unfold lK
    by_cases d:1<=a
    ·have c:¬a<=13:=λc=>e ⟨d,c⟩
     rw[decide_eq_true d,decide_eq_false c]
     rfl
    ·rw[decide_eq_false d]
     rfl
   rw[this]
   rfl
theorem amx{a:Act}{d b:World}{e:Int}{v:Value}{k f:TypeId}{r q:String}{s h:Array Edge}{p:Array Oper}{c:Ending->World->Prop}(l:a.eval (.tmp 4)= .map (c6 d.heap.size))(m:a.eval (.tmp 5)= .int .i64 e)(t:a.tmps.size=7)(n:a.defers=[])
 (j:(hL 209 (.map (c6 d.heap.size)) (.int .i64 e) false).run d0 b= .ok v b) (i:c (.returned v) b):
 wpList d0 p (Exit.then (Code.ret.wp d0 (bodyPost d0 Tryz.f45 c)) (bodyPost d0 Tryz.f45 c)) [⟨c6 6,.lookup 209 (.tmp 4) (.tmp 5) false,k,r,s,c7⟩,⟨c6 2,.assign (.tmp 6),f,q,h,c7⟩] a b:=by
 refine uj rfl (afd l m j) ?_
 have o:(a.put (c6 6) v).eval (.tmp 6)=v:=by
  show(a.tmps.setIfInBounds 6 v).getD 6 undef=v
  rw[ee,eo (by omega)]
  rfl
 refine uj (v:=v) rfl (by
  show Result.ok (Next.value ((a.put (c6 6) v).eval (.tmp 6))) b=_
  rw[o]) ?_
 refine wpList_nil (wp_ret ⟨n,v,?_,i⟩)
 rw[results_tmp rfl];have g:(((a.put (c6 6) v).put (c6 2) v).tmps).getD 2 undef=v:=by
  show((a.tmps.setIfInBounds 6 v).setIfInBounds 2 v).getD 2 undef=v
  rw[ee,eo (by simp;omega)]
  rfl
 exact congrArg (λz=>Result.ok z b) g
theorem K88(l:Lp):FT (FZ l):=by
 refine⟨pA Tryz.func45 rfl rfl,λc j d g w vs v h p=>?_⟩
 have d:c6 (lK c)=c6 j:=d;injection d with d
 match vs,v with
 |[q],_=>
 have h0:=p 0;have y:q= .int .i64 c:=VR.fQ (g:=g) (w:=w) h0;subst y;refine calls_of_wp Tryz.func45 rfl ?_
 refine wp_seq (wp_region_lit (uj rfl rfl ?_))
 show Code.wp _ _ _ _ _
 refine wp_seq (wp_region_lit (uj rfl rfl ?_))
 refine lr rfl (kZ 0 rfl) ?_
 refine lr rfl (kZ 1 rfl) ?_
 refine lr rfl (kZ 2 rfl) ?_
 refine lr rfl (kZ 3 rfl) ?_
 refine lr rfl (kZ 4 rfl) ?_
 refine lr rfl (kZ 5 rfl) ?_
 refine lr rfl (kZ 6 rfl) ?_
 refine lr rfl (kZ 7 rfl) ?_
 refine lr rfl (kZ 8 rfl) ?_
 refine lr rfl (kZ 9 rfl) ?_
 refine lr rfl (kZ 10 rfl) ?_
 refine lr rfl (kZ 11 rfl) ?_
 refine lr rfl (kZ 12 rfl) ?_
 refine uj rfl rfl (uj rfl rfl ?_)
 obtain⟨r,z,x⟩:=apG c;have o:dV d0 134=c6 .nilFunc:=by kernel_rfl
 have m:=anN (P:=d0) (w0:=w) (t:=209) (kt:=3) (et:=134) (es:=nv 13) (i:=13) (k:=c) (by kernel_rfl) (by kernel_rfl) o z;rw[x] at m;refine amx rfl rfl rfl rfl m ?_
 have a:Below w.heap.size w (w.alloc (.map (nv 13) 13)):=(Below.refl _ w).alloc (d6 _) _;have A:(cz BT (FZ l).par c).H=[]:=rfl;have s:(cz BT (FZ l).az j)=⟨[(0,.jC j)],[]⟩:=rfl;rw[A] at h⊢;rw[s];obtain⟨n,u⟩:=GStep.lF (w':=w.alloc (.map (nv 13) 13)) (GStep.refl 0 g (av BT []) w) h a.os a.tape a.output a.size (λb e=>a.block b (h.fb b e)) (λr b B e=>a.block b (h.qD e)) (λb e=>a.block b e);refine⟨_,g,rfl,u,n,?_⟩
 subst d;show VR g (av BT []) _ (pv BT (.jC (lK c))) _
 cases lK c with
 |none=>exact .aW .dB
 |some f=>exact .aW (.fn f [] [] [] [] rfl (by simp) rfl (by simp))
def aiC(i:Program)(f:FuncId)(g j h:Nat):Prop:=
 ∀(a:World) (c:Nat),c*h<=140737488355328->c<=140737488355328->Calls i f #[.slice c7 0 0,.int .i64 c] a λe d=>(e= .returned (.slice c7 0 0)/\d=a)\/∃b cells,e= .returned (.slice (c6 ⟨a.heap.size,0,c7⟩) 0 b)/\cells.size=b*j/\b<=maxLen/\d=a.drew.alloc (.cells cells g)
section
open Go.RowKit
theorem acK:(d0.info? 3).map (λi=>(i.zero,i.size,i.bytes))=c6 (c6 (f7 .i64 0),1,8):=by kernel_rfl
theorem aaj(w:World):Calls d0 340 #[.slice c7 0 0,.int .i64 0] w λe w'=>e= .returned (.slice c7 0 0)/\w'=w:=by
 go_enter Tryz.func340,Tryz.ntmps340
 go_wp2
 go_ret
 exact⟨rfl,rfl⟩
theorem ak2(w:World)(n:Nat)(h0:0<n)(hb:n*8<=140737488355328)(hb2:n<=140737488355328):Calls d0 340 #[.slice c7 0 0,.int .i64 n] w λe w'=>e= .returned (.slice (c6 ⟨w.heap.size,0,c7⟩) 0 (grownCap w n 0 3))/\w'=w.drew.alloc (.cells (d3 ((f7 .i64 0):Value).cells n++d3 ((f7 .i64 0):Value).cells (grownCap w n 0 3 -n)) 3):=by
 obtain⟨i0,hi0,hz0,hzs,hzb⟩:=info_parts acK;have hrz:∀ty,(Builtin.append_ #[22,3] ty #[.slice c7 0 0,.int .i64 (n:Int)]).run d0 w=_:=λty=>
  Lib.run_append_nil_zeros w 22 3 ty 3 i0 _ .i64 .i64 Tryz.underlying22 Tryz.underlying3 hi0 hz0 n h0 (by omega) (by omega) (by rw[hzb];omega)
 have hG:=grownCap_ge w n 0 3;have hG63:grownCap w n 0 3<=9223372036854775807:=grownCap_le_maxLen w n 0 3 (by unfold maxLen;omega);have hp:(0:Int)<(n:Int):=by omega
 generalize grownCap w n 0 3=G at hrz hG hG63⊢;have hG0:¬(G=0):=by omega
 go_enter Tryz.func340,Tryz.ntmps340
 go_wp2_with (at_builtin;refine Lib.wpList_append_run _ rfl _ _ _ _ rfl _ _ rfl rfl _ _ (hrz _) ?_)
 go_ret
 exact⟨rfl,rfl⟩
theorem V0:aiC d0 340 3 1 8:=by
 intro a b g f;rcases Nat.eq_zero_or_pos b with rfl |h0
 ·exact(aaj a).mono λe d c=>.inl c
 ·refine(ak2 a b h0 g f).mono ?_
  rintro e d ⟨rfl,rfl⟩;refine .inr ⟨_,_,rfl,?_,grownCap_le_maxLen a b 0 3 (by unfold maxLen;omega),rfl⟩
  have i:=grownCap_ge a b 0 3;have h:((f7 .i64 0):Value).cells.size=1:=by decide
  simp only[gt,size_zeroCells,h];omega
theorem anw{g:Gh}{c:World}(j:bF g [] c)(f:Nat)(cells:Array Value)(h:Nat)(v:cells.size=h*1)(u:h<=maxLen):
 Bml.GStep 0 g [] c ⟨g.F,λr=>if r=0 then c6 (c.heap.size,h) else c7⟩ [⟨f,1,[],0⟩] (c.alloc (.cells cells f))/\bF ⟨g.F,λr=>if r=0 then c6 (c.heap.size,h) else c7⟩ [⟨f,1,[],0⟩] (c.alloc (.cells cells f)):=by
 refine⟨⟨rfl,rfl,rfl,by simp,λ_ a=>a,λb a=>f8 c _ b (j.fb b a),λb a _=>f8 c _ b a,λb a=>.inl a,λr b s a=>?_,λr m w d=>?_⟩,⟨λb a=>?_,λr o b C1 C2 k l=>?_,λr b s a=>?_,λr m d=>?_⟩⟩
 ·dsimp only at a
  by_cases e:r=0
  ·rw[if_pos e] at a;injection a with a
   injection a with a
   exact .inl (by omega)
  ·rw[if_neg e] at a;cases a
 ·omega
 ·have:=j.fb b a;simp;omega
 ·dsimp only at k l
  by_cases e:r=0
  ·by_cases t:o=0
   ·omega
   ·rw[if_neg t] at l;cases l
  ·rw[if_neg e] at k;cases k
 ·dsimp only at a
  by_cases e:r=0
  ·subst e;exact Nat.one_pos
  ·rw[if_neg e] at a;cases a
 ·match r,d with
  |0,d=>
   have d:c6 (⟨f,1,[],0⟩:aO)=c6 m:=d;injection d with d
   subst d;refine⟨Nat.one_pos,λi e n=>by simp at n,?_⟩
   simp only[if_true];exact⟨λp=>Nat.lt_irrefl _ (j.fb _ p),cells,g0 c _,v,u,dv _,λi x y q=>by simp[cellOf] at q⟩
theorem aeg{by_:Nat}{n:Int}{y:List Int}(a:Ct by_ n=c6 y):∃d:Nat,n=(d:Int)/\d*by_<=140737488355328/\y=[]:=by
 unfold Ct at a;cases c:c5 ((0:Int)<=n) with
 |false=>rw[c] at a;cases a
 |true=>
  rw[c] at a;have h0:=of_decide_eq_true c;obtain⟨i,f,b⟩:=Option.bind_eq_some_iff.1 a;obtain⟨g,e,h⟩:=SF f;injection b with b
  exact⟨n.toNat,by omega,e,b.symm⟩
theorem abI(f:Lp):FT (J7 f):=by
 refine⟨pA Tryz.func340 rfl rfl,λa y o g w vs t c b=>?_⟩
 obtain⟨n,A,s,h⟩:=aeg (by_:=8) (n:=a) (y:=y) o;have x:cz BT (J7 f).par a=⟨[(0,.bg),(1,.int .i64 a)],[]⟩:=rfl;rw[x] at c b⊢
 match vs,t with
 |[k,u],_=>
 have v:k= .slice c7 0 0:=VR.pF (g:=g) (w:=w) (H:=[]) (b 0);have z:u= .int .i64 a:=VR.fQ (g:=g) (w:=w) (H:=[]) (b 1);subst v z;have p:(cz BT (J7 f).az y)=⟨[(0,.fl 0 0)],[⟨0,0,.rows 3 y⟩]⟩:=rfl;rw[p];have j:=V0 w n s (by omega);rw[<-A] at j;refine j.mono ?_
 rintro E D (⟨rfl,rfl⟩ |⟨i,cells,rfl,C,B,rfl⟩)
 ·obtain⟨d,e⟩:=c.T6 3 1 (by omega);subst h;refine⟨_,_,rfl,e,d.less (dv _),.fl 0 0 ⟨3,1,[],0⟩ _ rfl (d6 _) rfl λ_=>⟨by simp,?_⟩⟩
  have:=Gh.kg g 0 c7;rw[show(av BT ([]:List (Ob BT.D))).length=0 from rfl,this];exact⟨rfl,rfl,c7,rfl⟩
 ·obtain⟨l,r⟩:=Ez (m:=0) c;subst h;obtain⟨d,e⟩:=anw r 3 cells i C B;refine⟨_,_,rfl,e,l.trans d,.fl 0 0 ⟨3,1,[],0⟩ _ rfl (d6 _) rfl λ_=>⟨by simp,?_⟩⟩
  exact⟨i,_,rfl,dv _,λq=>absurd rfl q,λ_=>⟨rfl,rfl⟩⟩
end
theorem FC(c:Int):∀a,(mM c a).Perm (c::a)
 |[]=>.refl _
 |b::a=>by
  unfold mM;cases c5 (c<=b) with
  |true=>exact .refl _
  |false=>exact((FC c a).cons b).trans (.swap c b a)
theorem Ji:∀a,(dQ a).Perm a
 |[]=>.refl _
 |b::a=>(FC b (dQ a)).trans ((Ji a).cons b)
theorem L7(f:Int):∀e,List.Pairwise (λc h=>c<=h) e->List.Pairwise (λc h=>c<=h) (mM f e)
 |[],_=>by simp[mM]
 |b::e,d=>by
  unfold mM;rw[ge] at d;cases i:c5 (f<=b) with
  |true=>
   have g:=of_decide_eq_true i;refine ge.2 ⟨λc a=>?_,ge.2 d⟩
   rcases f6.1 a with rfl |a
   ·exact g
   ·exact Int.le_trans g (d.1 c a)
  |false=>
   have g:=of_decide_eq_false i;refine ge.2 ⟨λc a=>?_,L7 f e d.2⟩
   rcases f6.1 ((FC f e).mem_iff.1 a) with rfl |a
   ·omega
   ·exact d.1 c a
theorem Qe:∀a,List.Pairwise (λd b=>d<=b) (dQ a)
 |[]=>.nil
 |c::a=>L7 c _ (Qe a)
theorem apt(c:List Int):(c.mergeSort λe d=>c5 (e<=d))=dQ c:=by
 refine List.Perm.eq_of_pairwise (le:=λe d=>e<=d) (λg b _ _ h f=>Int.le_antisymm h f) ?_ (Qe c) ((List.mergeSort_perm _ _).trans (Ji c).symm)
 refine(List.pairwise_mergeSort (le:=λe d=>c5 (e<=d)) (λg b i h f=>?_) (λg b=>?_) c).imp λa=>of_decide_eq_true a
 ·exact decide_eq_true (Int.le_trans (of_decide_eq_true h) (of_decide_eq_true f))
 ·rcases Int.le_total g b with a |a
  ·simp[a]
  ·simp[a]
theorem ahq{l y:List Int}(a:rC l=c6 y):l.length<=140737488355328/\y=dQ l:=by
 unfold rC at a;cases b:Nat.ble l.length 140737488355328 with
 |false=>rw[b] at a;cases a
 |true=>
  rw[b] at a;injection a with a
  exact⟨Nat.le_of_ble_eq_true b,a.symm⟩
theorem HB(a:List Int):(dQ a).length=a.length:=(Ji a).length_eq
def Tryz_lays189_ren : Go.Shelf.Ren := ⟨fun | 189 => 225 | 125 => 278 | 257 => 277 | 128 => 319 | 129 => 320 | 294 => 310 | 295 => 311 | 296 => 312 | 297 => 313 | 298 => 314 | 299 => 315 | 216 => 316 | 300 => 317 | 301 => 318 | 328 => 331 | 329 => 332 | 330 => 333 | 331 => 334 | 332 => 335 | 215 => 307 | 343 => 341 | n => n, fun | 28 => 22 | 3 => 3 | 46 => 181 | 0 => 0 | 51 => 347 | 53 => 179 | 4 => 4 | 183 => 379 | 182 => 378 | 131 => 323 | 5 => 5 | 9 => 9 | 218 => 390 | 222 => 304 | 228 => 398 | 229 => 298 | n => n, fun n => n⟩
open Go.Proofs.Tryz in
theorem Tryz_lays189 : Go.Proofs.Lays.n189 Tryz.prog Tryz_lays189_ren := ⟨by kernel_rfl, func278.trans (congrArg some (by kernel_rfl)), func319.trans (congrArg some (by kernel_rfl)), func320.trans (congrArg some (by kernel_rfl)), func225.trans (congrArg some (by kernel_rfl)), func307.trans (congrArg some (by kernel_rfl)), func316.trans (congrArg some (by kernel_rfl)), func277.trans (congrArg some (by kernel_rfl)), func310.trans (congrArg some (by kernel_rfl)), func311.trans (congrArg some (by kernel_rfl)), func312.trans (congrArg some (by kernel_rfl)), func313.trans (congrArg some (by kernel_rfl)), func314.trans (congrArg some (by kernel_rfl)), func315.trans (congrArg some (by kernel_rfl)), func317.trans (congrArg some (by kernel_rfl)), func318.trans (congrArg some (by kernel_rfl)), func331.trans (congrArg some (by kernel_rfl)), func332.trans (congrArg some (by kernel_rfl)), func333.trans (congrArg some (by kernel_rfl)), func334.trans (congrArg some (by kernel_rfl)), func335.trans (congrArg some (by kernel_rfl)), func341.trans (congrArg some (by kernel_rfl)), underlying0, isAgg0, sizeOf0, zeroValue0, underlying3, isAgg3, sizeOf3, zeroValue3, underlying4, isAgg4, sizeOf4, zeroValue4, underlying5, isAgg5, sizeOf5, zeroValue5, underlying9, isAgg9, sizeOf9, zeroValue9, underlying22, isAgg22, sizeOf22, zeroValue22, underlying181, isAgg181, sizeOf181, zeroValue181, underlying347, isAgg347, sizeOf347, zeroValue347, underlying179, isAgg179, sizeOf179, zeroValue179, underlying323, isAgg323, sizeOf323, zeroValue323, underlying378, isAgg378, sizeOf378, zeroValue378, underlying379, isAgg379, sizeOf379, zeroValue379, underlying390, isAgg390, sizeOf390, zeroValue390, underlying304, isAgg304, sizeOf304, zeroValue304, underlying398, isAgg398, sizeOf398, zeroValue398, underlying298, isAgg298, sizeOf298, zeroValue298⟩
theorem ajH{g:Gh}{c:World}{a:List Int}{b k n:Nat}{u:Array Obj}(x:bF g [⟨3,1,a.map (PV.int .i64),0⟩] c)(m:g.β 0=c6 (b,k)){w':World}(l:w'=Sort.grow (Sort.putRow (f7 .i64) (Sort.ahead c n) b 0 (dQ a).toArray) u):
 ∃w,Bml.GStep 1 g [⟨3,1,a.map (PV.int .i64),0⟩] c w [⟨3,1,(dQ a).map (PV.int .i64),0⟩] w'/\bF w [⟨3,1,(dQ a).map (PV.int .i64),0⟩] w':=by
 have D:=(x.obj 0 _ rfl).mem;rw[m] at D;obtain⟨N,cells,C,v,G,B,O⟩:=D;have M:b<c.heap.size:=nN C;rw[f2] at B;have y:(Sort.putRow (f7 .i64) (Sort.ahead c n) b 0 (dQ a).toArray).heap=c.heap.modify b (Sort.onCells (h8 (f7 .i64) 0 (dQ a).toArray)):=rfl;have z:(Sort.putRow (f7 .i64) (Sort.ahead c n) b 0 (dQ a).toArray).heap.size=c.heap.size:=by rw[y];simp
 have A:∀j,j<c.heap.size->w'.heap[j]? =(c.heap.modify b (Sort.onCells (h8 (f7 .i64) 0 (dQ a).toArray)))[j]? :=λj t=>by
  rw[l,Sort.heap_grow_old _ u (by rw[z];exact t),y]
 have I:=bF.set (r:=0) (o':=⟨3,1,(dQ a).map (PV.int .i64),0⟩) (w':=w') (p:=c6 (b,k)) x rfl (by rw[l];rfl) (by rw[l];rfl) (by rw[l];rfl)
  (by rw[l];show c.heap.size<=((Sort.putRow (f7 .i64) (Sort.ahead c n) b 0 (dQ a).toArray).heap++u).size;rw[gt,z];omega)
  (λj t K=>by
   rw[A j t,gy];rw[if_neg (λo=>K k (by rw[<-o];exact m))])
  (d6 _) (λ_=>⟨rfl,by simp[HB],m.symm⟩) (λR Q s=>by injection s with s;injection s with h1 h2;subst h1;exact .inl ⟨k,m⟩) Nat.one_pos
  (λi o d=>by
   obtain⟨e,_,rfl⟩:=g7.1 (ec d)
   rfl) ?_
 ·exact⟨_,I⟩
 ·refine⟨h8 (f7 .i64) 0 (dQ a).toArray cells,?_,?_,G,by simpa[HB] using B,λi H L h=>?_⟩
  ·rw[A b M,gy,if_pos rfl,C]
   rfl
  ·unfold h8;rw[Array.size_mapIdx,v]
  ·obtain⟨o,d,F⟩:=gw h;obtain⟨e,f,rfl⟩:∃e,(dQ a)[i]? =c6 e/\PV.int .i64 e=o:=by
    rw[ft] at d;cases f:(dQ a)[i]? with
    |none=>rw[f] at d;cases d
    |some e=>rw[f] at d;injection d with d;exact⟨e,rfl,d⟩
   match H,F with
   |0,_=>
    have h:L=PV.int .i64 e:=by
     unfold cellOf at h;rw[d] at h;injection h with h
     exact h.symm
    subst h;have q:i<(dQ a).length:=(d5.1 f).1;have J:i<cells.size:=by
     have P:cells.size=k*1:=v;rw[HB] at q;omega
    refine⟨.int .i64 e,?_,rfl,.aW (.int _ _)⟩
    unfold h8;rw[Array.getElem?_mapIdx,Nat.mul_one,Nat.add_zero,f1 J];simp only[Option.map_some,dv,g8,true_and,gv,q,if_true,Nat.sub_zero];have E:(dQ a).toArray[i]! =e:=by
     rw[d5] at f;obtain⟨_,f⟩:=f;simp[q,f]
    rw[E]
theorem ak4(a:List Int){g:Gh}{c:World}{n:Value}(H:a.length<=140737488355328)(s:bF g [⟨3,1,a.map (PV.int .i64),0⟩] c)(h0:VR g [⟨3,1,a.map (PV.int .i64),0⟩] c (.fl 0 0) n):
 Calls d0 225 #[n] c λf d=>f= .returned (.tuple #[])/\∃i,Bml.GStep 1 g [⟨3,1,a.map (PV.int .i64),0⟩] c i [⟨3,1,(dQ a).map (PV.int .i64),0⟩] d/\bF i [⟨3,1,(dQ a).map (PV.int .i64),0⟩] d:=by
 have A:SL g ⟨3,1,a.map (PV.int .i64),0⟩ 0 0 a.length n:=by
  cases h0 with
  |aW p=>cases p
  |fl _ _ z _ h J N q=>
   have h:c6 (⟨3,1,a.map (PV.int .i64),0⟩:aO)=c6 z:=h;injection h with h
   subst h;have:=q rfl;have f:(⟨3,1,a.map (PV.int .i64),0⟩:aO).es.length=a.length:=f2 _
   rwa [f] at this
 obtain⟨F,l⟩:=A;have u:∀(e:Option Addr) (cap:Nat),a.length=0->Calls d0 225 #[.slice e 0 cap] c λf d=>(f= .returned (.tuple #[])/\∃i,Bml.GStep 1 g [⟨3,1,a.map (PV.int .i64),0⟩] c i [⟨3,1,(dQ a).map (PV.int .i64),0⟩] d/\bF i [⟨3,1,(dQ a).map (PV.int .i64),0⟩] d):=λe cap p=>by
  have q:a=[]:=f9 p;subst q;refine(Any.slices_Sort_int_none Tryz_lays189 e cap c).mono ?_
  rintro f d ⟨rfl,rfl⟩;exact⟨rfl,g,Bml.GStep.refl _ _ _ _,s⟩
 cases m:g.β 0 with
 |none=>
  rw[m] at l;obtain⟨_,k,e,rfl⟩:=l;exact u e 0 k
 |some C=>
  obtain⟨b,I⟩:=C;rw[m] at l;obtain⟨cap,e,rfl,T,O,E⟩:=l;rcases Nat.eq_zero_or_pos a.length with k |K
  ·rw[k];exact u e cap k
  ·obtain rfl:=(E rfl).1;have v:=(s.obj 0 _ rfl).mem;rw[m] at v;obtain⟨G,cells,r,L,M,R,x⟩:=v;have B:Sort.Holds (f7 .i64) c b 0 a.toArray:=λj o=>by
    rw[gv] at o;have D:cellOf (a.map (PV.int .i64)) j 0=c6 (.int .i64 a[j]):=by
     unfold cellOf;rw[ft,d1 o]
     rfl
    obtain⟨P,u1,u2,u3⟩:=x j 0 _ D;have y:=VR.fQ u3;subst y;refine⟨?_,?_⟩
    ·have w:a.toArray[j]! =a[j]:=by simp[o]
     rw[w,g8];unfold World.cell?;rw[r];simpa using u1
    ·unfold World.frozen?;rw[r];simp
   refine(Any.slices_Sort_int Tryz_lays189 b 0 cap a c B (nN r) (by omega)).mono ?_
   rintro f d ⟨rfl,Q,S,t⟩;rw[apt] at t;exact⟨rfl,ajH s m t⟩
theorem D5(b:Lp):FT (AW b):=by
 refine⟨pA Tryz.func225 rfl rfl,λa y h g u vs n d c=>?_⟩
 obtain⟨e,f⟩:=ahq (l:=a) (y:=y) h;have q:cz BT (AW b).par a=⟨[(0,.fl 0 0)],[⟨0,0,.rows 3 a⟩]⟩:=rfl;have k:cz BT (AW b).az y=⟨[],[⟨0,0,.rows 3 y⟩]⟩:=rfl;rw[q] at d c⊢;rw[k];subst f
 match vs,n with
 |[r],_=>
 refine(ak4 a e d (c 0)).mono ?_
 rintro t s ⟨rfl,j,o,p⟩;exact⟨_,j,rfl,p,o,.bu [] [] rfl λi v a m=>by simp at m⟩
end Go.X.T
namespace Go.Bml
open Go Go.RowKit
section
variable {P : Program}
theorem Ee(w:World)(n z q elem:TypeId)(j b d o B:Nat)(h:Addr)(l A f:Nat)(c:List Value)
 (y:P.underlying n=c6 (.slice elem)) (k:cH P elem=c6 j) (r:Nat.min l o=f) (u:c.length=f*j)
 (t:∀a v,c[a]? =c6 v->w.cell? (h.add a)=c6 v) (D:∀a,a<c.length->(w.cell? ⟨b,d+a,c7⟩).isSome=true) (C:∀a,a<c.length->w.frozen? ⟨b,d+a,c7⟩=false) (x:∀v∈c,v.oneCell'=true):
 (eE #[n,z] q #[.slice (c6 ⟨b,d,c7⟩) o B,.slice (c6 h) l A]).run P w= .ok (goInt f) (w.setCells b d c):=by
 have m:=run_loadCells_list (P:=P) w h c t;have s:=run_storeCells_cells (P:=P) b d c 0 w (by simpa using D) (by simpa using C) x;rw[u] at m;cases e:P.info? elem with
 |none=>simp[cH,e] at k
 |some i=>
  have p:i.size=j:=by simpa[cH,e] using k
  simp[eE,run_underlying y,Builtin.lenOf,Builtin.firstCells,sizeOf,typeInfo,e,p,r,m,s]
theorem MW(b:Nat)(vs:List Value)(a:Nat)(w:World)(e:∀d,d<vs.length->(w.cell? ⟨b,a+d,c7⟩).isSome=true)(c:Nat)(f:(w.cell? ⟨b,c,c7⟩).isSome=true):((w.setCells b a vs).cell? ⟨b,c,c7⟩).isSome=true:=by
 by_cases h:a<=c/\c<a+vs.length
 ·have:=World.cell?_setCells_in b vs a w e (c -a) (by omega);rw[show a+(c -a)=c by omega] at this;rw[this];rfl
 ·rw[ev b vs a w ⟨b,c,c7⟩ (λ_ _=>by show c<a\/a+vs.length<=c;omega)];exact f
theorem akt{w:World}{b o:Nat}{v:Value}{cells:Array Value}{a:TypeId}{d:Nat×Nat}(e:w.heap[b]? =c6 (.cells cells a d)):
 ∃c,(w.setCell ⟨b,o,c7⟩ v).heap[b]? =c6 (.cells c a d)/\c.size=cells.size:=by
 refine⟨cells.setIfInBounds o v,?_,by simp⟩
 unfold World.setCell;dsimp only;rw[gy,if_pos rfl,e]
 rfl
theorem P2{b:Nat}{c:TypeId}{d:Nat×Nat}:∀(vs:List Value) (o:Nat) (w:World) (cells:Array Value),w.heap[b]? =c6 (.cells cells c d)->
 ∃e,(w.setCells b o vs).heap[b]? =c6 (.cells e c d)/\e.size=cells.size
 |[],_,_,cells,a=>⟨cells,a,rfl⟩
 |v::r,o,w,cells,a=>by
  obtain⟨k,l,j⟩:=akt (o:=o) (v:=v) a;obtain⟨i,h,f⟩:=P2 r (o+1) _ k l;exact⟨i,h,f.trans j⟩
theorem MQ{b:Nat}:∀(vs:List Value) (c:Nat) (w:World) (a:Nat),a≠b->(w.setCells b c vs).heap[a]? =w.heap[a]?
 |[],_,_,_,_=>rfl
 |v::r,c,w,a,d=>by
  rw[World.setCells,MQ r (c+1) _ a d];exact Below.heap_setCell w ⟨b,c,c7⟩ v a (by simpa using d)
theorem QW(b:Nat):∀(vs:List Value) (a:Nat) (w:World),(w.setCells b a vs).os=w.os/\(w.setCells b a vs).tape=w.tape/\(w.setCells b a vs).output=w.output/\(w.setCells b a vs).heap.size=w.heap.size
 |[],_,_=>⟨rfl,rfl,rfl,rfl⟩
 |v::r,a,w=>by
  obtain⟨f,c,d,e⟩:=QW b r (a+1) (w.setCell ⟨b,a,c7⟩ v);exact⟨f,c,d,e.trans (by simp[World.setCell])⟩
theorem Yq{w:World}{b a:Nat}{f vs:List Value}(h:∀c d,f[c]? =c6 d->w.cell? ⟨b,c,c7⟩=c6 d)(o:a<=f.length)(m:∀c,c<vs.length->(w.cell? ⟨b,a+c,c7⟩).isSome=true):
 ∀c d,(f.take a++vs++f.drop (a+vs.length))[c]? =c6 d->(w.setCells b a vs).cell? ⟨b,c,c7⟩=c6 d:=by
 intro c d e;have j:(f.take a).length=a:=by simp;omega
 by_cases i:c<a
 ·rw[hB,e0 (by omega),ey i] at e;rw[ev b vs a w _ (λ_ _=>.inl i)];exact h c d e
 ·by_cases n:c<a+vs.length
  ·rw[e0 (by simp;omega),d8 (by omega),j] at e;obtain⟨l,rfl⟩:=d5.1 e;have:=World.cell?_setCells_in b vs a w m (c -a) l;rw[show a+(c -a)=c by omega] at this;exact this
  ·have k:(f.take a++vs).length=a+vs.length:=by rw[d9,j]
   rw[d8 (by omega),k,fd,show a+vs.length+(c - (a+vs.length))=c by omega] at e;rw[ev b vs a w _ (λ_ _=>.inr (by show a+vs.length<=c;omega))];exact h c d e
theorem oe{w:World}{b a:Nat}{cells:Array Value}{d:TypeId}{e:Nat×Nat}(c:w.heap[b]? =c6 (.cells cells d e)):w.cell? ⟨b,a,c7⟩=cells[a]? :=by
 unfold World.cell?;rw[c]
 rfl
theorem FM{w:World}{b d:Nat}{cells:Array Value}{c:TypeId}(a:w.heap[b]? =c6 (.cells cells c (0,0))):w.frozen? ⟨b,d,c7⟩=false:=by
 unfold World.frozen?;rw[a];simp
theorem ON{w:World}{b:Nat}{cells:Array Value}{a:TypeId}(c:w.heap[b]? =c6 (.cells cells a (0,0))):w.shape? b=c6 (a,cells.size):=by
 unfold World.shape?;rw[c]
structure nq (E k:Nat) (w w':World) (b C B C':Nat) (us:List Value):Prop where
 os:w'.os=w.os
 tape:w'.tape=w.tape
 output:w'.output=w.output
 size:w.heap.size<=w'.heap.size
 E9:∀x,x<w.heap.size->x≠b->w'.heap[x]? =w.heap[x]?
 place:(B=b/\C'=C)\/w.heap.size<=B
 block:∃cells,w'.heap[B]? =c6 (.cells cells E (0,0))/\cells.size=C'*k
 room:C'<=maxLen
 fits:us.length<=C'*k
 holds:∀j u,us[j]? =c6 u->w'.cell? ⟨B,j,c7⟩=c6 u
theorem nq.set{E k:Nat}{w c:World}{b C B d o:Nat}{a vs:List Value}(h:nq E k w c b C B d a)(m:o<=a.length)(L:o+vs.length<=d*k)(u:(a.take o++vs++a.drop (o+vs.length)).length<=d*k):
 nq E k w (c.setCells B o vs) b C B d (a.take o++vs++a.drop (o+vs.length)):=by
 obtain⟨cells,j,I⟩:=h.block;have D:∀e,e<vs.length->(c.cell? ⟨B,o+e,c7⟩).isSome=true:=λe K=>by
  rw[oe j,f1 (by omega)]
  rfl
 obtain⟨A,n,G,s⟩:=QW B vs o c;obtain⟨y,t,J⟩:=P2 vs o c cells j;refine⟨A.trans h.os,n.trans h.tape,G.trans h.output,by rw[s];exact h.size,λx F l=>?_,h.place,⟨y,t,J.trans I⟩,h.room,u,Yq h.holds m D⟩
 rw[MQ vs o c x (by rcases h.place with⟨p,_⟩ |p;rw[p];exact l;omega)];exact h.E9 x F l
theorem nq.drew{E k:Nat}{w a:World}{b C B c:Nat}{d:List Value}(h:nq E k w a b C B c d):nq E k w a.drew b C B c d:=⟨h.os,h.tape,h.output,h.size,h.E9,h.place,h.block,h.room,h.fits,h.holds⟩
theorem Xa{f d:Nat}{w:World}{b a m:Nat}{cells:Array Value}(e:w.heap[b]? =c6 (.cells cells f (0,0)))(i:cells.size=a*d)(h:a<=maxLen)(j:m<=a*d):nq f d w w b a b a (cells.toList.take m):=by
 refine⟨rfl,rfl,rfl,d6 _,λ_ _ _=>rfl,.inl ⟨rfl,rfl⟩,⟨cells,e,i⟩,h,by rw[d2];omega,λk l c=>?_⟩
 rw[oe e, <-e6];rw[ej] at c
 split at c
 ·exact c
 ·cases c
theorem ak9{E d:Nat}{w:World}{b C a m:Nat}{row:Array Value}(h:row.size=a*d)(f:a<=maxLen)(j:m<=a*d):nq E d w (w.alloc (.cells row E)) b C w.heap.size a (row.toList.take m):=by
 refine⟨rfl,rfl,rfl,by simp,λi e _=>f8 w _ i e,.inr (d6 _),⟨row,heap_alloc_new w _,h⟩,f,by rw[d2];omega,λk l c=>?_⟩
 rw[oe (heap_alloc_new w _), <-e6];rw[ej] at c
 split at c
 ·exact c
 ·cases c
theorem ac9{f:Type}{b vs:List f}{a c:Nat}(h:a+c<=b.length)(d:vs.length=c):
 (b.take (a+c)++b.drop a++b.drop (a+c+(b.drop a).length)).take a++vs++(b.take (a+c)++b.drop a++b.drop (a+c+(b.drop a).length)).drop (a+vs.length)=b.take a++vs++b.drop a:=by
 have h0:b.drop (a+c+(b.drop a).length)=[]:=List.drop_eq_nil_of_le (by rw[d7];omega);have e:(b.take (a+c)).length=a+c:=by rw[d2];omega
 rw[h0,hq,d,List.take_append_of_le_length (by omega),List.take_take,gc (by omega),List.drop_left' e]
theorem anz{h:Type}{b c vs:List h}{a d:Nat}(k:a<=c.length)(f:vs.length=d)(j:b.length=c.length+d)(i:b.take a=c.take a):
 (b.take a++vs++b.drop (a+vs.length)).take (a+d)++c.drop a++(b.take a++vs++b.drop (a+vs.length)).drop (a+d+(c.drop a).length)=c.take a++vs++c.drop a:=by
 have e:(b.take a++vs).length=a+d:=by rw[d9,d2,f];omega
 have h0:(b.take a++vs++b.drop (a+vs.length)).drop (a+d+(c.drop a).length)=[]:=List.drop_eq_nil_of_le (by rw[d9,e,d7,d7];omega);rw[h0,hq,List.take_left' e,i]
def No(P:Program)(f:FuncId)(j a q:Nat):Prop:=
 ∀(w:World) (b c d i k e:Nat) (cells h:Array Value),b≠k->w.heap[b]? =c6 (.cells cells j (0,0))->cells.size=d*a->w.heap[k]? =c6 (.cells h j (0,0))->h.size=e*a->1<=e->i<c->c<=d->d<=maxLen->e<=maxLen->(c+1)*q<=140737488355328->(c+1)*a<=140737488355328->
  (∀l∈cells.toList.take (c*a),l.oneCell'=true)->(∀l∈h.toList.take a,l.oneCell'=true)->
  Calls P f #[.slice (c6 ⟨b,0,c7⟩) c d,.int .i64 i,.slice (c6 ⟨k,0,c7⟩) 1 e] w λp o=>∃n m,p= .returned (.slice (c6 ⟨n,0,c7⟩) (c+1) m)/\
   nq j a w o b d n m ((cells.toList.take (c*a)).take (i*a)++h.toList.take a++(cells.toList.take (c*a)).drop (i*a))
end
section
variable {g : Gh} {H : List aO} {w : World}
theorem gI.take{sz:Nat}{es:List PV}{l:List Value}(h:gI g H w sz es l)(o:∀e,e∈es->e.cells.length=sz)(m:Nat)(j:m<=es.length):gI g H w sz (es.take m) (l.take (m*sz)):=by
 refine⟨?_,λi k c d=>?_⟩
 ·rw[d2,d2,h.1,gc j,gc (g4 _ j)]
 ·obtain⟨e,he,A⟩:=gw d;have a:=(d5.1 he).1;rw[d2] at a;have a:i<m/\i<es.length:=by omega
  have u:cellOf es i k=c6 c:=by
   unfold cellOf at d⊢
   rwa [ey a.1] at d
  rw[ey a.1] at he;have y:=o e (ec he);obtain⟨t,x,n,s⟩:=h.2 i k c u;refine⟨t,?_,n,s⟩
  have:(i+1)*sz<=m*sz:=g4 _ a.1;rw[hD,Nat.one_mul] at this;rw[ey (by omega)];exact x
theorem gI.drop{sz:Nat}{es:List PV}{e:List Value}(h:gI g H w sz es e)(m:Nat):gI g H w sz (es.drop m) (e.drop (m*sz)):=by
 refine⟨?_,λi a c d=>?_⟩
 ·rw[d7,d7,h.1,Nat.sub_mul]
 ·have n:cellOf es (m+i) a=c6 c:=by
   unfold cellOf at d⊢
   rwa [fd] at d
  obtain⟨l,o,j,k⟩:=h.2 _ a c n;refine⟨l,?_,j,k⟩
  rw[fd, <-Nat.add_assoc, <-hD];exact o
theorem gI.aX{sz:Nat}{es l:List PV}{t vs:List Value}(h:gI g H w sz es t)(s:gI g H w sz l vs)(x:∀e,e∈es->e.cells.length=sz):gI g H w sz (es++l) (t++vs):=by
 refine⟨by rw[d9,d9,h.1,s.1,hD],λi a c d=>?_⟩
 by_cases u:i<es.length
 ·have o:cellOf es i a=c6 c:=by
   unfold cellOf at d⊢
   rwa [e0 u] at d
  obtain⟨n,j,k,m⟩:=h.2 i a c o;exact⟨n,by rw[e0 (d5.1 j).1];exact j,k,m⟩
 ·have o:cellOf l (i -es.length) a=c6 c:=by
   unfold cellOf at d⊢
   rwa [d8 (by omega)] at d
  obtain⟨n,j,k,m⟩:=s.2 _ a c o;refine⟨n,?_,k,m⟩
  have e:i*sz=es.length*sz+(i -es.length)*sz:=by rw[<-hD];congr 1;omega
  rw[d8 (by rw[h.1,e];omega),h.1,e,show es.length*sz+(i -es.length)*sz+a -es.length*sz=(i -es.length)*sz+a by omega];exact j
theorem qT.row{r b C:Nat}{a:aO}(x:bF g H w)(t:H[r]? =c6 a)(y:g.β r=c6 (b,C)):
 ∃cells,w.heap[b]? =c6 (.cells cells a.ty (0,0))/\cells.size=C*a.sz/\C<=maxLen/\a.es.length<=C/\gI g H w a.sz a.es (cells.toList.take (a.es.length*a.sz))/\∀d∈cells.toList.take (a.es.length*a.sz),d.oneCell'=true:=by
 obtain⟨a1,k,m⟩:=x.obj r a t;rw[y] at m;obtain⟨_,cells,E,j,A,h,B⟩:=m;have o:(cells.toList.take (a.es.length*a.sz)).length=a.es.length*a.sz:=by
  rw[d2,d4,j,gc (g4 _ h)]
 have l:gI g H w a.sz a.es (cells.toList.take (a.es.length*a.sz)):=by
  refine⟨o,λi F c n=>?_⟩
  obtain⟨d,D,G,u⟩:=B i F c n;refine⟨d,?_,G,u⟩
  obtain⟨e,he,I⟩:=gw n;have J:=k i e he;have s:=(d5.1 he).1;have:(i+1)*a.sz<=a.es.length*a.sz:=g4 _ s;rw[hD,Nat.one_mul] at this;rw[ey (by omega),e6];exact D
 exact⟨cells,E,j,A,h,l,l.one a1 k⟩
end
theorem Yz{P:Program}(w:World){b:Oper}{a:Act}{e:Act->World->Prop}{o:Exit->Act->World->Prop}(k j:Operand)(i f:TypeId)
 (p:b.op= .call {callee:=.builtin .copy,args:=#[k,j],argTypes:=#[i,f]}) (v h:Value) (m:a.eval k=v) (q:a.eval j=h) {c:Value} {d:World}
 (n:(eE #[i,f] b.type #[v,h]).run P w= .ok c d) (l:e (a.put b.dst c) d):b.wp P a w e o:=by
 unfold Oper.wp execOp;simp only[p,resolve,invoke,builtin,dT,ez,dd,List.map_toArray,List.map_cons,List.map_nil,m,q,n];exact l
theorem Kj{P:Program}(w:World){ops:Array Oper}{l:List Oper}{a:Oper}{b:Act}{k:Exit->Act->World->Prop}(q:a.guard=c7)(h f:Operand)(e c:TypeId)
 (p:a.op= .call {callee:=.builtin .copy,args:=#[h,f],argTypes:=#[e,c]}) (v d:Value) (n:b.eval h=v) (s:b.eval f=d) {i:Value} {j:World}
 (o:(eE #[e,c] a.type #[v,d]).run P w= .ok i j) (m:wpList P ops k l (b.put a.dst i) j):wpList P ops k (a::l) b w:=
 wpList_plain q λ_ r=>Yz w h f e c p v d n s o (r _ _ m)
theorem Mz{P:Program}{ops:Array Oper}{a:Oper}{b:Act}{w:World}{h:Act->World->Prop}{o:Exit->Act->World->Prop}{t:Prop}
 (q:a.guard=c7) (e f:Operand) (k i:TypeId) (s:a.op=Op.call {callee:=Callee.builtin Builtin.copy,args:=#[e,f],argTypes:=#[k,i]})
 (v j:Value) (m:b.eval e=v) (p:b.eval f=j) {d:Value} {c:World} (n:(eE #[k,i] a.type #[v,j]).run P w= .ok d c) (r:h (b.put a.dst d) c):
 if Region.wanted a (yielded ops b.tmps)=true then Oper.wp P a b w h o else t:=by
 have l:Region.wanted a (yielded ops b.tmps)=true:=by simp[Region.wanted,q]
 rw[if_pos l];unfold Oper.wp;simp[execOp,s,resolve,invoke,builtin,m,p,n,gx];exact r
theorem Xg{g:Gh}{f:List aO}{w m:World}{q b l j h k e v:Nat}{A d:List PV}{t:List Value}(B:bF g f w)(o:f[q]? =c6 ⟨k,e,A,v⟩)(u:g.β q=c6 (b,l))(J:0<e)
 (c:nq k e w m b l j h t) (R:gI g f w e d t) (C:∀a,a∈d->a.cells.length=e) (x:d.length<=h):
 GStep f.length g f w (g.push q (c6 (j,h))) (f.set q ⟨k,e,d,v+1⟩) m/\bF (g.push q (c6 (j,h))) (f.set q ⟨k,e,d,v+1⟩) m/\
  SL (g.push q (c6 (j,h))) ⟨k,e,d,v+1⟩ q 0 d.length (.slice (c6 ⟨j,0,c7⟩) d.length h):=by
 have S:q<f.length:=(d5.1 o).1;obtain⟨cells,n,L⟩:=c.block;have s:=B.set (r:=q) (o':=⟨k,e,d,v+1⟩) (p:=c6 (j,h)) o c.os c.tape c.output c.size
  (λE I M=>c.E9 E I (λa=>M l (by rw[a];exact u))) (Nat.le_succ v) (λa=>absurd a (by show v+1≠v;omega))
  (λT C1 a=>by
   injection a with a
   injection a with e1 e2
   rcases c.place with⟨K,U⟩ |p
   ·exact .inl ⟨l,by rw[<-e1,K];exact u⟩
   ·exact .inr (by omega))
  J (λi a y=>C a (ec y))
  ⟨cells,n,L,c.room,x,λi F O N=>by
   obtain⟨G,D,Q,z⟩:=R.2 i F O N;have:=c.holds _ _ D;rw[oe n] at this;exact⟨G,this,Q,z⟩⟩
 refine⟨s.1,s.2,by simp,?_⟩
 rw[Gh.kg];exact⟨h,_,rfl,x,λ_=>by simp,λ_=>⟨rfl,rfl⟩⟩
theorem Nu{g:Gh}{j:List aO}{w:World}{q v:Nat}{a:aO}{f:Value}(e:VR g j w (.fl q v) f)(k:j[q]? =c6 a)(l:a.aF=v)(h0:0<a.es.length):
 ∃b d,g.β q=c6 (b,d)/\f= .slice (c6 ⟨b,0,c7⟩) a.es.length d:=by
 have m:SL g a q 0 a.es.length f:=by
  cases e with
  |aW e=>cases e
  |fl _ _ x _ c t o p=>
   rw[k] at c;injection c with c
   subst c;exact p l.symm
 obtain⟨o,h⟩:=m;cases i:g.β q with
 |none=>rw[i] at h;omega
 |some s=>
  obtain⟨b,d⟩:=s;rw[i] at h;obtain⟨cap,u,r,_,_,n⟩:=h;obtain⟨rfl,rfl⟩:=n rfl;exact⟨b,cap,rfl,r⟩
theorem aeQ{P:Program}{f:FuncId}{c a R:Nat}(ac:No P f c a R)(J:0<a){g:Gh}{w:World}{w0 w1:Nat}{es:List PV}{e:PV}{i:Nat}(V:i<es.length)
 (j:bF g [⟨c,a,es,w0⟩,⟨c,a,[e],w1⟩] w) (W:(es.length+1)*R<=140737488355328) (U:(es.length+1)*a<=140737488355328) {t A:Value} (af:VR g [⟨c,a,es,w0⟩,⟨c,a,[e],w1⟩] w (.fl 0 w0) t) (X:VR g [⟨c,a,es,w0⟩,⟨c,a,[e],w1⟩] w (.fl 1 w1) A):
 Calls P f #[t,.int .i64 i,A] w λO l=>∃v o,O= .returned v/\bF o [⟨c,a,es.take i++[e]++es.drop i,w0+1⟩,⟨c,a,[e],w1⟩] l/\GStep 2 g [⟨c,a,es,w0⟩,⟨c,a,[e],w1⟩] w o [⟨c,a,es.take i++[e]++es.drop i,w0+1⟩,⟨c,a,[e],w1⟩] l/\
  VR o [⟨c,a,es.take i++[e]++es.drop i,w0+1⟩,⟨c,a,[e],w1⟩] l (.fl 0 (w0+1)) v:=by
 have h0:([⟨c,a,es,w0⟩,⟨c,a,[e],w1⟩]:List aO)[0]? =c6 ⟨c,a,es,w0⟩:=rfl;have r:([⟨c,a,es,w0⟩,⟨c,a,[e],w1⟩]:List aO)[1]? =c6 ⟨c,a,[e],w1⟩:=rfl;obtain⟨b,z,q,rfl⟩:=Nu af h0 rfl (by show 0<es.length;omega);obtain⟨ab,M,L,rfl⟩:=Nu X r rfl (by show 0<[e].length;simp);obtain⟨cells,I,y,G,u,n,C⟩:=qT.row j h0 q;obtain⟨Q,F,S,x,D,s,p⟩:=qT.row j r L;dsimp only at I y G u n C F S x D s p;rw[show[e].length*a=a by simp] at s p;have k:∀h,h∈es->h.cells.length=a:=λh d=>by
  obtain⟨ah,aa,rfl⟩:=List.getElem_of_mem d;exact(j.obj 0 _ h0).width ah _ (d1 aa)
 have K:e.cells.length=a:=(j.obj 1 _ r).width 0 _ rfl;refine(ac w b es.length z i ab M cells Q (λY=>absurd (j.inj 0 1 b z M q (by rw[Y];exact L)) (by decide)) I y F S (by simpa using D) V u G x W U C p).mono ?_
 rintro O l ⟨ai,ae,rfl,B⟩;have E:gI g [⟨c,a,es,w0⟩,⟨c,a,[e],w1⟩] w a (es.take i++[e]++es.drop i) ((cells.toList.take (es.length*a)).take (i*a)++Q.toList.take a++(cells.toList.take (es.length*a)).drop (i*a)):=by
  refine((n.take k i (by omega)).aX s (λh d=>k h (g5 d))).aX (n.drop i) (λh d=>?_)
  rcases hu.1 d with d |d
  ·exact k h (g5 d)
  ·rw[ea.1 d];exact K
 have m:(es.take i++[e]++es.drop i).length=es.length+1:=by simp;omega
 have ad:es.length+1<=ae:=by
  have:=B.fits;rw[E.1,m] at this;exact Nat.le_of_mul_le_mul_right this J
 have ag:∀h,h∈es.take i++[e]++es.drop i->h.cells.length=a:=λh d=>by
  rcases hu.1 d with d |d
  ·rcases hu.1 d with d |d
   ·exact k h (g5 d)
   ·rw[ea.1 d];exact K
  ·exact k h (h9 d)
 obtain⟨T,Z,N⟩:=Xg j h0 q J B E ag (by rw[m];exact ad);refine⟨_,_,rfl,Z,T,.fl 0 (w0+1) ⟨c,a,es.take i++[e]++es.drop i,w0+1⟩ _ rfl (d6 _) rfl λ_=>?_⟩
 rw[m] at N;rw[m];exact N
end Go.Bml
namespace Go.X.T
open Go Go.Aml Go.Bml Go.RowKit Go.Proofs
section
open Go.RowKit
theorem ai7(w:World)(b n C i vb vC:Nat)(cells vcells:Array Value)(hne:b≠vb)(h1:w.heap[b]? =c6 (.cells cells 75 (0,0)))(h2:cells.size=C*9)(h3:w.heap[vb]? =c6 (.cells vcells 75 (0,0)))(h4:vcells.size=vC*9)(hv1:1<=vC)(hi:i<n)(hC:C<=maxLen)
 (hroom:n+1<=C) (c1:∀u∈cells.toList.take (n*9),u.oneCell'=true) (c2:∀u∈vcells.toList.take 9,u.oneCell'=true):
 Calls d0 244 #[.slice (c6 ⟨b,0,c7⟩) n C,.int .i64 i,.slice (c6 ⟨vb,0,c7⟩) 1 vC] w λe w'=>e= .returned (.slice (c6 ⟨b,0,c7⟩) (n+1) C)/\
  w'=(w.drew.setCells b (((i+1)*9)) ((cells.toList.take (n*9)).drop ((i*9)))).setCells b ((i*9)) (vcells.toList.take 9):=by
 have hC63:C<=9223372036854775807:=hC;obtain⟨cs,hcs⟩:∃cs,cs=cells.toList.take (n*9):=⟨_,rfl⟩;obtain⟨vs,hvs⟩:∃vs,vs=vcells.toList.take 9:=⟨_,rfl⟩;have hcl:cs.length=n*9:=by rw[hcs,d2,d4,h2];omega
 have hvl:vs.length=9:=by rw[hvs,d2,d4,h4];omega
 have eZ:∀j v,cs[j]? =c6 v->w.cell? ⟨b,j,c7⟩=c6 v:=λj v hj=>by
  rw[oe h1, <-e6];rw[hcs,ej] at hj
  split at hj
  ·exact hj
  ·cases hj
 have hrv:∀j v,vs[j]? =c6 v->w.cell? ⟨vb,j,c7⟩=c6 v:=λj v hj=>by
  rw[oe h3, <-e6];rw[hvs,ej] at hj
  split at hj
  ·exact hj
  ·cases hj
 have hsp:∀j,j<(n+1)*9->(w.cell? ⟨b,j,c7⟩).isSome=true:=λj hj=>by
  rw[oe h1,f1 (by omega)];rfl
 have hfz:∀j,w.frozen? ⟨b,j,c7⟩=false:=λj=>FM h1
 rw[<-hcs] at c1⊢;rw[<-hvs] at c2⊢;have hz2:¬((i:Int)=(n:Int)):=by omega
 have hov:∀lb cb,(callFunc 297 #[.slice (c6 ⟨vb,0,c7⟩) 1 vC,.slice (c6 ⟨b,(i+1)*9,c7⟩) lb cb]).run d0 w= .ok (.value (.bool false)) w:=λlb cb=>by
  rw[run_callFunc_extern Tryz.func297 (by kernel_rfl) (by kernel_rfl) (by kernel_rfl) (e:=Extern.SlicesOverlaps.overlaps #[53,53] #[4]) (by kernel_rfl),
   Lib.run_overlaps_apart w 53 4 75 f4 9 Tryz.sizeOf75 ⟨vb,0,c7⟩ ⟨b,(i+1)*9,c7⟩ 1 vC lb cb (λh=>hne h.symm) 75 75 _ _ (ON h3) (ON h1) (by omega) (FM h3) (FM h3)]
  rfl
 have hdl:(cs.drop ((i*9))).length=(n -i)*9:=by rw[d7,hcl];omega
 have mixed:d0.follows .mixedOrders=true:=by kernel_rfl
 have hw1:c3 c4 ((i:Int)+1)=(i:Int)+1:=by rw[eH];omega
 have hw2:c3 c4 ((n:Int)+1)=(n:Int)+1:=by rw[eH];omega
 have hb1:(0:Int)<=(i:Int)+1:=by omega
 have hin:i<=n:=by omega
 have htn:((i:Int)+1).toNat=i+1:=by omega
 have htn2:((n:Int)+1).toNat=n+1:=by omega
 have hb2:¬(C=i+1):=by omega
 have hb3:(i:Int)<=(n:Int)+1:=by omega
 have hb4:¬(C=i):=by omega
 have hb5:¬((C:Int)<(n:Int)+1):=by omega
 have hcp1:∀ty dc sc,(eE #[53,53] ty #[.slice (c6 ⟨b,(i+1)*9,c7⟩) (n -i) dc,.slice (c6 ⟨b,i*9,c7⟩) (n+1 -i) sc]).run d0 w.drew= .ok (goInt (n -i:Nat)) (w.drew.setCells b (((i+1)*9)) (cs.drop ((i*9)))):=λty dc sc=>
  Ee w.drew _ _ ty 75 9 b (((i+1)*9)) (n -i) dc ⟨b,i*9,c7⟩ (n+1 -i) sc (n -i) (cs.drop ((i*9))) f4 rfl (by simp only[Nat.min_def];split <;> omega) hdl
   (λj v hj=>by rw[hz];exact eZ ((i*9)+j) v (by rwa [fd] at hj))
   (λj hj=>hsp _ (by rw[hdl] at hj;omega)) (λj hj=>hfz _) (λv hv=>c1 v (h9 hv))
 obtain⟨W1,hW1⟩:∃W1,W1=w.drew.setCells b (((i+1)*9)) (cs.drop ((i*9))):=⟨_,rfl⟩;have hsp1:∀k,k<(n+1)*9->(W1.cell? ⟨b,k,c7⟩).isSome=true:=λk hk=>by
  rw[hW1];exact MW b (cs.drop ((i*9))) (((i+1)*9)) w.drew (λj hj=>hsp _ (by rw[hdl] at hj;omega)) k (hsp k hk)
 have hcp2:∀(W:World),(∀x,W.cell? x=W1.cell? x)->(∀x,W.frozen? x=W1.frozen? x)->∀ty dc,(eE #[53,53] ty #[.slice (c6 ⟨b,i*9,c7⟩) (n+1 -i) dc,.slice (c6 ⟨vb,0,c7⟩) 1 vC]).run d0 W= .ok (goInt (1:Nat)) (W.setCells b ((i*9)) vs):=λW hWc hWf ty dc=>
  Ee W _ _ ty 75 9 b ((i*9)) (n+1 -i) dc ⟨vb,0,c7⟩ 1 vC 1 vs f4 rfl (by simp only[Nat.min_def];split <;> omega) (by rw[hvl])
   (λj v hj=>by
    rw[hz,hWc,hW1,ev b _ _ _ _ (λh _=>absurd h.symm hne),g8];exact hrv j v hj)
   (λj hj=>by rw[hWc];exact hsp1 _ (by omega)) (λj hj=>by rw[hWf,hW1,World.frozen?_setCells];exact hfz _) c2
 rw[<-hW1] at hcp1;clear hcs hvs
 go_enter Tryz.func244,Tryz.ntmps244
 go_wp2_with (simp only[hov])
 go_region_law (refine Mz rfl _ _ 53 53 rfl _ _ (by simp[Act.eval,Act.put]) (by simp[Act.eval,Act.put]) (hcp1 _ _ _) ?_)
 go_wp2_with (at_builtin;refine Kj _ rfl _ _ 53 53 rfl _ _ rfl rfl (hcp2 _ (λ_=>rfl) (λ_=>rfl) _ _) ?_)
 go_ret
 first |exact⟨rfl,rfl⟩ |exact⟨rfl,by rw[hW1]⟩
theorem ac5:(d0.info? 75).map (λi=>(i.zero,i.size,i.bytes))=c6 (c6 (ef #[.int .i64 0,.int .i64 0,.int .i64 0,.int .i64 0,.int .i64 0,.bool false,.bool false,.int .i64 0,.int .i64 0]),9,64):=by kernel_rfl
theorem ah2(w:World)(b n C i vb vC:Nat)(cells vcells:Array Value)(h1:w.heap[b]? =c6 (.cells cells 75 (0,0)))(h2:cells.size=C*9)(h3:w.heap[vb]? =c6 (.cells vcells 75 (0,0)))(h4:vcells.size=vC*9)(hv1:1<=vC)(hi:i<n)(hC:C<=maxLen)
 (hnc:n<=C) (hroom:C<n+1) (hbig:(n+1)*64<=140737488355328) (c1:∀u∈cells.toList.take (n*9),u.oneCell'=true) (c2:∀u∈vcells.toList.take 9,u.oneCell'=true):
 Calls d0 244 #[.slice (c6 ⟨b,0,c7⟩) n C,.int .i64 i,.slice (c6 ⟨vb,0,c7⟩) 1 vC] w λe w'=>e= .returned (.slice (c6 ⟨w.heap.size,0,c7⟩) (n+1) (grownCap w (n+1) C 75))/\
  w'=(((w.alloc (.cells (((cells.toList.take (n*9)).take (i*9)).toArray++d3 ((ef #[.int .i64 0,.int .i64 0,.int .i64 0,.int .i64 0,.int .i64 0,.bool false,.bool false,.int .i64 0,.int .i64 0]):Value).cells (n+1 -i)++d3 ((ef #[.int .i64 0,.int .i64 0,.int .i64 0,.int .i64 0,.int .i64 0,.bool false,.bool false,.int .i64 0,.int .i64 0]):Value).cells (grownCap w (n+1) C 75 - (n+1))) 75)).drew.setCells w.heap.size (i*9) (vcells.toList.take 9)).drew).setCells w.heap.size ((i+1)*9) ((cells.toList.take (n*9)).drop (i*9)):=by
 have hC63:C<=9223372036854775807:=hC;obtain⟨cs,hcs⟩:∃cs,cs=cells.toList.take (n*9):=⟨_,rfl⟩;obtain⟨vs,hvs⟩:∃vs,vs=vcells.toList.take 9:=⟨_,rfl⟩;have hcl:cs.length=n*9:=by rw[hcs,d2,d4,h2];omega
 have hvl:vs.length=9:=by rw[hvs,d2,d4,h4];omega
 have eZ:∀j v,cs[j]? =c6 v->w.cell? ⟨b,j,c7⟩=c6 v:=λj v hj=>by
  rw[oe h1, <-e6];rw[hcs,ej] at hj
  split at hj
  ·exact hj
  ·cases hj
 have hrv:∀j v,vs[j]? =c6 v->w.cell? ⟨vb,j,c7⟩=c6 v:=λj v hj=>by
  rw[oe h3, <-e6];rw[hvs,ej] at hj
  split at hj
  ·exact hj
  ·cases hj
 rw[<-hcs] at c1⊢;rw[<-hvs] at c2⊢;obtain⟨i0,hi0,hz0,hzs,hzb⟩:=info_parts ac5;have hz2:¬((i:Int)=(n:Int)):=by omega
 have hz3:(C:Int)<(n:Int)+1:=by omega
 have hbw:b<w.heap.size:=nN h1;have hvw:vb<w.heap.size:=nN h3;have hkk:(n:Int)+1 - (i:Int)=((n+1 -i:Nat):Int):=by omega
 have hik:i+(n+1 -i)=n+1:=by omega
 have hold:(Builtin.firstCells i0.size i (.slice (c6 ⟨b,0,c7⟩) i C)).run d0 w.drew= .ok (cs.take (i*9)).toArray w.drew:=by
  rw[hzs];exact run_firstCells_some w.drew 9 i ⟨b,0,c7⟩ i C (cs.take (i*9)) (by rw[d2];omega) (λj v hj=>by
   rw[hz,g8];rw[ej] at hj
   split at hj
   ·exact eZ j v hj
   ·cases hj)
 have hrz:∀ty,(Builtin.append_ #[53,3] ty #[.slice (c6 ⟨b,0,c7⟩) i C,.int .i64 ((n:Int)+1 - (i:Int))]).run d0 w=
  .ok (.slice (c6 ⟨w.heap.size,0,c7⟩) (n+1) (grownCap w (n+1) C 75)) (w.drew.alloc (.cells ((cs.take (i*9)).toArray++d3 ((ef #[.int .i64 0,.int .i64 0,.int .i64 0,.int .i64 0,.int .i64 0,.bool false,.bool false,.int .i64 0,.int .i64 0]):Value).cells (n+1 -i)++d3 ((ef #[.int .i64 0,.int .i64 0,.int .i64 0,.int .i64 0,.int .i64 0,.bool false,.bool false,.int .i64 0,.int .i64 0]):Value).cells (grownCap w (n+1) C 75 - (n+1))) 75)):=λty=>by
  have h:=Lib.run_append_grow_zeros w 53 3 ty 75 i0 _ .i64 .i64 f4 Tryz.underlying3 hi0 hz0 (c6 ⟨b,0,c7⟩) i C (cs.take (i*9)) hold (n+1 -i) (by omega) (by omega) (by omega) (by omega) (by rw[hzb];omega) (by rw[hzb,hik];exact growslice_fits hroom hbig);rw[hik] at h;rw[hkk];exact h
 obtain⟨G,hG⟩:∃G,G=grownCap w (n+1) C 75:=⟨_,rfl⟩;obtain⟨ROW,hROW⟩:∃ROW:Array Value,ROW=(cs.take (i*9)).toArray++d3 ((ef #[.int .i64 0,.int .i64 0,.int .i64 0,.int .i64 0,.int .i64 0,.bool false,.bool false,.int .i64 0,.int .i64 0]):Value).cells (n+1 -i)++d3 ((ef #[.int .i64 0,.int .i64 0,.int .i64 0,.int .i64 0,.int .i64 0,.bool false,.bool false,.int .i64 0,.int .i64 0]):Value).cells (G - (n+1)):=⟨_,rfl⟩;rw[<-hG] at hrz⊢;rw[<-hROW] at hrz⊢;have hzc:((ef #[.int .i64 0,.int .i64 0,.int .i64 0,.int .i64 0,.int .i64 0,.bool false,.bool false,.int .i64 0,.int .i64 0]):Value).cells.size=9:=by decide
 have hRl:(n+1)*9<=ROW.size:=by
  rw[hROW];simp only[gt,size_zeroCells,hzc,gv,d2,hcl];omega
 obtain⟨W1,hW1⟩:∃W1,W1=w.drew.alloc (.cells ROW 75):=⟨_,rfl⟩;rw[<-hW1] at hrz;have hN:∀j,j<(n+1)*9->(W1.cell? ⟨w.heap.size,j,c7⟩).isSome=true:=λj hj=>by
  rw[hW1,World.cell?_alloc_at (w:=w.drew) ROW _ w.heap.size j rfl,f1 (by omega)];rfl
 have hNf:∀j,W1.frozen? ⟨w.heap.size,j,c7⟩=false:=λj=>by rw[hW1];exact World.frozen?_alloc_at (w:=w.drew) ROW _ w.heap.size j rfl
 have hOb:∀j v,w.cell? ⟨b,j,c7⟩=c6 v->W1.cell? ⟨b,j,c7⟩=c6 v:=λj v h=>by rw[hW1,World.cell?_alloc_past (w:=w.drew) _ b j hbw];exact h
 have hOv:∀j v,w.cell? ⟨vb,j,c7⟩=c6 v->W1.cell? ⟨vb,j,c7⟩=c6 v:=λj v h=>by rw[hW1,World.cell?_alloc_past (w:=w.drew) _ vb j hvw];exact h
 have hcpA:∀(W:World),(∀x,W.cell? x=W1.cell? x)->(∀x,W.frozen? x=W1.frozen? x)->∀ty dc,(eE #[53,53] ty #[.slice (c6 ⟨w.heap.size,i*9,c7⟩) (n+1 -i) dc,.slice (c6 ⟨vb,0,c7⟩) 1 vC]).run d0 W= .ok (goInt (1:Nat)) (W.setCells w.heap.size (i*9) vs):=λW hWc hWf ty dc=>
  Ee W _ _ ty 75 9 w.heap.size (i*9) (n+1 -i) dc ⟨vb,0,c7⟩ 1 vC 1 vs f4 rfl (by simp only[Nat.min_def];split <;> omega) (by rw[hvl])
   (λj v hj=>by rw[hz,hWc,g8];exact hOv _ v (hrv j v hj))
   (λj hj=>by rw[hWc];exact hN _ (by omega)) (λj hj=>by rw[hWf];exact hNf _) c2
 have hGn:n+1<=G:=by rw[hG];exact grownCap_ge w _ _ _
 have hG63:G<=9223372036854775807:=by
  have:=grownCap_le_maxLen w (n+1) C 75 (by unfold maxLen;omega);rw[<-hG] at this;unfold maxLen at this;omega
 have hGi:¬(G=i):=by omega
 have hGim:¬(G=i+1):=by omega
 have hci:¬(C=i):=by omega
 have hbN:b≠w.heap.size:=by omega
 have hdl:(cs.drop (i*9)).length=(n -i)*9:=by rw[d7,hcl];omega
 have hcpB:∀(W:World),(∀x,W.cell? x=(W1.setCells w.heap.size (i*9) vs).cell? x)->(∀x,W.frozen? x=(W1.setCells w.heap.size (i*9) vs).frozen? x)->∀ty dc sc,(eE #[53,53] ty #[.slice (c6 ⟨w.heap.size,(i+1)*9,c7⟩) (n -i) dc,.slice (c6 ⟨b,i*9,c7⟩) (n -i) sc]).run d0 W= .ok (goInt (n -i:Nat)) (W.setCells w.heap.size ((i+1)*9) (cs.drop (i*9))):=λW hWc hWf ty dc sc=>
  Ee W _ _ ty 75 9 w.heap.size ((i+1)*9) (n -i) dc ⟨b,i*9,c7⟩ (n -i) sc (n -i) (cs.drop (i*9)) f4 rfl (by simp only[Nat.min_def];split <;> omega) hdl
   (λj v hj=>by
    rw[hz,hWc,ev _ _ _ _ _ (λh _=>absurd h hbN)];exact hOb _ v (eZ ((i*9)+j) v (by rwa [fd] at hj)))
   (λj hj=>by rw[hWc];exact MW w.heap.size vs (i*9) W1 (λt ht=>hN _ (by omega)) _ (hN _ (by rw[hdl] at hj;omega)))
   (λj hj=>by rw[hWf,World.frozen?_setCells];exact hNf _) (λv hv=>c1 v (h9 hv))
 subst hW1;have hE1:∀x,((w.alloc (.cells ROW 75)).drew).cell? x=(w.drew.alloc (.cells ROW 75)).cell? x:=λx=>rfl
 have hE2:∀x,((w.alloc (.cells ROW 75)).drew).frozen? x=(w.drew.alloc (.cells ROW 75)).frozen? x:=λx=>rfl
 have hF1:∀x,(((w.alloc (.cells ROW 75)).drew.setCells w.heap.size (i*9) vs).drew).cell? x=((w.drew.alloc (.cells ROW 75)).setCells w.heap.size (i*9) vs).cell? x:=λx=>rfl
 have hF2:∀x,(((w.alloc (.cells ROW 75)).drew.setCells w.heap.size (i*9) vs).drew).frozen? x=((w.drew.alloc (.cells ROW 75)).setCells w.heap.size (i*9) vs).frozen? x:=λx=>rfl
 have mixed:d0.follows .mixedOrders=true:=by kernel_rfl
 have hw1:c3 c4 ((i:Int)+1)=(i:Int)+1:=by rw[eH];omega
 have hw2:c3 c4 ((n:Int)+1)=(n:Int)+1:=by rw[eH];omega
 have hw3:c3 c4 ((n:Int)+1 - (i:Int))=(n:Int)+1 - (i:Int):=by rw[eH];omega
 have hb1:(0:Int)<=(i:Int)+1:=by omega
 have hin:i<=n:=by omega
 have htn:((i:Int)+1).toNat=i+1:=by omega
 have hb3:(i:Int)<=(n:Int):=by omega
 clear hkk hik hold hROW hG hRl hcs hvs
 go_enter Tryz.func244,Tryz.ntmps244
 go_wp2_with (first
  |(at_builtin;refine Lib.wpList_append_run _ rfl _ _ _ _ rfl _ _ rfl rfl _ _ (hrz _) ?_)
  |(at_builtin;refine Kj _ rfl _ _ 53 53 rfl _ _ rfl rfl (hcpA _ hE1 hE2 _ _) ?_)
  |(at_builtin;refine Kj _ rfl _ _ 53 53 rfl _ _ rfl rfl (hcpB _ (λ_=>rfl) (λ_=>rfl) _ _ _) ?_))
 go_region_law (refine Mz rfl _ _ 53 53 rfl (.slice (c6 ⟨w.heap.size,(i+1)*9,c7⟩) (n -i) (G - (i+1))) (.slice (c6 ⟨b,i*9,c7⟩) (n -i) (C -i)) (by simp[Act.eval,Act.put]) (by simp[Act.eval,Act.put]) (hcpB _ hF1 hF2 3 (G - (i+1)) (C -i)) ?_)
 go_wp2
 go_ret
 exact⟨rfl,rfl⟩
theorem aot:No d0 244 75 9 64:=by
 intro w b a C i B z cells f K n g u k s q I p Q H N x r;have O:(cells.toList.take (a*9)).length=a*9:=by rw[d2,d4,g];omega
 have A:(f.toList.take 9).length=9:=by rw[d2,d4,k];omega
 by_cases M:a+1<=C
 ·refine(ai7 w b a C i B z cells f K n g u k s q p M x r).mono ?_
  rintro L F ⟨rfl,rfl⟩;refine⟨b,C,rfl,?_⟩
  have h:=(Xa (m:=a*9) n g p (by omega)).drew;have j:=h.set (o:=i*9+9) (vs:=(cells.toList.take (a*9)).drop (i*9)) (by omega) (by rw[d7];omega) (by simp only[d9,d2,d7,d4];omega);have c:=j.set (o:=i*9) (vs:=f.toList.take 9) (by simp only[d9,d2,d7,d4];omega) (by omega) (by simp only[d9,d2,d7,d4];omega);rw[ac9 (by omega) A] at c;have e:((i+1)*9)=i*9+9:=by omega
  have l:(i*9)=i*9:=by omega
  first
   |(rw[e,l];exact c)
   |(rw[e];exact c)
   |simpa only[Nat.mul_one] using c
 ·refine(ah2 w b a C i B z cells f n g u k s q p I (by omega) H x r).mono ?_
  rintro L F ⟨rfl,rfl⟩;refine⟨_,_,rfl,?_⟩
  have J:=grownCap_ge w (a+1) C 75;have v:=grownCap_le_maxLen w (a+1) C 75 (by unfold maxLen;omega);generalize grownCap w (a+1) C 75=d at J v⊢;have G:((ef #[.int .i64 0,.int .i64 0,.int .i64 0,.int .i64 0,.int .i64 0,.bool false,.bool false,.int .i64 0,.int .i64 0]):Value).cells.size=9:=by decide
  have y:((((cells.toList.take (a*9)).take (i*9)).toArray++d3 ((ef #[.int .i64 0,.int .i64 0,.int .i64 0,.int .i64 0,.int .i64 0,.bool false,.bool false,.int .i64 0,.int .i64 0]):Value).cells (a+1 -i)++d3 ((ef #[.int .i64 0,.int .i64 0,.int .i64 0,.int .i64 0,.int .i64 0,.bool false,.bool false,.int .i64 0,.int .i64 0]):Value).cells (d - (a+1)))).size=d*9:=by
   simp only[gt,size_zeroCells,G,gv,d2,d4];omega
  have h:=(ak9 (w:=w) (b:=b) (C:=C) (m:=(a+1)*9) (E:=75) y v (by omega)).drew;have D:(((((cells.toList.take (a*9)).take (i*9)).toArray++d3 ((ef #[.int .i64 0,.int .i64 0,.int .i64 0,.int .i64 0,.int .i64 0,.bool false,.bool false,.int .i64 0,.int .i64 0]):Value).cells (a+1 -i)++d3 ((ef #[.int .i64 0,.int .i64 0,.int .i64 0,.int .i64 0,.int .i64 0,.bool false,.bool false,.int .i64 0,.int .i64 0]):Value).cells (d - (a+1)))).toList.take ((a+1)*9)).length=(a+1)*9:=by
   rw[d2,d4,y];omega
  have t:(((((cells.toList.take (a*9)).take (i*9)).toArray++d3 ((ef #[.int .i64 0,.int .i64 0,.int .i64 0,.int .i64 0,.int .i64 0,.bool false,.bool false,.int .i64 0,.int .i64 0]):Value).cells (a+1 -i)++d3 ((ef #[.int .i64 0,.int .i64 0,.int .i64 0,.int .i64 0,.int .i64 0,.bool false,.bool false,.int .i64 0,.int .i64 0]):Value).cells (d - (a+1)))).toList.take ((a+1)*9)).take (i*9)=(cells.toList.take (a*9)).take (i*9):=by
   rw[List.take_take,gc (by omega)];simp only[Array.toList_append,hB];exact List.take_left' (by rw[d2];omega)
  generalize (((((cells.toList.take (a*9)).take (i*9)).toArray++d3 ((ef #[.int .i64 0,.int .i64 0,.int .i64 0,.int .i64 0,.int .i64 0,.bool false,.bool false,.int .i64 0,.int .i64 0]):Value).cells (a+1 -i)++d3 ((ef #[.int .i64 0,.int .i64 0,.int .i64 0,.int .i64 0,.int .i64 0,.bool false,.bool false,.int .i64 0,.int .i64 0]):Value).cells (d - (a+1)))).toList.take ((a+1)*9))=P at h D t;have j:=(h.set (o:=(i*9)) (vs:=f.toList.take 9) (by omega) (by omega) (by simp only[d9,d2,d7];omega)).drew;have c:=j.set (o:=(i*9)+9) (vs:=(cells.toList.take (a*9)).drop (i*9)) (by simp only[d9,d2,d7,d4];omega) (by rw[d7];omega) (by simp only[d9,d2,d7,d4];omega);rw[anz (by omega) A (by omega) t] at c;have e:((i+1)*9)=(i*9)+9:=by omega
  have l:i*9=(i*9):=by omega
  first
   |(rw[e,l];exact c)
   |(rw[e];exact c)
   |simpa only[Nat.mul_one] using c
end
end Go.X.T
namespace Go.X.T
open Go Go.Aml Go.Bml Go.X Go.RowKit Go.Proofs
def FI(e:Nat){c:Type}(a b:List c)(d:Int):Option (List c):=
 (eG a d (a.length:Int)).bind λ_=>bif c5 ((b.length:Int)=0) then c6 a else bif c5 (d=(a.length:Int)) then(bj e a b).bind λr=>c6 r else c7
def AU(b:Lp):aq BT:=⟨244,3,0,(wW b).par,(wW b).az,λa=>FI 64 a.1 a.2.1 a.2.2⟩
theorem Yp(a:Lp)(b:bi BT.D (AU a).par.bX):gl a BT d0 [] (AU a) [.tmp 6] ((Tryz.f244.body).getD .skip) [] b=(AU a).F b:=by kernel_rfl
theorem OA(a:Lp):FT (AU a):=FA (hs:=[]) mixed dM f0 Tryz.func244 rfl rfl rfl rfl (by kernel_rfl) rfl rfl (Yp a)
theorem aix{d:Type}{e:Nat}{l:List d}{i:Int}{xs y:List d}(a:B2 e l i xs=c6 y):∃(b:d) (c:Nat),xs=[b]/\i=(c:Int)/\c<=l.length/\(l.length+1)*e<=140737488355328/\y=l.take c++[b]++l.drop c:=by
 unfold B2 at a
 split at a
 ·rename_i j;obtain⟨m,k,h⟩:=j;obtain⟨r,g,a⟩:=Option.bind_eq_some_iff.1 a;injection a with a
  obtain⟨f,_⟩:=AN g
  match xs,h with
  |[b],_=>exact⟨b,i.toNat,rfl,by omega,by omega,by simpa using f,a.symm⟩
 ·cases a
theorem afY{c e:Type}(f:c->e)(a:List c)(d:c)(b:Nat):(a.map f).take b++[f d]++(a.map f).drop b=(a.take b++[d]++a.drop b).map f:=by simp[List.map_take,List.map_drop]
theorem adX{c:Type}(a:List c)(b:c):a.take a.length++[b]++a.drop a.length=List.append a [b]:=by simp
theorem aiO{d:Type}{c:Nat}{a:List d}{b:d}(e:(a.length+1)*c<=140737488355328):FI c a [b] (a.length:Int)=c6 (a++[b]):=by
 unfold FI;have g:eG a (a.length:Int) (a.length:Int)=c6 []:=by
  unfold eG;simp
 have f:bj c a [b]=c6 (a++[b]):=by
  unfold bj;simp[e]
 rw[g];simp[f]
theorem ail(d:Lp):FT (wW d):=by
 refine⟨(OA d).Q6,λf y r g w vs t k c=>?_⟩
 obtain⟨e,b,q,o,n,m,p⟩:=aix (l:=f.1) (xs:=f.2.1) (i:=f.2.2) (y:=y) r;obtain⟨a,S,R⟩:=f;dsimp only at q o n m p r;subst q o p
 by_cases B:b<List.length a
 ·have H:cz BT (wW d).par (a,[e],(b:Int))=⟨[(0,.fl 0 0),(1,.int .i64 (b:Int)),(2,.fl 1 0)],[⟨0,0,.rows 75 a⟩,⟨0,0,.rows 75 [e]⟩]⟩:=rfl
  erw [H] at k c⊢
  match vs,t with
  |[O,F,Q],_=>
  have I:F= .int .i64 (b:Int):=VR.fQ (g:=g) (w:=w) (c 1);subst I;have h:(hP (BT.ty 75).enc a).length=List.length a:=f2 _;have M:=aeQ aot (by decide) (g:=g) (w:=w) (w0:=0) (w1:=0) (es:=hP (BT.ty 75).enc a) (e:=(BT.ty 75).enc e) (i:=b) (Nat.lt_of_lt_of_eq B h.symm) k (Nat.le_trans (Nat.le_of_eq (congrArg (λz=>(z+1)*64) h)) m) (Nat.le_trans (Nat.le_of_eq (congrArg (λz=>(z+1)*_) h)) (by omega)) (c 0) (c 2);refine M.mono ?_
  rintro T A ⟨v,C,rfl,x,s,u⟩;have J:(hP (BT.ty 75).enc a).take b++[(BT.ty 75).enc e]++(hP (BT.ty 75).enc a).drop b=hP (BT.ty 75).enc (List.take b a++[e]++List.drop b a):=afY _ a e b;rw[J] at x s u;have D:take BT 0 (wW d).az ⟨[(0,.fl 0 1)],[⟨1,1,.rows 75 (List.take b a++[e]++List.drop b a)⟩,⟨0,0,.rows 75 [e]⟩]⟩ c6=c6 (List.take b a++[e]++List.drop b a):=rfl;obtain⟨P,j,G,K,E,L⟩:=EK dM D (g:=C) (w:=A) x;injection j with j
  subst j;exact⟨v,G,rfl,K,(s.less (dv _)).trans E,L 0 v u⟩
 ·have n:b=List.length a:=by omega
  subst n;have N:=adX a e
  erw [N]
  exact(OA d).calls (a,[e],(List.length a:Int)) (List.append a [e]) (aiO m) g w vs t k c
def QD0:bY:=⟨[(0,[4],.rows 3 22),(0,[6],.rows 3 22),(0,[7],.rows 3 22)],[(0,.g [.v 27,.v 28,.v 3,.v 31,.r 0,.v 32,.r 1,.r 2,.ns])]⟩
def YL:bY:=⟨[(0,[4],.rows 3 22),(0,[6],.rows 3 22),(0,[7],.rows 3 22),(0,[8],.refs 22 [4]),(0,[8,0],.rows 3 22)],[(0,.g [.v 27,.v 28,.v 3,.v 31,.r 0,.v 32,.r 1,.r 2,.r 3])]⟩
def V1:bY:=⟨[(0,[4],.rows 3 22),(0,[6],.rows 3 22),(0,[7],.rows 3 22),(0,[8],.refs 22 [4,5]),(0,[8,0],.rows 3 22),(0,[8,1],.rows 3 22)],[(0,.g [.v 27,.v 28,.v 3,.v 31,.r 0,.v 32,.r 1,.r 2,.r 3])]⟩
def QD3:bY:=⟨[(0,[4],.rows 3 22),(0,[6],.rows 3 22),(0,[7],.rows 3 22),(0,[8],.refs 22 [4,5,6]),(0,[8,0],.rows 3 22),(0,[8,1],.rows 3 22),(0,[8,2],.rows 3 22)],[(0,.g [.v 27,.v 28,.v 3,.v 31,.r 0,.v 32,.r 1,.r 2,.r 3])]⟩
def pW(a:Lp):aq BT:=⟨143,1,0,⟨[],[(0,.v 35)]⟩,QD0,λb=>we a b⟩
def tR(a:Lp):aq BT:=⟨143,1,0,⟨[],[(0,.v 35)]⟩,YL,λb=>uR a b⟩
def qd(a:Lp):aq BT:=⟨143,1,0,⟨[],[(0,.v 35)]⟩,V1,λb=>pO a b⟩
def nX(a:Lp):aq BT:=⟨143,1,0,⟨[],[(0,.v 35)]⟩,QD3,λb=>nM a b⟩
def HD:List (Nat×Hn):=[(506,⟨[],[(2,⟨[(2,true,.box 35 [.v 27,.v 28,.v 3,.v 31,.r 3,.v 32,.v 22,.v 22,.v 33])],[],[]⟩)],c6 ⟨[(2,true,.box 35 [.v 27,.v 28,.v 3,.v 31,.r 3,.r 4,.v 22,.v 22,.v 33])],[(100002,[5],.rows 120 32)],[(31,.v 3)]⟩⟩),(64818,⟨[2],[],c7⟩),(64819,⟨[3],[],c7⟩),(4090,⟨[4],[],c7⟩)]
def GD(a:Lp):List (aq BT):=[RL a,Mq a,Pv a,OB a,PI a]
theorem gd(a:Lp):∀b,b∈GD a->FT b:=fc (oh a) (fc (sP a) (fc (Md a) (fc (oH a) (fc (iY a) f0))))
theorem RD0(a:Lp)(c:ak)(f:Int)(p:List bC)(d:List Int)(b:List aS)(g e:List Int):gl a BT d0 (GD a) (pW a) [.cell 2 35] ((Tryz.f143.body).getD .skip) HD (aB.mk c f p d b g e [])=we a (aB.mk c f p d b g e []):=by kernel_rfl
theorem Vm(a:Lp)(c:ak)(g:Int)(p:List bC)(d:List Int)(b:List aS)(h f e:List Int):gl a BT d0 (GD a) (tR a) [.cell 2 35] ((Tryz.f143.body).getD .skip) HD (aB.mk c g p d b h f [e])=uR a (aB.mk c g p d b h f [e]):=by kernel_rfl
theorem RD2(a:Lp)(c:ak)(g:Int)(p:List bC)(d:List Int)(b:List aS)(i f e h:List Int):gl a BT d0 (GD a) (qd a) [.cell 2 35] ((Tryz.f143.body).getD .skip) HD (aB.mk c g p d b i f [e,h])=pO a (aB.mk c g p d b i f [e,h]):=by kernel_rfl
theorem YZ(a:Lp)(c:ak)(g:Int)(p:List bC)(d:List Int)(b:List aS)(j f e h i:List Int):gl a BT d0 (GD a) (nX a) [.cell 2 35] ((Tryz.f143.body).getD .skip) HD (aB.mk c g p d b j f [e,h,i])=nM a (aB.mk c g p d b j f [e,h,i]):=by kernel_rfl
theorem HC(b:Lp):FT (pW b):=EB mixed dM (gd b) (hs:=HD) (rs:=[.cell 2 35]) g9 rfl rfl rfl rfl (by kernel_rfl) rfl rfl λj k a=>by
 obtain⟨d,g,p,e,c,h,f,i⟩:=j
 match i,a with
 |[],a=>exact(RD0 b d g p e c h f).trans a
 |_::_,a=>cases a
theorem SP(b:Lp):FT (tR b):=EB mixed dM (gd b) (hs:=HD) (rs:=[.cell 2 35]) g9 rfl rfl rfl rfl (by kernel_rfl) rfl rfl λk l a=>by
 obtain⟨d,h,p,e,c,i,g,j⟩:=k
 match j,a with
 |[f],a=>exact(Vm b d h p e c i g f).trans a
 |[],a=>cases a
 |_::_::_,a=>cases a
theorem GB(b:Lp):FT (qd b):=EB mixed dM (gd b) (hs:=HD) (rs:=[.cell 2 35]) g9 rfl rfl rfl rfl (by kernel_rfl) rfl rfl λl m a=>by
 obtain⟨d,h,p,e,c,j,g,k⟩:=l
 match k,a with
 |[f,i],a=>exact(RD2 b d h p e c j g f i).trans a
 |[],a=>cases a
 |[_],a=>cases a
 |_::_::_::_,a=>cases a
theorem EH(b:Lp):FT (nX b):=EB mixed dM (gd b) (hs:=HD) (rs:=[.cell 2 35]) g9 rfl rfl rfl rfl (by kernel_rfl) rfl rfl λm n a=>by
 obtain⟨d,h,p,e,c,j,g,l⟩:=m
 match l,a with
 |[f,i,k],a=>exact(YZ b d h p e c j g f i k).trans a
 |[],a=>cases a
 |[_],a=>cases a
 |[_,_],a=>cases a
 |_::_::_::_::_,a=>cases a
def HS:List (Nat×Hn):=[(506,⟨[4],[],c7⟩)]
theorem RS0(a:Lp)(c:ak)(g:Int)(p:List bC)(d:List Int)(b:List aS)(h f:List Int)(i e:Int):gl a BT d0 [pW a,lT a] (mG a) [.cell 6 35,.tmp 7] ((hK.body).getD .skip) HS (aB.mk c g p d b h f [],i,e)=oX a (aB.mk c g p d b h f []) i e:=by kernel_rfl
theorem Yt(a:Lp)(c:ak)(h:Int)(p:List bC)(d:List Int)(b:List aS)(i g:List Int)(e:List Int)(j f:Int):gl a BT d0 [tR a,lT a] (mG a) [.cell 6 35,.tmp 7] ((hK.body).getD .skip) HS (aB.mk c h p d b i g [e],j,f)=oX a (aB.mk c h p d b i g [e]) j f:=by kernel_rfl
theorem RS2(a:Lp)(c:ak)(h:Int)(p:List bC)(d:List Int)(b:List aS)(j g:List Int)(e i:List Int)(k f:Int):gl a BT d0 [qd a,lT a] (mG a) [.cell 6 35,.tmp 7] ((hK.body).getD .skip) HS (aB.mk c h p d b j g [e,i],k,f)=oX a (aB.mk c h p d b j g [e,i]) k f:=by kernel_rfl
theorem RS3(a:Lp)(c:ak)(i:Int)(p:List bC)(e:List Int)(b:List aS)(k h:List Int)(f j d:List Int)(l g:Int):gl a BT d0 [nX a,lT a] (mG a) [.cell 6 35,.tmp 7] ((hK.body).getD .skip) HS (aB.mk c i p e b k h [f,j,d],l,g)=oX a (aB.mk c i p e b k h [f,j,d]) l g:=by kernel_rfl
theorem RS4(a:Lp)(c:ak)(j:Int)(p:List bC)(f:List Int)(b:List aS)(l i:List Int)(g k d e:List Int)(n:List (List Int))(m h:Int):gl a BT d0 [pW a,lT a] (mG a) [.cell 6 35,.tmp 7] ((hK.body).getD .skip) HS (aB.mk c j p f b l i (g::k::d::e::n),m,h)=oX a (aB.mk c j p f b l i (g::k::d::e::n)) m h:=by kernel_rfl
theorem KS(a:Lp)(f:FT (lT a)):FT (mG a):=by
 have u:∀(n:bi BT.D (mG a).par.bX) (o:bi BT.D (mG a).az.bX),(mG a).F n=c6 o->∃s:List (aq BT),(∀t,t∈s->FT t)/\gl a BT d0 s (mG a) [.cell 6 35,.tmp 7] ((hK.body).getD .skip) HS n=c6 o:=by
  intro n o b;obtain⟨⟨g,m,p,h,d,k,e,q⟩,j,l⟩:=n
  match q,b with
  |[],b=>exact⟨[pW a,lT a],fc (HC a) (fc f f0),(RS0 a g m p h d k e j l).trans b⟩
  |[c],b=>exact⟨[tR a,lT a],fc (SP a) (fc f f0),(Yt a g m p h d k e c j l).trans b⟩
  |[c,i],b=>exact⟨[qd a,lT a],fc (GB a) (fc f f0),(RS2 a g m p h d k e c i j l).trans b⟩
  |[c,i,r],b=>exact⟨[nX a,lT a],fc (EH a) (fc f f0),(RS3 a g m p h d k e c i r j l).trans b⟩
  |c::i::r::v::q,b=>exact⟨[pW a,lT a],fc (HC a) (fc f f0),(RS4 a g m p h d k e c i r v q j l).trans b⟩
 exact aed mixed dM (hs:=HS) (rs:=[.cell 6 35,.tmp 7]) Tryz.func171 rfl rfl rfl rfl (by kernel_rfl) rfl rfl u
def qZ:List (Nat×Hn):=[(60,⟨[],[(0,⟨[],[],[(57,.v 4)]⟩)],c7⟩),(508,⟨[],[(0,⟨[],[],[(80,.v 4)]⟩)],c7⟩),(509,⟨[],[(0,⟨[],[],[(13,.v 3)]⟩)],c7⟩),(16771484,⟨[],[(0,⟨[],[],[(145,.v 4)]⟩)],c7⟩)]
def GL(a:Lp)(b:aq BT):List (aq BT):=[b,Kf a,C5 a,Fz a,AW a]
def M7:List (Nat×Hn):=qZ++[(16378,⟨[],[(3,⟨[(8,true,.box 101 [.v 3,.v 3,.v 3,.r 9])],[(100008,[3],.rows 3 22)],[]⟩)],c6 ⟨[(8,true,.box 101 [.v 3,.v 3,.v 3,.r 9])],[(100008,[3],.rows 3 22)],[(110,.v 3)]⟩⟩)]
theorem WN(a:Lp)(c:ak)(g:Int)(p:List bC)(d:List Int)(b:List aS)(h f:List Int)(e i:Int):gl a BT d0 (GL a (pW a)) (nD a) [.cell 8 35,.cell 9 101,.tmp 10] ((h6.body).getD .skip) M7 (aB.mk c g p d b h f [],(0:Int),e,i)=jO a (aB.mk c g p d b h f []) 0 e i:=by kernel_rfl
def Od:List (Nat×Hn):=qZ++[(16378,⟨[],[(1,⟨[(1,true,.box 35 [.v 27,.v 28,.v 3,.v 31,.v 22,.v 32,.v 22,.v 22,.v 33]),(2,true,.box 101 [.v 3,.v 3,.v 3,.v 22]),(8,false,.dead),(10,false,.dead)],[],[(10,.v 67)]⟩),(3,⟨[(8,true,.rows 3 22),(10,true,.box 101 [.v 3,.v 3,.v 3,.r 11])],[(100010,[3],.rows 3 22)],[]⟩)],c6 ⟨[(8,true,.rows 3 22),(10,true,.box 101 [.v 3,.v 3,.v 3,.r 11])],[(100010,[3],.rows 3 22)],[(110,.v 3)]⟩⟩)]
theorem ahC(a:Lp)(c:ak)(h:Int)(p:List bC)(d:List Int)(b:List aS)(i g:List Int)(e:List Int)(f j:Int):gl a BT d0 (GL a (tR a)) (nD a) [.cell 8 35,.cell 9 101,.tmp 10] ((h6.body).getD .skip) Od (aB.mk c h p d b i g [e],(0:Int),f,j)=jO a (aB.mk c h p d b i g [e]) 0 f j:=by kernel_rfl
def Po:List (Nat×Hn):=qZ++[(16378,⟨[],[(1,⟨[(1,true,.box 35 [.v 27,.v 28,.v 3,.v 31,.v 22,.v 32,.v 22,.v 22,.v 33]),(2,true,.box 101 [.v 3,.v 3,.v 3,.v 22]),(8,false,.dead),(11,false,.dead)],[],[(10,.v 67)]⟩),(3,⟨[(8,true,.rows 3 22),(11,true,.box 101 [.v 3,.v 3,.v 3,.r 12])],[(100011,[3],.rows 3 22)],[]⟩)],c6 ⟨[(8,true,.rows 3 22),(11,true,.box 101 [.v 3,.v 3,.v 3,.r 12])],[(100011,[3],.rows 3 22)],[(110,.v 3)]⟩⟩)]
theorem akd(a:Lp)(c:ak)(h:Int)(p:List bC)(d:List Int)(b:List aS)(j g:List Int)(e i:List Int)(f k:Int):gl a BT d0 (GL a (qd a)) (nD a) [.cell 8 35,.cell 9 101,.tmp 10] ((h6.body).getD .skip) Po (aB.mk c h p d b j g [e,i],(0:Int),f,k)=jO a (aB.mk c h p d b j g [e,i]) 0 f k:=by kernel_rfl
def Qs:List (Nat×Hn):=qZ++[(16378,⟨[],[(1,⟨[(1,true,.box 35 [.v 27,.v 28,.v 3,.v 31,.v 22,.v 32,.v 22,.v 22,.v 33]),(2,true,.box 101 [.v 3,.v 3,.v 3,.v 22]),(9,false,.dead),(11,false,.dead)],[],[(10,.v 67)]⟩),(3,⟨[(9,true,.rows 3 22),(11,true,.box 101 [.v 3,.v 3,.v 3,.r 12])],[(100011,[3],.rows 3 22)],[]⟩)],c6 ⟨[(9,true,.rows 3 22),(11,true,.box 101 [.v 3,.v 3,.v 3,.r 12])],[(100011,[3],.rows 3 22)],[(110,.v 3)]⟩⟩)]
theorem am3(a:Lp)(c:ak)(h:Int)(p:List bC)(d:List Int)(b:List aS)(j g:List Int)(e i:List Int)(f k:Int):gl a BT d0 (GL a (qd a)) (nD a) [.cell 8 35,.cell 9 101,.tmp 10] ((h6.body).getD .skip) Qs (aB.mk c h p d b j g [e,i],(1:Int),f,k)=jO a (aB.mk c h p d b j g [e,i]) 1 f k:=by kernel_rfl
def LP:List (Nat×Hn):=qZ++[(16378,⟨[],[(1,⟨[(1,true,.box 35 [.v 27,.v 28,.v 3,.v 31,.v 22,.v 32,.v 22,.v 22,.v 33]),(2,true,.box 101 [.v 3,.v 3,.v 3,.v 22]),(8,false,.dead),(12,false,.dead)],[],[(10,.v 67)]⟩),(3,⟨[(8,true,.rows 3 22),(12,true,.box 101 [.v 3,.v 3,.v 3,.r 13])],[(100012,[3],.rows 3 22)],[]⟩)],c6 ⟨[(8,true,.rows 3 22),(12,true,.box 101 [.v 3,.v 3,.v 3,.r 13])],[(100012,[3],.rows 3 22)],[(110,.v 3)]⟩⟩)]
theorem apY(a:Lp)(c:ak)(h:Int)(p:List bC)(d:List Int)(b:List aS)(j g:List Int)(e i k:List Int)(f l:Int):gl a BT d0 (GL a (nX a)) (nD a) [.cell 8 35,.cell 9 101,.tmp 10] ((h6.body).getD .skip) LP (aB.mk c h p d b j g [e,i,k],(0:Int),f,l)=jO a (aB.mk c h p d b j g [e,i,k]) 0 f l:=by kernel_rfl
def MX:List (Nat×Hn):=qZ++[(16378,⟨[],[(1,⟨[(1,true,.box 35 [.v 27,.v 28,.v 3,.v 31,.v 22,.v 32,.v 22,.v 22,.v 33]),(2,true,.box 101 [.v 3,.v 3,.v 3,.v 22]),(9,false,.dead),(12,false,.dead)],[],[(10,.v 67)]⟩),(3,⟨[(9,true,.rows 3 22),(12,true,.box 101 [.v 3,.v 3,.v 3,.r 13])],[(100012,[3],.rows 3 22)],[]⟩)],c6 ⟨[(9,true,.rows 3 22),(12,true,.box 101 [.v 3,.v 3,.v 3,.r 13])],[(100012,[3],.rows 3 22)],[(110,.v 3)]⟩⟩)]
theorem Wn(a:Lp)(c:ak)(h:Int)(p:List bC)(d:List Int)(b:List aS)(j g:List Int)(e i k:List Int)(f l:Int):gl a BT d0 (GL a (nX a)) (nD a) [.cell 8 35,.cell 9 101,.tmp 10] ((h6.body).getD .skip) MX (aB.mk c h p d b j g [e,i,k],(1:Int),f,l)=jO a (aB.mk c h p d b j g [e,i,k]) 1 f l:=by kernel_rfl
def N5:List (Nat×Hn):=qZ++[(16378,⟨[],[(1,⟨[(1,true,.box 35 [.v 27,.v 28,.v 3,.v 31,.v 22,.v 32,.v 22,.v 22,.v 33]),(2,true,.box 101 [.v 3,.v 3,.v 3,.v 22]),(10,false,.dead),(12,false,.dead)],[],[(10,.v 67)]⟩),(3,⟨[(10,true,.rows 3 22),(12,true,.box 101 [.v 3,.v 3,.v 3,.r 13])],[(100012,[3],.rows 3 22)],[]⟩)],c6 ⟨[(10,true,.rows 3 22),(12,true,.box 101 [.v 3,.v 3,.v 3,.r 13])],[(100012,[3],.rows 3 22)],[(110,.v 3)]⟩⟩)]
theorem ZS(a:Lp)(c:ak)(h:Int)(p:List bC)(d:List Int)(b:List aS)(j g:List Int)(e i k:List Int)(f l:Int):gl a BT d0 (GL a (nX a)) (nD a) [.cell 8 35,.cell 9 101,.tmp 10] ((h6.body).getD .skip) N5 (aB.mk c h p d b j g [e,i,k],(2:Int),f,l)=jO a (aB.mk c h p d b j g [e,i,k]) 2 f l:=by kernel_rfl
theorem ae3(a:Lp)(B:FT (Kf a))(A:FT (C5 a))(E:FT (Fz a)):FT (nD a):=by
 have i:∀r,FT r->∀y,y∈GL a r->FT y:=λr u=>fc u (fc B (fc A (fc E (fc (D5 a) f0))))
 have F:∀(x b:Int) (d:Option (aB×aT×Int)),x≠b->(bif c5 (x=b) then d else c7)=c7:=λx b d u=>by rw[decide_eq_false u];rfl
 have D:∀(g:ak) (m:Int) (p:List bC) (h:List Int) (e:List aS) (k f:List Int) (t:List (List Int)) (j l n:Int) (s:aB×aT×Int),jO a (aB.mk g m p h e k f t) j l n=c6 s->
  ∃(i:List (aq BT)) (C:List (Nat×Hn)),(∀r,r∈i->FT r)/\gl a BT d0 i (nD a) [.cell 8 35,.cell 9 101,.tmp 10] ((h6.body).getD .skip) C (aB.mk g m p h e k f t,j,l,n)=c6 s:=by
  intro g m p h e k f t j l n s c
  match t,c with
  |[],c=>
   by_cases h0:(j:Int)=0
   ·subst h0;exact⟨GL a (pW a),M7,i _ (HC a),(WN a g m p h e k f l n).trans c⟩
   ·unfold jO at c;simp only[decide_eq_false h0,cond_false] at c;cases c
  |[o],c=>
   by_cases h0:(j:Int)=0
   ·subst h0;exact⟨GL a (tR a),Od,i _ (SP a),(ahC a g m p h e k f o l n).trans c⟩
   ·unfold jO at c;simp only[decide_eq_false h0,cond_false] at c;cases c
  |[o,q],c=>
   by_cases h0:(j:Int)=0
   ·subst h0;exact⟨GL a (qd a),Po,i _ (GB a),(akd a g m p h e k f o q l n).trans c⟩
   by_cases v:(j:Int)=1
   ·subst v;exact⟨GL a (qd a),Qs,i _ (GB a),(am3 a g m p h e k f o q l n).trans c⟩
   ·unfold jO at c;simp only[decide_eq_false h0,decide_eq_false v,cond_false] at c;cases c
  |[o,q,w],c=>
   by_cases h0:(j:Int)=0
   ·subst h0;exact⟨GL a (nX a),LP,i _ (EH a),(apY a g m p h e k f o q w l n).trans c⟩
   by_cases v:(j:Int)=1
   ·subst v;exact⟨GL a (nX a),MX,i _ (EH a),(Wn a g m p h e k f o q w l n).trans c⟩
   by_cases z:(j:Int)=2
   ·subst z;exact⟨GL a (nX a),N5,i _ (EH a),(ZS a g m p h e k f o q w l n).trans c⟩
   ·unfold jO at c;simp only[decide_eq_false h0,decide_eq_false v,decide_eq_false z,cond_false] at c;cases c
  |o::q::w::G::t,c=>
   cases c
 exact afO mixed dM (rs:=[.cell 8 35,.cell 9 101,.tmp 10]) Tryz.func163 rfl rfl rfl rfl (by kernel_rfl) rfl rfl λd s u=>D d.1.ao d.1.Time d.1.aN d.1.aw d.1.aQ d.1.cn d.1.cf d.1.bp d.2.1 d.2.2.1 d.2.2.2 s u
end Go.X.T
namespace Go.X
open Go Go.Aml Go.Bml Go.RowKit
section
variable {P : Program} {B : Tb} {R : Type} {r : R}
theorem Pu(J:P.follows .mixedOrders=true)(I:cU P B){ac:Lp}{N:List (aq B)}(K:∀O,O∈N->Fits P B O){t n L:Nat}{M:Code}{C:Exit->Act->World->Prop}{y:Nat->St B.D->Option R}:
 ∀(l:List (Code×List (Nat×Hn))) (c:St B.D),AS ac B P N n l y c=c6 r->RB t l=true->n<=c.H.length->∀(g:Gh) (j:Act) (d:World),Rel g t (aU B c.E) (av B c.H) j d->
  (∀e s b a,y 0 e=c6 r->n<=e.H.length->Rel s t (aU B e.E) (av B e.H) b a->Bml.GStep n g (av B c.H) d s (av B e.H) a->M.wpIn Fence.wide L P C b a)->
  (∀h b a,h≠ .normal->eI t n g (av B c.H) d (qP B y r) h b a->C h b a)->(IX l M).wpIn Fence.wide L P C j d
 |[],c,w,_,u,g,j,d,x,v,_=>v c g j d w u x (Bml.GStep.refl _ _ _ _)
 |p::l,c,w,Y,u,g,j,d,x,v,G=>by
  obtain⟨aa,X⟩:=fu Y;refine wpIn_seq (wpIn_wide.2 (gO J I K p.1 1 _ _ _ w aa u g j d x _ λh z E k=>?_))
  cases h with
  |normal=>
   obtain⟨_,_,m,⟨q,A,f,rfl,rfl⟩,o,i⟩:=k;have Q:=Nat.le_trans u A.len;exact Pu J I K l q f X Q m z E o (λe s b a S V Z W=>v e s b a S V Z (i.trans W)) λh b a U T=>G h b a U (eI.trans i T)
  |ret=>
   obtain⟨D,H1,m,⟨q,A,f,H,F⟩,o,i⟩:=k;exact G .ret z E (by simp) ⟨D,H1,m,⟨q,f,H,F⟩,o,i⟩
  |exit ab=>
   obtain⟨D,H1,m,⟨q,A,f,H,F⟩,o,i⟩:=k;exact G (.exit ab) z E (by simp) ⟨D,H1,m,⟨q,f,H,F⟩,o,i⟩
  |goto _=>obtain⟨_,_,_,f,_⟩:=k;exact f.elim
  |panic _=>exact k.elim
  |outgrown=>exact k.elim
theorem afv(F:P.follows .mixedOrders=true)(E:cU P B){A:List (aq B)}(L:∀o,o∈A->Fits P B o){l m n p C:Nat}{V:List Nat}{d:List Oper}{c:St B.D}{D:St B.D->Option R}{g:Gh}{q:Act}{h:World}{Q:Exit->Act->World->Prop}
 (O:Rel g p (aU B c.E) (av B c.H) q h) (J:ops B P A V d (λT c=>bif m7 0 d then bif n4 d [] 0 (nf T []) then D c else c7 else c7) 0 d [] c=c6 r)
 (M:∀b,b∈d->fL p b.dst=true) (X:∀b,b∈d->∀o,b.op≠ .defer o) (Z:∀s y t x,D s=c6 r->Rel x p (aU B s.E) (av B s.H) y t->Bml.GStep m g (av B c.H) h x (av B s.H) t->Q .normal y t):
 (Code.region C d.toArray true).wpIn (Fence.wide.inRound l) n P Q q h:=by
 obtain⟨aa,k,K,f⟩:=qg E L J;rw[hq] at f;obtain⟨N,f⟩:=a8 f;obtain⟨z,f⟩:=a8 f;rw[J8,hq,List.reverse_reverse] at z;have G:=LB (nn:=m) (Q:=λj v u=>j= .normal/\v=aU B k.E/\u=av B k.H) K N z M ⟨rfl,rfl,rfl⟩ g q h O (eI p m g (av B c.H) h λj v u=>j= .normal/\v=aU B k.E/\u=av B k.H) (λ_ _ _ a=>a);have H:=Ck (l:=l) (n:=n) (λq h a=>a) (λi b w=>X b (by
  rw[List.getElem?_toArray] at w;exact ec w)) _ _ _ _ G
 refine wpIn_mono (wpIn_region_any F H) ?_
 intro j Y S e;cases j with
 |normal=>
  obtain⟨ab,H3,W,⟨_,rfl,rfl⟩,I,U⟩:=e;exact Z k Y S W f I U
 |exit C=>obtain⟨_,_,_,⟨a,_⟩,_⟩:=e;cases a
 |ret=>obtain⟨_,_,_,⟨a,_⟩,_⟩:=e;cases a
 |goto l=>obtain⟨_,_,_,⟨a,_⟩,_⟩:=e;cases a
 |panic o=>exact e.elim
 |outgrown=>exact e.elim
end
end Go.X
namespace Go.X.T
open Go Go.Aml Go.Bml Go.X Go.RowKit Go.Proofs
def tU(c:Lp){R:Type}(d:aT×Int->Option R)(k:Int->Int->Int->List Int->Int->Option R)(a:fa):Option R:=
 bif c5 (a.Kind≠9) then d (aT.mk 0 0 0 [],5) else
 (cp c a.kO 0 31).bind λi=>
 bif (!i) then d (aT.mk 0 0 0 [],40) else
 (bif c5 (((a.Data).length:Int)<9) then c6 true else(aj a.Data 8).bind λb=>c6 (c5 (((a.Data).length:Int)≠c3 c4 (9+c3 c4 (2*c3 c4 b))))).bind λbad=>
 bif bad then d (aT.mk 0 0 0 [],6) else
 (eG a.Data 0 2).bind λh=>(jQ c h).bind λg=>
 (eG a.Data 2 8).bind λf=>(jQ c f).bind λl=>
 (eG a.Data 9 ((a.Data).length:Int)).bind λj=>(vE c j 2).bind λe=>
 k a.kO (c3 c4 g) (c3 c4 l) e.1 e.2
theorem fK{d e:Type}{b:Option d}{f:d->Option e}{r:e}(c:b.bind f=c6 r):∃a,b=c6 a/\f a=c6 r:=by
 cases b with
 |none=>cases c
 |some a=>exact⟨a,rfl,c⟩
theorem aoS{j:Lp}{R:Type}{i:aT×Int->R}{l:Int->Int->Int->List Int->Int->Option (aT×Int)}{V:Int->Int->Int->List Int->Int->Option R}{d:fa}{r:aT×Int}(a:tU j c6 l d=c6 r):tU j (λg=>c6 (i g)) V d=c6 (i r)\/∃c e f m o,tU j (λg=>c6 (i g)) V d=V c e f m o/\l c e f m o=c6 r:=by
 unfold tU at a⊢;cases n:c5 (d.Kind≠9) with
 |true=>rw[n] at a;exact .inl (congrArg (Option.map i) a)
 |false=>
  rw[n] at a;rw[cond_false] at a⊢;obtain⟨c,w,a⟩:=fK a;rw[w];show(bif !c then _ else _)=_\/_
  cases h:(!c) with
  |true=>rw[h] at a;exact .inl (congrArg (Option.map i) a)
  |false=>
   rw[h] at a;rw[cond_false] at a⊢;obtain⟨b,s,a⟩:=fK a;rw[s];show(bif b then _ else _)=_\/_
   cases b with
   |true=>exact .inl (congrArg (Option.map i) a)
   |false=>
    rw[cond_false] at a⊢;obtain⟨x,t,a⟩:=fK a;obtain⟨e,f0,a⟩:=fK a;obtain⟨y,v,a⟩:=fK a;obtain⟨f,u,a⟩:=fK a;obtain⟨z,p,a⟩:=fK a;obtain⟨k,q,a⟩:=fK a;refine .inr ⟨d.kO,c3 c4 e,c3 c4 f,k.1,k.2,?_,a⟩
    rw[t];simp only[dt,f0,v,u,p,q,h,cond_false]
theorem JA(a:Lp):∀(h c:List (List Int)) (b:List Int),gW a (h++c) b=(gW a h b).bind (gW a c)
 |[],c,b=>rfl
 |g::f,c,b=>by
  show((jQ a g).bind λe=>(bj 8 b [c3 c4 e]).bind λd=>gW a (f++c) d)=((jQ a g).bind λe=>(bj 8 b [c3 c4 e]).bind λd=>gW a f d).bind _
  cases jQ a g with
  |none=>rfl
  |some e=>
   show((bj 8 b [c3 c4 e]).bind λd=>gW a (f++c) d)=((bj 8 b [c3 c4 e]).bind λd=>gW a f d).bind _
   cases bj 8 b [c3 c4 e] with
   |none=>rfl
   |some i=>exact JA a f c i
theorem aiZ{b:Lp}{a:List (List Int)}{e:List Int}(d:gW b a []=c6 e)(c:Nat):∃f,gW b (a.take c) []=c6 f/\gW b (a.drop c) f=c6 e:=by
 rw[<-h5 c a,JA] at d;exact fK d
theorem Ue{f:Lp}{b:List (List Int)}{c:Nat}{d h g:List Int}(m:b[c]? =c6 d)(i:gW f (b.take c) []=c6 h)(a:gW f (b.take (c+1)) []=c6 g):((jQ f d).bind λe=>bj 8 h [c3 c4 e])=c6 g:=by
 have j:b.take (c+1)=b.take c++[d]:=by rw[List.take_add_one,m];rfl
 rw[j,JA,i] at a;have a:((jQ f d).bind λe=>(bj 8 h [c3 c4 e]).bind λl=>c6 l)=c6 g:=a;obtain⟨e,n,a⟩:=fK a;obtain⟨o,k,a⟩:=fK a;rw[n];exact k.trans a
theorem Su:∀(f:List Int) (c:Nat),f.length=c*2->(lj f).length=c/\∀a,a<c->∃e b,(lj f)[a]? =c6 [e,b]/\f[a*2]? =c6 e/\f[a*2+1]? =c6 b
 |[],c,d=>by
  have:c=0:=by simp at d;omega
  subst this;exact⟨rfl,λa i=>absurd i (by omega)⟩
 |[e],c,d=>by simp at d;omega
 |e::b::h,c,d=>by
  obtain⟨g,rfl⟩:∃g,c=g+1:=⟨c -1,by simp at d;omega⟩;obtain⟨o,l⟩:=Su h g (by simp at d;omega);refine⟨by show(lj h).length+1=_;rw[o],λa i=>?_⟩
  cases a with
  |zero=>exact⟨e,b,rfl,rfl,rfl⟩
  |succ a=>
   obtain⟨p,m,n,j,k⟩:=l a (by omega);refine⟨p,m,n,?_,?_⟩
   ·rw[show(a+1)*2=a*2+1+1 by omega];exact j
   ·rw[show(a+1)*2+1=a*2+1+1+1 by omega];exact k
theorem W4{h:Lp}{e d f i:Int}{c:List Int}{r:aT×Int}(a:rA h e d f c i=c6 r):i=2/\∃k b v,c.length=k*2/\gW h (lj c) []=c6 b/\lQ h (aT.mk e d f b)=c6 v/\r=bif (!v) then(aT.mk 0 0 0 [],6) else(aT.mk e d f b,0):=by
 unfold rA at a
 by_cases g:i=2
 rotate_left
 ·rw[decide_eq_false g] at a;cases a
 rw[decide_eq_true g,cond_true] at a
 by_cases j:c.length%2=0
 rotate_left
 ·rw[decide_eq_false j] at a;cases a
 rw[decide_eq_true j,cond_true] at a;obtain⟨b,m,a⟩:=fK a;obtain⟨v,l,a⟩:=fK a;refine⟨g,c.length/2,b,v,by omega,m,l,?_⟩
 cases v
 ·have a:c6 (aT.mk 0 0 0 [],(6:Int))=c6 r:=a;injection a with a
  exact a.symm
 ·have a:c6 (aT.mk e d f b,(0:Int))=c6 r:=a;injection a with a
  exact a.symm
end Go.X.T
namespace Go.X.T
open Go Go.Aml Go.Bml Go.X Go.RowKit Go.Proofs
def iq:Code->Code | .seq b _=>b |a=>a
def eM:Code->Code | .seq _ b=>b |a=>a
def V3:Code->Code | .block _ (.rangeFunc _ _ _ (.block _ b))=>b |a=>a
def cas:Code->Code | .block _ (.rangeFunc _ _ b _)=>b |a=>a
def tS:Code->List Oper | .region _ a _=>a.toList |_=>[]
noncomputable def tq:Code:=(Tryz.f34.body).getD .skip
noncomputable def xl:Code:=eM (eM (eM (eM (eM tq))))
noncomputable def DQ:Code:=iq (iq xl)
noncomputable def Dj:Code:=eM (iq xl)
noncomputable def sk:Code:=eM xl
noncomputable def D2:List (Code×List (Nat×Hn)):=[(iq tq,[]),(iq (eM tq),[]),(iq (eM (eM tq)),[]),(iq (eM (eM (eM tq))),[(2,⟨[],[(0,⟨[],[],[(31,.v 4)]⟩)],c7⟩)]),(iq (eM (eM (eM (eM tq)))),[])]
theorem LH:Tryz.f34.body=c6 (IX D2 xl):=by kernel_rfl
def iV(a:Lp):List (aq BT):=[C5 a,JX a,Ks a,H7 a]
def sO(f:Nat)(a:fa)(h:List Int)(c b d i:Int)(e:TV BT.D)(g:List (Ob BT.D)):List (Ob BT.D):=[⟨1,1,.box 97 [.int .i64 a.kO,.int .i64 a.Kind,.row 5 a.Data]⟩,⟨1,1,.box 101 [.int .i64 0,.int .i64 0,.int .i64 0,.bg]⟩,⟨f,1,.box 101 [.int .i64 c,.int .i64 b,.int .i64 d,e]⟩,⟨0,1,.box 95 [.row 5 h]⟩,⟨0,1,.box 3 [.int .i64 i]⟩]++g
def fO(e:Nat)(a:fa)(c b g:Int)(d:TV BT.D)(f:List (Ob BT.D)):List (Ob BT.D):=[⟨1,1,.box 97 [.int .i64 a.kO,.int .i64 a.Kind,.row 5 a.Data]⟩,⟨1,1,.box 101 [.int .i64 0,.int .i64 0,.int .i64 0,.bg]⟩,⟨e,1,.box 101 [.int .i64 c,.int .i64 b,.int .i64 g,d]⟩]++f
noncomputable def PT(c:Lp):Nat->St BT.D->Option (bi BT.D (kq c).az.bX⊕(List (Ob BT.D)×TV BT.D×TV BT.D×TV BT.D)):=λb a=>
 bif e4 b 0 then exec c BT d0 (iV c) 0 [] DQ 1 (λb a=>bif e4 b 0 then c6 (hM (a.H,lk a.E 49,lk a.E 4,lk a.E 2)) else c7) a
 else bif Nat.ble b 1 then(nh BT d0 a 0 [.cell 2 101,.tmp 3] [] λd=>take BT 0 (kq c).az ⟨d,a.H⟩ c6).bind λe=>c6 (Sum.inl e) else c7
theorem SR(a:Lp)(b:fa):AS a BT d0 (iV a) 0 D2 (PT a) (cz BT (kq a).par b)=tU a (λf=>c6 (Sum.inl f)) (λd c e g h=>c6 (hM (sO 2 b g d c e h .bg [],.fn 139 [] [.ptr 3 1 0 0,.ptr 4 1 0 0],.ptr 2 1 0 0,.ptr 1 1 0 0))) b:=by kernel_rfl
noncomputable def lv:List Oper:=tS (V3 Dj)
noncomputable def sv:List Oper:=tS (cas Dj)
theorem Yw:Dj= .block 0 (.rangeFunc (.tmp 49) #[50] (.region 9 sv.toArray false) (.block 1 (.region 10 lv.toArray true))):=by kernel_rfl
def sD(a:List Int):En BT.D:=[(50,.row 5 a),(4,.ptr 2 1 0 0)]
def ru(a:List Int):En BT.D:=[(5,.row 5 a),(50,.row 5 a),(4,.ptr 2 1 0 0)]
theorem rdA(c:fa)(d:List Int)(b a f:Int)(e:TV BT.D):ops BT d0 [] [] sv (λ_ g=>c6 g) 0 sv [] ⟨sD d,fO 2 c b a f e []⟩=c6 ⟨ru d,fO 2 c b a f e []⟩:=by kernel_rfl
theorem aer(d:fa)(e:List Int)(c a g:Int)(f:TV BT.D)(b:List Int):ops BT d0 [] [] sv (λ_ h=>c6 h) 0 sv [] ⟨sD e,fO 2 d c a g f [⟨1,1,.rows 3 b⟩]⟩=c6 ⟨ru e,fO 2 d c a g f [⟨1,1,.rows 3 b⟩]⟩:=by kernel_rfl
theorem ajg(e:Lp)(c:fa)(d:List Int)(b a g:Int):ops BT d0 (iV e) [] lv (λi h=>bif m7 0 lv then bif n4 lv [] 0 (nf i []) then c6 h.H else c7 else c7) 0 lv [] ⟨ru d,fO 2 c b a g .bg []⟩=(jQ e d).bind λf=>(bj 8 [] [c3 c4 f]).bind λj=>c6 (fO 3 c b a g (.fl 4 1) [⟨1,1,.rows 3 [c3 c4 f]⟩,⟨1,1,.rows 3 j⟩]):=by kernel_rfl
theorem ahg(f:Lp)(d:fa)(e:List Int)(c a h:Int)(b:List Int):ops BT d0 (iV f) [] lv (λj i=>bif m7 0 lv then bif n4 lv [] 0 (nf j []) then c6 i.H else c7 else c7) 0 lv [] ⟨ru e,fO 2 d c a h (.fl 3 1) [⟨1,1,.rows 3 b⟩]⟩=(jQ f e).bind λg=>(bj 8 b [c3 c4 g]).bind λk=>c6 (fO 3 d c a h (.fl 3 2) [⟨2,2,.rows 3 k⟩,⟨1,1,.rows 3 [c3 c4 g]⟩]):=by kernel_rfl
def NX(q:Nat):Nat->Option Nat
 |0=>c6 0
 |1=>c6 1
 |2=>c6 2
 |3=>c6 q
 |_=>c7
theorem Fj{q i r:Nat}(a:NX q i=c6 r):(i<3/\r=i)\/(i=3/\r=q):=by
 match i,a with
 |0,a=>injection a with a;exact .inl ⟨by omega,a.symm⟩
 |1,a=>injection a with a;exact .inl ⟨by omega,a.symm⟩
 |2,a=>injection a with a;exact .inl ⟨by omega,a.symm⟩
 |3,a=>injection a with a;exact .inr ⟨rfl,a.symm⟩
theorem wQ{g:Gh}{l:World}{e v:List aO}{h:Nat->Option Nat}{x:Nat->Prop}(t:bF g e l){i b:Nat}{a:aO}(m:e[i]? =c6 a)(y:∀d,d∈a.es->cE 0 d)(n:h b=c6 i):0<a.sz/\(∀(i:Nat) (d:PV),a.es[i]? =c6 d->d.cells.length=a.sz)/\(h b=c7->a.es=[])/\
 ∀r,h b=c6 r->∃c,e[r]? =c6 c/\a.ty=c.ty/\a.sz=c.sz/\a.es.length=c.es.length/\∀i b j,cellOf a.es i b=c6 j->∃p,cellOf c.es i b=c6 p/\∀k,VR g e l p k->VR (dj g h x) v l j k:=by
 have s:=t.obj i a m;refine⟨s.pos,s.width,(λo=>by rw[n] at o;cases o),λr f=>?_⟩
 rw[n] at f;injection f with f
 subst f;refine⟨a,m,rfl,rfl,rfl,λi b j q=>⟨j,q,λk w=>?_⟩⟩
 exact .aW ((w.dH (nR y q)).mono (λ_ u=>.inl u) λ_ _=>rfl)
theorem Yy{g:Gh}{s:World}{A0 A1:aO}{H:List aO}{c0 c1 c2:PV}{t tr sz q v:Nat}{es:List PV}
 (h0:H[0]? =c6 A0) (o:H[1]? =c6 A1) (y:H[2]? =c6 ⟨t,4,[.agg [c0,c1,c2,.fl q v]],1⟩) (u:H[q]? =c6 ⟨tr,sz,es,v⟩) (O:3<=q)
 (f0:∀j,j∈A0.es->cE 0 j) (G:∀j,j∈A1.es->cE 0 j) (J:∀j,j∈es->cE 0 j) (fc:cE 0 c0/\cE 0 c1/\cE 0 c2) (n:bF g H s):
 ∃x,bF x [A0,A1,⟨t,4,[.agg [c0,c1,c2,.fl 3 1]],1⟩,⟨tr,sz,es,1⟩] s/\Bml.GStep 3 g H s x [A0,A1,⟨t,4,[.agg [c0,c1,c2,.fl 3 1]],1⟩,⟨tr,sz,es,1⟩] s:=by
 refine⟨dj g (NX q) (λ_=>False),bF.re n (λ_ f=>f.elim) (λi N r f C=>?_) (λi r f=>?_) (λi p a=>?_),GStep.re λi I D c=>?_⟩
 ·rcases Fj f with⟨w,b⟩ |⟨w,b⟩ <;> rcases Fj C with⟨L,F⟩ |⟨L,F⟩ <;> omega
 ·show i<4
  rcases Fj f with⟨w,b⟩ |⟨w,b⟩ <;> omega
 ·match i,a with
  |0,a=>have a:c6 A0=c6 p:=a;injection a with a;subst a;exact wQ n h0 f0 rfl
  |1,a=>have a:c6 A1=c6 p:=a;injection a with a;subst a;exact wQ n o G rfl
  |3,a=>
   have a:c6 (⟨tr,sz,es,1⟩:aO)=c6 p:=a;injection a with a
   subst a;have B:=n.obj q _ u;refine⟨B.pos,B.width,(λf=>by cases f),λr h=>?_⟩
   have h:c6 q=c6 r:=h;injection h with h
   subst h;refine⟨_,u,rfl,rfl,rfl,λi z A d=>⟨A,d,λm k=>?_⟩⟩
   exact .aW ((k.dH (nR J d)).mono (λ_ l=>.inl l) λ_ _=>rfl)
  |2,a=>
   have a:c6 (⟨t,4,[.agg [c0,c1,c2,.fl 3 1]],1⟩:aO)=c6 p:=a;injection a with a
   subst a;refine⟨by show 0<4;omega,λi j e=>?_,(λf=>by cases f),λr h=>?_⟩
   ·match i,e with
    |0,e=>injection e with e;subst e;rfl
   ·have h:c6 2=c6 r:=h;injection h with h
    subst h;refine⟨_,y,rfl,rfl,rfl,λi z A d=>?_⟩
    obtain⟨j,e,E⟩:=gw d
    match i,e with
    |0,e=>
     injection e with e
     subst e
     match z,E with
     |0,_=>injection d with d;subst d;exact⟨c0,rfl,λm k=>.aW ((k.dH fc.1).mono (λ_ l=>.inl l) λ_ _=>rfl)⟩
     |1,_=>injection d with d;subst d;exact⟨c1,rfl,λm k=>.aW ((k.dH fc.2.1).mono (λ_ l=>.inl l) λ_ _=>rfl)⟩
     |2,_=>injection d with d;subst d;exact⟨c2,rfl,λm k=>.aW ((k.dH fc.2.2).mono (λ_ l=>.inl l) λ_ _=>rfl)⟩
     |3,_=>
      injection d with d
      subst d;refine⟨.fl q v,rfl,λm k=>?_⟩
      cases k with
      |aW f=>cases f
      |fl _ _ I _ c M o K=>
       rw[u] at c;injection c with c
       subst c;refine .fl 3 1 ⟨tr,sz,es,1⟩ m rfl (d6 _) o λ_=>?_
       have:=K rfl;unfold SL at this⊢;exact this
 ·match i,D with
  |0,_=>rw[h0] at c;injection c with c;subst c;exact⟨A0,rfl,d6 _,λ_=>⟨rfl,rfl,rfl⟩⟩
  |1,_=>rw[o] at c;injection c with c;subst c;exact⟨A1,rfl,d6 _,λ_=>⟨rfl,rfl,rfl⟩⟩
  |2,_=>rw[y] at c;injection c with c;subst c;exact⟨_,rfl,d6 _,λ_=>⟨rfl,rfl,rfl⟩⟩
def EO:Nat->Option Nat
 |0=>c6 0
 |1=>c6 1
 |2=>c6 2
 |_=>c7
theorem B9{i r:Nat}(a:EO i=c6 r):i<3/\r=i:=by
 match i,a with
 |0,a=>injection a with a;exact⟨by omega,a.symm⟩
 |1,a=>injection a with a;exact⟨by omega,a.symm⟩
 |2,a=>injection a with a;exact⟨by omega,a.symm⟩
theorem ah7{g:Gh}{f:World}{A0 A1 A2 l k:aO}(f0:∀c,c∈A0.es->cE 0 c)(n:∀c,c∈A1.es->cE 0 c)(s:∀c,c∈A2.es->cE 0 c)(e:bF g [A0,A1,A2,l,k] f):
 bF (dj g EO λr=>r=3\/r=4) [A0,A1,A2] f/\Bml.GStep 3 g [A0,A1,A2,l,k] f (dj g EO λr=>r=3\/r=4) [A0,A1,A2] f:=by
 refine⟨bF.re e (λr d q o=>?_) (λi t r d m=>?_) (λi r d=>?_) (λi h a=>?_),GStep.re λi j p b=>?_⟩
 ·have:=B9 o;omega
 ·have:=B9 d;have:=B9 m;omega
 ·exact(B9 d).1
 ·match i,a with
  |0,a=>have a:c6 A0=c6 h:=a;injection a with a;subst a;exact wQ e rfl f0 rfl
  |1,a=>have a:c6 A1=c6 h:=a;injection a with a;subst a;exact wQ e rfl n rfl
  |2,a=>have a:c6 A2=c6 h:=a;injection a with a;subst a;exact wQ e rfl s rfl
 ·match i,p with
  |0,_=>have b:c6 A0=c6 j:=b;injection b with b;subst b;exact⟨A0,rfl,d6 _,λ_=>⟨rfl,rfl,rfl⟩⟩
  |1,_=>have b:c6 A1=c6 j:=b;injection b with b;subst b;exact⟨A1,rfl,d6 _,λ_=>⟨rfl,rfl,rfl⟩⟩
  |2,_=>have b:c6 A2=c6 j:=b;injection b with b;subst b;exact⟨A2,rfl,d6 _,λ_=>⟨rfl,rfl,rfl⟩⟩
theorem aew(i:Nat)(r:2<=i)(b l f j g k cap c:Nat)(h:Option Addr)(p:c*2<=140737488355328)(v:c*2<=cap)(s:0<c->h=c6 ⟨g,k,c7⟩):
 vy i d0 139 #[.pointer (c6 ⟨b,l,c7⟩),.pointer (c6 ⟨f,j,c7⟩)] ((List.range c).map λd=>.slice (c6 ⟨g,k+d*2,c7⟩) 2 2) (λa=>a.cell? ⟨b,l,c7⟩=c6 (.slice h (c*2) cap)/\a.cell? ⟨f,j,c7⟩=c6 (.int .i64 2)):=by
 intro o t a m q w h0;refine(ai5 i r o b l f j g k cap c h p t (λd a e=>⟨(m d a e).1,(m d a e).2,v,s⟩) q (λd a u e=>w d _ a ?_ e) a h0).mono λy x n=>⟨n.1,by rw[f2,List.length_range];exact n.2⟩
 rw[ft,List.getElem?_range u]
 rfl
theorem amL{q:Nat->Prop}{m:World}{h:List Int}{e l f cap:Nat}{j g:Int}(v:h[e*2]? =c6 j)(D:h[e*2+1]? =c6 g){x:Nat}{n:Option Addr}(o:VI q m (.vs 1 (h.map (PV.int .u8))) (.slice n x cap))(F:n=c6 ⟨l,f,c7⟩):VI q m (.vs 1 ([j,g].map (PV.int .u8))) (.slice (c6 ⟨l,f+e*2,c7⟩) 2 2):=by
 generalize w:h.map (PV.int .u8)=E at o;generalize B:Value.slice n x cap=z at o;cases o with
 |eX _ J cap=>
  have:h=[]:=List.map_eq_nil_iff.1 w;subst this;simp at v
 |vs _ _ H K cap u2 I A G y s t=>
  injection B with hz1 hz2 hz3
  rw[F] at hz1;injection hz1 with hz1
  injection hz1 with hz4 hz5
  subst hz4;subst hz5;have u:∀(i:Nat) (b:Int),h[i]? =c6 b->cellOf E i 0=c6 (.int .u8 b):=λi b c=>by
   rw[<-w];unfold cellOf;rw[ft,c]
   rfl
  have C:∀(i d:Nat) (b:PV),cellOf ([j,g].map (PV.int .u8)) i d=c6 b->d=0/\((i=0/\b= .int .u8 j)\/(i=1/\b= .int .u8 g)):=λi d b c=>by
   obtain⟨k,a,r⟩:=gw c
   match i,a with
   |0,a=>
    injection a with a
    subst a
    match d,r with
    |0,_=>injection c with c;exact⟨rfl,.inl ⟨rfl,c.symm⟩⟩
   |1,a=>
    injection a with a
    subst a
    match d,r with
    |0,_=>injection c with c;exact⟨rfl,.inr ⟨rfl,c.symm⟩⟩
  have p:∀(i d:Nat) (b:PV),cellOf ([j,g].map (PV.int .u8)) i d=c6 b->m.cell? ⟨l,f+e*2+(i*1+d),c7⟩=c6 (u2 (e*2+i) 0)/\(u2 (e*2+i) 0).oneCell'=true/\VI q m b (u2 (e*2+i) 0):=λi d b c=>by
   obtain⟨rfl,⟨rfl,rfl⟩ |⟨rfl,rfl⟩⟩:=C i d b c
   ·have:=u _ _ v;refine⟨?_,s _ _ _ this,t _ _ _ this⟩
    have k:=y _ _ _ this;rw[show f+e*2+(0*1+0)=f+(e*2*1+0) by omega];exact k
   ·have:=u _ _ D;refine⟨?_,s _ _ _ this,t _ _ _ this⟩
    have k:=y _ _ _ this;rw[show f+e*2+(1*1+0)=f+((e*2+1)*1+0) by omega];exact k
  refine .vs 1 ([j,g].map (PV.int .u8)) l (f+e*2) 2 (λi _=>u2 (e*2+i) 0) (d6 _) A (λi k a=>?_) (λi d b c=>(p i d b c).1) (λi d b c=>(p i d b c).2.1) (λi d b c=>(p i d b c).2.2)
  match i,a with
  |0,a=>injection a with a;subst a;rfl
  |1,a=>injection a with a;subst a;rfl
def ccd:Code->Code | .cond _ b _=>b |a=>a
noncomputable def Yr:Code:=iq (iq sk)
noncomputable def r12:Code:=iq (ccd (eM (iq sk)))
noncomputable def r13:Code:=iq (eM sk)
noncomputable def jA:List Oper:=tS Yr
noncomputable def kE:List Oper:=tS r12
noncomputable def pj:List Oper:=tS r13
theorem ahb:xl= .seq (.seq DQ Dj) sk:=by kernel_rfl
theorem alU:sk= .seq (.seq (.region 11 jA.toArray false) (.cond (.tmp 61) (.seq (.region 12 kE.toArray false) .ret) .skip)) (.seq (.region 13 pj.toArray false) .ret):=by kernel_rfl
def tE:En BT.D:=[(4,.ptr 2 1 0 0),(2,.ptr 1 1 0 0)]
def iT(c:fa)(b a d:Int)(e:List Int):Nat->List (Ob BT.D)
 |0=>fO 2 c b a d .bg []
 |_+1=>fO 2 c b a d (.fl 3 1) [⟨1,1,.rows 3 e⟩]
theorem aaX(f:Lp)(e:fa)(c b d:Int):ops BT d0 (iV f) [] jA (λ_ a=>c6 (a.H,lk a.E 61,lk a.E 4,lk a.E 2)) 0 jA [] ⟨tE,fO 2 e c b d .bg []⟩=(lQ f (aT.mk c b d [])).bind λv=>c6 (fO 2 e c b d .bg [],.bool (!v),.ptr 2 1 0 0,.ptr 1 1 0 0):=by kernel_rfl
theorem YK(g:Lp)(f:fa)(c b e:Int)(d:List Int):ops BT d0 (iV g) [] jA (λ_ a=>c6 (a.H,lk a.E 61,lk a.E 4,lk a.E 2)) 0 jA [] ⟨tE,fO 2 f c b e (.fl 3 1) [⟨1,1,.rows 3 d⟩]⟩=(lQ g (aT.mk c b e d)).bind λv=>c6 (fO 2 f c b e (.fl 3 1) [⟨1,1,.rows 3 d⟩],.bool (!v),.ptr 2 1 0 0,.ptr 1 1 0 0):=by kernel_rfl
noncomputable def fin(a:Lp)(b:St BT.D):Option (bi BT.D (kq a).az.bX):=nh BT d0 b 0 [.cell 2 101,.tmp 3] [] λc=>take BT 0 (kq a).az ⟨c,b.H⟩ c6
theorem aiP(a:Lp)(e:fa)(d c f:Int):ops BT d0 (iV a) [] kE (λ_ b=>fin a b) 0 kE [] ⟨tE,fO 2 e d c f .bg []⟩=c6 (aT.mk 0 0 0 [],(6:Int)):=by kernel_rfl
theorem agF(a:Lp)(e:fa)(d c g:Int)(f:List Int):ops BT d0 (iV a) [] kE (λ_ b=>fin a b) 0 kE [] ⟨tE,fO 2 e d c g (.fl 3 1) [⟨1,1,.rows 3 f⟩]⟩=c6 (aT.mk 0 0 0 [],(6:Int)):=by kernel_rfl
theorem alr(c:Lp)(f:fa)(b a d:Int):ops BT d0 (iV c) [] pj (λ_ e=>fin c e) 0 pj [] ⟨tE,fO 2 f b a d .bg []⟩=c6 (aT.mk b a d [],(0:Int)):=by kernel_rfl
theorem ajs(d:Lp)(g:fa)(b a e:Int)(c:List Int):ops BT d0 (iV d) [] pj (λ_ f=>fin d f) 0 pj [] ⟨tE,fO 2 g b a e (.fl 3 1) [⟨1,1,.rows 3 c⟩]⟩=c6 (aT.mk b a e c,(0:Int)):=by kernel_rfl
theorem Ou{q:Nat}(e:q≠4)(c:q≠2):(lk tE q:TV BT.D)= .any:=by
 have d:e4 4 q=false:=by cases a:e4 4 q with |false=>rfl |true=>exact absurd (beq_eq a).symm e
 have b:e4 2 q=false:=by cases a:e4 2 q with |false=>rfl |true=>exact absurd (beq_eq a).symm c
 simp only[tE,lk,d,b,cond_false]
theorem Tr(a:fa):∀b,b∈(aY BT ⟨1,1,.box 97 [.int .i64 a.kO,.int .i64 a.Kind,.row 5 a.Data]⟩).es->cE 0 b:=λb c=>by
 have c:b∈[PV.agg [.int .i64 a.kO,.int .i64 a.Kind,.vs (BT.sz 5) (hP (BT.ty 5).enc a.Data)]]:=c;rw[ea] at c;subst c;refine .agg _ λe d=>?_
 simp only[f6,ga,or_false] at d;rcases d with rfl |rfl |rfl
 ·exact .int _ _
 ·exact .int _ _
 ·exact .vs _ _
theorem Qw:∀a,a∈(aY BT ⟨1,1,.box 101 [.int .i64 0,.int .i64 0,.int .i64 0,.bg]⟩).es->cE 0 a:=λa b=>by
 have b:a∈[PV.agg [.int .i64 0,.int .i64 0,.int .i64 0,.bg]]:=b;rw[ea] at b;subst b;refine .agg _ λd c=>?_
 simp only[f6,ga,or_false] at c;rcases c with rfl |rfl |rfl |rfl
 ·exact .int _ _
 ·exact .int _ _
 ·exact .int _ _
 ·exact .bg
theorem amN(d c f:Int):∀a,a∈(aY BT ⟨2,1,.box 101 [.int .i64 d,.int .i64 c,.int .i64 f,.bg]⟩).es->cE 0 a:=λa b=>by
 have b:a∈[PV.agg [.int .i64 d,.int .i64 c,.int .i64 f,.bg]]:=b;rw[ea] at b;subst b;refine .agg _ λg e=>?_
 simp only[f6,ga,or_false] at e;rcases e with rfl |rfl |rfl |rfl
 ·exact .int _ _
 ·exact .int _ _
 ·exact .int _ _
 ·exact .bg
theorem akj{g:Gh}{h:World}{a:fa}{b c e:Int}{d:List Int}{f:List (Ob BT.D)}{q v l o:Nat}{k:List (Ob BT.D)}(w:f=fO l a b c e (.fl q v) k)(n:nth f q=c6 ⟨o,v,.rows 3 d⟩)(p:3<=q)(u:bF g (av BT f) h)(m:Nat):
 ∃j,bF j (av BT (iT a b c e d (m+1))) h/\Bml.GStep 3 g (av BT f) h j (av BT (iT a b c e d (m+1))) h:=by
 subst w;have r:∀i,i∈d.map (BT.ty 3).enc->cE 0 i:=λi s=>by
  obtain⟨z,_,rfl⟩:=g7.1 s;exact dM.lt 3 z
 exact Yy (H:=av BT (fO l a b c e (.fl q v) k)) (A0:=aY BT ⟨1,1,.box 97 [.int .i64 a.kO,.int .i64 a.Kind,.row 5 a.Data]⟩) (A1:=aY BT ⟨1,1,.box 101 [.int .i64 0,.int .i64 0,.int .i64 0,.bg]⟩) (t:=101) (c0:=.int .i64 b) (c1:=.int .i64 c) (c2:=.int .i64 e) (tr:=3) (sz:=BT.sz 3) (es:=d.map (BT.ty 3).enc) rfl rfl rfl (df n) p (Tr a) Qw r ⟨.int _ _,.int _ _,.int _ _⟩ u
theorem GS{g:Gh}{h:List aO}{e:World}(l:bF g h e){r t:Nat}{c:PV}(m:h[r]? =c6 ⟨t,1,[.agg [c]],1⟩)(n:cE 0 c):∃b f a,g.β r=c6 (b,f)/\e.cell? ⟨b,0,c7⟩=c6 a/\VI g.F e c a:=by
 have q:=l.obj r _ m;have d:=q.mem;cases i:g.β r with
 |none=>rw[i] at d;cases d
 |some p=>
  obtain⟨b,f⟩:=p;rw[i] at d;obtain⟨_,cells,s,_,_,_,o⟩:=d;obtain⟨a,j,_,k⟩:=o 0 0 c rfl;refine⟨b,f,a,rfl,?_,k.dH n⟩
  rw[oe s];exact j
theorem JR{d:Program}{c:Sem Value}{b:World}{g:Deferred}{e:World}:(do let h<-c;pure (Next.value h):Sem Next).run d b≠ .ok (.defer g) e:=by
 simp only[dT];cases i:c.run d b with
 |ok v f=>intro a;simp[gx] at a
 |halt j f=>intro a;simp[gx] at a
theorem abg{d:Program}{c:Sem Unit}{b:World}{g:Deferred}{e:World}:(do c;pure Next.skip:Sem Next).run d b≠ .ok (.defer g) e:=by
 simp only[dT];cases h:c.run d b with
 |ok v f=>intro a;simp[gx] at a
 |halt i f=>intro a;simp[gx] at a
def JH(a:Oper):Bool:=match a.op with | .move _ | .assign _ | .load _ _ | .store _ _ _ | .unOp _ _ _ | .build _ _=>true | .call b=>(match b.callee with | .value (.func 78)=>true |_=>false) |_=>false
theorem ajK{e:Oper}(c:JH e=true):pK d0 e:=by
 intro d m p j a;obtain⟨l,h,k,n,q,gd⟩:=e;cases h with
 |move g=>cases a
 |assign g=>cases a
 |load i d=>exact JR a
 |store i d g=>exact abg a
 |unOp d b f=>exact JR a
 |build d b=>exact JR a
 |call f=>
  obtain⟨callee,args,o⟩:=f;unfold JH at c;dsimp only at c
  split at c
  ·simp only[execOp,resolve,Deferred.ofValue,Act.eval,dT,ez,dd,invoke] at a;rw[pA Tryz.func78 rfl rfl] at a;cases a
  ·cases c
 |_=>cases c
theorem IT:∀b:List Oper,b.all JH=true->∀a,a∈b->pK d0 a:=λb c a d=>ajK (List.all_eq_true.1 c a d)
theorem agI:∀a,a∈jA->pK d0 a:=IT _ rfl
theorem alv:∀a,a∈kE->pK d0 a:=IT _ rfl
theorem aqI:∀a,a∈pj->pK d0 a:=IT _ rfl
theorem aoq{f:Lp}(C:∀P,P∈iV f->FT P){x:fa}{a b c:Int}{e:List Int}{v:Bool}{r:aT×Int}{N:Nat}(A:lQ f (aT.mk a b c e)=c6 v)(k:r=bif (!v) then(aT.mk 0 0 0 [],6) else(aT.mk a b c e,0))(h0:N=0->e=[])
 {g:Gh} {ac:Act} {w:World} {d:List Deferred} {M:Exit->Act->World->Prop} (ad:Rel g 64 (aU BT tE) (av BT (iT x a b c e N)) ac w)
 (S:∀p K u J,fin f p=c6 r->Rel J 64 (aU BT p.E) (av BT p.H) K u->Bml.GStep 3 g (av BT (iT x a b c e N)) w J (av BT p.H) u->M .ret (ji d K) u):sk.wp d0 M (ji d ac) w:=by
 rw[alU];have aa:ops BT d0 (iV f) [] jA (λ_ j=>c6 (j.H,lk j.E 61,lk j.E 4,lk j.E 2)) 0 jA [] ⟨tE,iT x a b c e N⟩=c6 (iT x a b c e N,.bool (!v),.ptr 2 1 0 0,.ptr 1 1 0 0):=by
  cases N with
  |zero=>
   rw[h0 rfl] at A;refine(aaX f x a b c).trans ?_
   rw[A]
   rfl
  |succ N=>
   refine(YK f x a b c e).trans ?_
   rw[A]
   rfl
 have ae:ops BT d0 (iV f) [] kE (λ_ j=>fin f j) 0 kE [] ⟨tE,iT x a b c e N⟩=c6 (aT.mk 0 0 0 [],(6:Int)):=by
  cases N with
  |zero=>exact aiP f x a b c
  |succ N=>exact agF f x a b c e
 have V:ops BT d0 (iV f) [] pj (λ_ j=>fin f j) 0 pj [] ⟨tE,iT x a b c e N⟩=c6 (aT.mk a b c e,(0:Int)):=by
  cases N with
  |zero=>rw[h0 rfl];exact alr f x a b c
  |succ N=>exact ajs f x a b c e
 have Y:∀i,i∈jA->fL 64 i.dst=true:=mL _ rfl;have ag:∀i,i∈kE->fL 64 i.dst=true:=mL _ rfl;have T:∀i,i∈pj->fL 64 i.dst=true:=mL _ rfl;refine wp_seq (wp_seq (Hv (m:=3) dM C ad aa Y agI λs o O ab l n D=>?_))
 injection l with l
 have Q:s.H=iT x a b c e N:=congrArg (·.1) l;have W:lk s.E 61= .bool (!v):=congrArg (·.2.1) l;have X:lk s.E 4= .ptr 2 1 0 0:=congrArg (·.2.2.1) l;have Z:lk s.E 2= .ptr 1 1 0 0:=congrArg (·.2.2.2) l;have I:Rel ab 64 (aU BT tE) (av BT (iT x a b c e N)) o O:=by
  rw[Q] at n;refine⟨n.m,n.e.defers,n.e.size,λq=>?_⟩
  rw[ep];have h:=n.e.at_ q;rw[ep] at h
  by_cases L:q=4
  ·subst L;rw[X] at h;exact h
  by_cases R:q=2
  ·subst R;rw[Z] at h;exact h
  rw[Ou L R];exact .aW (.any _)
 rw[Q] at D;have af:(ji d o).eval (.tmp 61)= .bool (!v):=by
  have h:=n.e.at_ 61;rw[ep,W] at h;show o.tmps.getD 61 undef=_
  generalize o.tmps.getD 61 undef=z at h;cases h with |aW U=>cases U;rfl
 refine wp_cond af ?_
 cases v with
 |false=>
  have k:r=(aT.mk 0 0 0 [],(6:Int)):=k;show((Code.seq (.region 12 kE.toArray false) .ret).wp d0 _ (ji d o) O)
  refine wp_seq (Hv (m:=3) dM C I ae ag alv λE G H y F B t=>?_)
  exact wp_ret (S E G H y (by rw[k];exact F) B (D.trans t))
 |true=>
  have k:r=(aT.mk a b c e,(0:Int)):=k;refine wp_skip ?_
  refine wp_seq (Hv (m:=3) dM C I V T aqI λE G H y F B t=>?_)
  exact wp_ret (S E G H y (by rw[k];exact F) B (D.trans t))
theorem Ky{h:Lp}:∀{d:List (List Int)} {c b:List Int},gW h d c=c6 b->b.length=c.length+d.length/\(d≠[]->b.length*8<=140737488355328)
 |[],c,b,a=>by
  have a:c6 c=c6 b:=a;injection a with a
  subst a;exact⟨rfl,λa=>absurd rfl a⟩
 |k::d,c,b,a=>by
  have a:((jQ h k).bind λg=>(bj 8 c [c3 c4 g]).bind λb=>gW h d b)=c6 b:=a;obtain⟨g,_,a⟩:=fK a;obtain⟨m,e,a⟩:=fK a;obtain⟨i,j⟩:=Ky a;unfold bj at e
  split at e
  ·rename_i f;injection e with e
   subst e;have l:(c++[c3 c4 g]).length=c.length+1:=by simp
   rw[l] at i;have f:(c.length+1)*8<=140737488355328:=f;refine⟨by rw[i,List.length_cons];omega,λ_=>?_⟩
   cases d with
   |nil=>rw[i];exact f
   |cons _ _=>exact j (by simp)
  ·cases e
theorem Yb(l:Lp)(b4:FT (C5 l))(ca:FT (JX l))(bJ:FT (Ks l))(cd:FT (H7 l)):FT (kq l):=by
 have aN:∀c,c∈iV l->FT c:=λc O=>by
  simp only[iV,f6,ga,or_false] at O;rcases O with rfl |rfl |rfl |rfl
  ·exact b4
  ·exact ca
  ·exact bJ
  ·exact cd
 refine⟨pA Tryz.func34 LH rfl,λx r aS g w args cf bD a1=>?_⟩
 have cD:args.length=1:=cf;have aS:tU l c6 (rA l) x=c6 r:=aS;have b0:=Ot (nt:=64) bD (by omega) a1;refine(callsIn_wide (n:=10)).1 (callsIn_of_wp_marks Tryz.func34 LH trivial ?_ rfl)
 obtain⟨z,bR,a8⟩:∃z,AS l BT d0 (iV l) 0 D2 (PT l) (cz BT (kq l).par x)=c6 z/\(z=Sum.inl r\/∃a h e d k,z=hM (sO 2 x d a h e k .bg [],.fn 139 [] [.ptr 3 1 0 0,.ptr 4 1 0 0],.ptr 2 1 0 0,.ptr 1 1 0 0)/\rA l a h e d k=c6 r):=by
  rcases aoS (i:=Sum.inl) (V:=λa h e d k=>c6 (hM (sO 2 x d a h e k .bg [],TV.fn 139 [] [.ptr 3 1 0 0,.ptr 4 1 0 0],TV.ptr 2 1 0 0,TV.ptr 1 1 0 0))) aS with o |⟨a,h,e,d,k,C,E⟩
  ·exact⟨_,(SR l x).trans o,.inl rfl⟩
  ·exact⟨_,(SR l x).trans C,.inr ⟨a,h,e,d,k,rfl,E⟩⟩
 have bm:∀(M:St BT.D) (ab:Gh) (Q:Act) (K:World),fin l M=c6 r->Rel ab 64 (aU BT M.E) (av BT M.H) Q K->Bml.GStep 0 g (av BT (cz BT (kq l).par x).H) w ab (av BT M.H) K->
  ∃v,(results Tryz.f34 Q.tmps).run d0 K= .ok v K/\∃bt Y,Ending.returned v= .returned bt/\bF Y (av BT (cz BT (kq l).az r).H) K/\Bml.GStep 0 g (av BT (cz BT (kq l).par x).H) w Y (av BT (cz BT (kq l).az r).H) K/\VR Y (av BT (cz BT (kq l).az r).H) K (pv BT (kR (cz BT (kq l).az r).E)) bt:=λM ab Q K C E af=>by
  obtain⟨v,aj,X,B,aQ,aE⟩:=Xn (c:=kq l) (fn:=Tryz.f34) (rs:=[.cell 2 101,.tmp 3]) dM rfl rfl C E;exact⟨v,X,v,aj,rfl,B,af.trans aQ,aE⟩
 refine Pu mixed dM aN D2 _ bR rfl (dv _) g _ w b0 (λa3 Y aa w' J ct bB aG=>?_) (λI aa w' b7 ap=>?_)
 rotate_left
 ·
  cases I with
  |ret=>
   obtain⟨cI,H1,ab,⟨M,aB,rfl,rfl⟩,bv,aT⟩:=ap;have aB:(fin l M).bind (λao=>c6 (Sum.inl ao))=c6 z:=aB;obtain⟨ao,be,ag⟩:=fK aB;injection ag with ag
   have b8:ao=r:=by
    rcases a8 with o |⟨a,h,e,d,k,o,_⟩
    ·rw[o] at ag;injection ag
    ·rw[o] at ag;cases ag
   rw[b8] at be;show LeavesInM _ _ _ _ _ _ aa.defers .returning w'
   rw[bv.e.defers];exact bm M ab aa w' be bv aT
  |normal=>exact absurd rfl b7
  |exit cF=>obtain⟨_,_,_,⟨_,aB,_⟩,_⟩:=ap;cases aB
  |goto _=>obtain⟨_,_,_,J,_⟩:=ap;exact J.elim
  |panic _=>exact ap.elim
  |outgrown=>exact ap.elim
 ·have J:exec l BT d0 (iV l) 0 [] DQ 1 (λI U=>bif e4 I 0 then c6 (hM (U.H,lk U.E 49,lk U.E 4,lk U.E 2)) else c7) a3=c6 z:=J;rw[ahb];refine wpIn_seq (wpIn_seq (wpIn_wide.2 (gO mixed dM aN DQ 1 _ _ _ J (by kernel_rfl) ct Y aa w' bB _ λI H u ah=>?_)))
  cases I with
  |normal=>
   obtain⟨_,_,aj,⟨T,_,F,rfl,rfl⟩,ak,bc⟩:=ah;have F:c6 (hM (T.H,lk T.E 49,lk T.E 4,lk T.E 2))=c6 z:=F;injection F with F
   obtain⟨a,h,e,d,k,bI,bW⟩:∃a h e d k,z=hM (sO 2 x d a h e k .bg [],.fn 139 [] [.ptr 3 1 0 0,.ptr 4 1 0 0],.ptr 2 1 0 0,.ptr 1 1 0 0)/\rA l a h e d k=c6 r:=by
    rcases a8 with o |o
    ·rw[o] at F;cases F
    ·exact o
   rw[bI] at F;injection F with F
   have aK:T.H=sO 2 x d a h e k .bg []:=congrArg (·.1) F;have ci:lk T.E 49= .fn 139 [] [.ptr 3 1 0 0,.ptr 4 1 0 0]:=congrArg (·.2.1) F;have aq:lk T.E 4= .ptr 2 1 0 0:=congrArg (·.2.2.1) F;have E:lk T.E 2= .ptr 1 1 0 0:=congrArg (·.2.2.2) F;obtain⟨bX,N,cp,v,zP,aM,bE,b6⟩:=W4 bW;subst bX;obtain⟨a2,bZ⟩:=Su d N zP;have bq:=ak.e.defers;have a5:=ak.e.size;have R:=ak.m;rw[aK] at R bc;obtain⟨aJ,C3,u3,bo,b5,az⟩:=GS (r:=3) (t:=95) (c:=.vs (BT.sz 5) (d.map (BT.ty 5).enc)) R rfl (.vs _ _);obtain⟨al,C4,u4,bf,cr,cu⟩:=GS (r:=4) (t:=3) (c:=.int .i64 2) R rfl (.int _ _);cases cu
   have az:VI aj.F u (.vs 1 (d.map (PV.int .u8))) u3:=az;obtain⟨S,aA,aD,cap,rfl,cw,br⟩:∃S aA aD cap,u3= .slice S (N*2) cap/\N*2<=cap/\(0<N->S=c6 ⟨aA,aD,c7⟩):=by
    have ai:(d.map (PV.int .u8)).length=N*2:=by rw[f2];exact zP
    generalize d.map (PV.int .u8)=cy at az ai;cases az with
    |eX _ S cap=>exact⟨S,0,0,cap,by rw[<-ai];rfl,by rw[<-ai];exact dv _,λo=>by simp at ai;omega⟩
    |vs _ _ bz ce cap u2 ah cx a5 cC cG cJ=>exact⟨_,bz,ce,cap,by rw[<-ai],by rw[<-ai];exact ah,λ_=>rfl⟩
   obtain⟨ad,W⟩:=ah7 (A0:=aY BT ⟨1,1,.box 97 [.int .i64 x.kO,.int .i64 x.Kind,.row 5 x.Data]⟩) (A1:=aY BT ⟨1,1,.box 101 [.int .i64 0,.int .i64 0,.int .i64 0,.bg]⟩) (A2:=aY BT ⟨2,1,.box 101 [.int .i64 a,.int .i64 h,.int .i64 e,.bg]⟩) (Tr x) Qw (amN a h e) R;generalize bn:(dj aj EO λr=>r=3\/r=4)=P at ad W;have cm:P.F aJ:=by rw[<-bn];exact .inr ⟨3,C3,.inl rfl,bo⟩
   have bL:P.F al:=by rw[<-bn];exact .inr ⟨4,C4,.inr rfl,bf⟩
   have ad:bF P (av BT (fO 2 x a h e .bg [])) u:=ad;have W:Bml.GStep 3 aj (av BT (sO 2 x d a h e 2 .bg [])) u P (av BT (fO 2 x a h e .bg [])) u:=W;have an:=ak.e.at_ 49;rw[ep,ci,aK] at an;have cj:H.eval (.tmp 49)= .func (.func 139) #[] #[.pointer (c6 ⟨aJ,0,c7⟩),.pointer (c6 ⟨al,0,c7⟩)]:=by
    show H.tmps.getD 49 undef=_
    generalize H.tmps.getD 49 undef=ao at an;have an:VR aj _ u (.fn 139 [] [.ptr 3 1 0 0,.ptr 4 1 0 0]) ao:=an;cases an with
    |aW o=>
     cases o with
     |fn _ _ _ cq vs C _ E B=>
      match vs,E with
      |[aH,aZ],_=>have:=B 0 _ aH rfl rfl;cases this
    |fn _ _ _ cq vs C _ E B=>
     obtain rfl:=f9 C.symm
     match vs,E with
     |[aH,aZ],_=>
      have ax:=B 0 _ aH rfl rfl;have Z:=B 1 _ aZ rfl rfl;have ax:aH= .pointer (c6 ⟨aJ,0,c7⟩):=by
       cases ax with
       |aW o=>cases o
       |ptr _ _ _ _ G S y a1 aR=>
        have y:c6 (⟨95,1,[.agg [.vs (BT.sz 5) (d.map (BT.ty 5).enc)]],1⟩:aO)=c6 G:=y;injection y with y
        subst y;obtain⟨_,b,bl,j,rfl⟩:=aR rfl;rw[bo] at j;injection j with j
        injection j with j
        rw[<-j]
        rfl
      have Z:aZ= .pointer (c6 ⟨al,0,c7⟩):=by
       cases Z with
       |aW o=>cases o
       |ptr _ _ _ _ G S y a1 aR=>
        have y:c6 (⟨3,1,[.agg [.int .i64 2]],1⟩:aO)=c6 G:=y;injection y with y
        subst y;obtain⟨_,b,bl,j,rfl⟩:=aR rfl;rw[bf] at j;injection j with j
        injection j with j
        rw[<-j]
        rfl
      rw[ax,Z]
   have ba:VR P (av BT (fO 2 x a h e .bg [])) u (.ptr 2 1 0 0) (H.tmps.getD 4 undef):=by
    have:=ak.e.at_ 4;rw[ep,aq,aK] at this;exact this.step W (.ptr 2 1 0 0 (by omega))
   have bS:VR P (av BT (fO 2 x a h e .bg [])) u (.ptr 1 1 0 0) (H.tmps.getD 2 undef):=by
    have:=ak.e.at_ 2;rw[ep,E,aK] at this;exact this.step W (.ptr 1 1 0 0 (by omega))
   have bT:N*2<=140737488355328:=by
    obtain⟨X,B⟩:=Ky aM
    by_cases h0:lj d=[]
    ·rw[h0] at a2;simp at a2;omega
    ·have:=B h0;simp at X;omega
   rw[Yw];refine wpIn_block (Pq (n:=10) (a:=H) (w:=u) cj (pA Tryz.func139 rfl rfl) (aew 9 (by omega) aJ 0 al 0 aA aD cap N S bT cw br) rfl
    (λk D=>∃g s,gW l ((lj d).take k) []=c6 s/\jV 3 BT P (av BT (fO 2 x a h e .bg [])) u D g (iT x a h e s k))
    (λk D o=> ?rd) (λk D r o' o y O=> ?put) (λk D a6 o cA b2=> ?below) (λau=> ?start)
    (λk v Q D=>∃(c s:List Int) (g:Gh),(lj d)[k]? =c6 c/\gW l ((lj d).take k) []=c6 s/\jV 3 BT P (av BT (fO 2 x a h e .bg [])) u D g (iT x a h e s k)/\fI g (av BT (iT x a h e s k)) D 64 (aU BT (ru c)) Q)
    (λk v Q D r o' o y O=> ?mput) (λco k v D cB aL A ch=> ?assign) (λco k v Q D aL A=> ?body) (λD A bY=> ?done))
   case rd=>
    obtain⟨g,s,_,o⟩:=o;exact⟨(oW o.st.jh cm).trans b5,(oW o.st.jh bL).trans cr⟩
   case put=>
    obtain⟨g,s,C,o⟩:=o;exact⟨g,s,C,o.lF (.inr rfl) y rfl O⟩
   case below=>
    obtain⟨g,s,C,o⟩:=o;exact⟨g,s,C,o.below b2⟩
   case start=>
    refine⟨P,[],rfl,?_⟩
    have cE:((u.alloc (.deferred (c6 []))).alloc (.loop au)).heap.size=u.heap.size+2:=by simp
    have aV:∀b,b<u.heap.size->((u.alloc (.deferred (c6 []))).alloc (.loop au)).heap[b]? =u.heap[b]? :=λb j=>(f8 _ _ b (by simp;omega)).trans (f8 _ _ b j)
    obtain⟨bQ,cb⟩:=GStep.lF (w':=(u.alloc (.deferred (c6 []))).alloc (.loop au)) (Bml.GStep.refl 3 P (av BT (fO 2 x a h e .bg [])) u) ad rfl rfl rfl (by omega) (λb j=>aV b (ad.fb b j)) (λr b bl j=>aV b (ad.qD j)) aV;refine⟨cb,bQ,by omega,λb j=>⟨λbC=>?_,?_⟩⟩
    ·have:=ad.fb b bC;omega
    ·rcases j with rfl |rfl
     ·exact⟨.deferred (c6 []),(f8 (u.alloc (.deferred (c6 []))) _ u.heap.size (by simp)).trans (g0 u _),rfl⟩
     ·refine⟨.loop au,?_,rfl⟩
      have:=g0 (u.alloc (.deferred (c6 []))) (.loop au)
      rwa [World.size_alloc] at this
   case mput=>
    obtain⟨c,s,g,C,E,af,aq⟩:=o;have aI:=af.lF (o':=o') (.inr rfl) y rfl O;refine⟨c,s,g,C,E,aI,aq.defers,aq.size,λq=>?_⟩
    have aw:=aq.at_ q;exact VR.uz (f:=λr v=>∃G,(av BT (iT x a h e s k))[r]? =c6 G/\v<=G.aF) (λ_ j=>j) (λb j=>World.putObj_heap_other (λI=>by subst I;exact(af.nF _ (.inr rfl)).1 j)) (λr v G _ y aP=>⟨G,y,aP,λI=>⟨I,rfl,rfl,rfl⟩⟩) aw aw.wf
   case assign=>
    obtain⟨ar,s,L,A⟩:=A;have J:k<N:=by
     have:=(d5.1 aL).1;simpa using this
    obtain⟨ae,am,O,cn,ck⟩:=bZ k J;have bV:Value.slice (c6 ⟨aA,aD+k*2,c7⟩) 2 2=v:=by
     rw[ft,List.getElem?_range J] at aL;injection aL
    have bH:VI ar.F D (.vs 1 ([ae,am].map (PV.int .u8))) v:=by
     rw[<-bV];exact((amL cn ck az (br (by omega))).mono W.F W.jh).mono A.st.F A.st.jh
    have cl:((#[50]:Array Nat).zip #[v]).foldl (λt (p,v)=>t.setIfInBounds p v) H.tmps=H.tmps.setIfInBounds 50 v:=by simp
    rw[cl];have cc:fI ar (av BT (iT x a h e s k)) D 64 (aU BT (sD [ae,am])) {tmps:=H.tmps.setIfInBounds 50 v,defers:=[]}:=by
     refine⟨rfl,by simp;exact a5,λq=>?_⟩
     rw[ep]
     by_cases bs:q=50
     ·subst bs;have Z:(H.tmps.setIfInBounds 50 v).getD 50 undef=v:=by
       rw[ee,eo (by omega)]
       rfl
      rw[Z];exact .aW bH
     ·by_cases bw:q=4
      ·subst bw;have Z:(H.tmps.setIfInBounds 50 v).getD 4 undef=H.tmps.getD 4 undef:=by
        rw[ee,ee,Array.getElem?_setIfInBounds_ne (by omega)]
       rw[Z];exact ba.step A.st (.ptr 2 1 0 0 (by omega))
      ·have ax:(lk (sD [ae,am]) q:TV BT.D)= .any:=by
        have bU:e4 50 q=false:=by cases j:e4 50 q with |false=>rfl |true=>exact absurd (beq_eq j).symm bs
        have al:e4 4 q=false:=by cases j:e4 4 q with |false=>rfl |true=>exact absurd (beq_eq j).symm bw
        simp only[sD,lk,bU,al,cond_false]
       rw[ax];exact .aW (.any _)
    have aX:ops BT d0 [] [] sv (λ_ U=>c6 U) 0 sv [] ⟨sD [ae,am],iT x a h e s k⟩=c6 ⟨ru [ae,am],iT x a h e s k⟩:=by
     cases k with
     |zero=>exact rdA _ _ _ _ _ _
     |succ k=>exact aer _ _ _ _ _ _ _
    exact F5 dM (k:=c6) A cc aX (mL _ rfl) (u6 _ rfl) λa3 aa a6 Y a7 C E af=>by
     have a7:=Option.some.inj a7;subst a7;exact ch aa a6 C ⟨[ae,am],s,Y,O,L,E,af⟩
   case body=>
    obtain⟨c,s,ar,O,L,bk,bO⟩:=A;obtain⟨aC,bh,_⟩:=aiZ aM (k+1);obtain⟨m,bi,R⟩:=fK (Ue O L bh);have aX:∃ay q v bp bd a9,ops BT d0 (iV l) [] lv (λbK U=>bif m7 0 lv then bif n4 lv [] 0 (nf bK []) then c6 U.H else c7 else c7) 0 lv [] ⟨ru c,iT x a h e s k⟩=c6 ay/\ay=fO bp x a h e (.fl q v) a9/\nth ay q=c6 ⟨bd,v,.rows 3 aC⟩/\3<=q:=by
     cases k with
     |zero=>
      have h0:s=[]:=by injection L with L;exact L.symm
      rw[h0] at R;refine⟨_,4,1,3,1,[⟨1,1,.rows 3 [c3 c4 m]⟩,⟨1,1,.rows 3 aC⟩],?_,rfl,rfl,by omega⟩
      refine(ajg l x c a h e).trans ?_
      rw[bi,dt,R]
      rfl
     |succ k=>
      refine⟨_,3,2,3,2,[⟨2,2,.rows 3 aC⟩,⟨1,1,.rows 3 [c3 c4 m]⟩],?_,rfl,rfl,by omega⟩
      refine(ahg l x c a h e s).trans ?_
      rw[bi];show((bj 8 s [c3 c4 m]).bind _)=_
      rw[R]
      rfl
    obtain⟨ay,q,cH,bp,bd,a9,bA,cv,bM,bx⟩:=aX;refine wpIn_block (afv (m:=3) mixed dM aN ⟨bk.m,bO⟩ bA (mL _ rfl) (u6 _ rfl) λa3 aa a6 Y a4 cg aG=>?_)
    have a4:=Option.some.inj a4;have a0:=cg.m;rw[a4] at a0 aG;obtain⟨cs,bN,b9⟩:=akj cv bM bx a0 k;obtain⟨X,B⟩:=bk.next (H':=ay) a0 aG;obtain⟨aQ,_⟩:=X.next (H':=iT x a h e aC (k+1)) bN b9;exact⟨rfl,B,cs,aC,bh,aQ⟩
   case done=>
    have bP:((List.range N).map λk=>Value.slice (c6 ⟨aA,aD+k*2,c7⟩) 2 2).length=N:=by simp
    rw[bP] at A;obtain⟨ar,s,L,A⟩:=A;have b3:s=cp:=by
     rw[List.take_of_length_le (by omega),aM] at L;injection L with L
     exact L.symm
    subst b3;show Code.wpIn Fence.wide 10 d0 sk _ _ _
    rw[bq];refine wpIn_wide.2 (aoq (x:=x) (N:=N) (g:=ar) (ac:=H) (w:=D) (d:=[{target:=.collected u.heap.size,args:=#[]}]) aN bE b6 (λh0=>?_) ?_ λM Q K ab b1 aF aT=>?_)
    ·have:=(Ky aM).1;rw[a2,h0] at this;exact List.length_eq_zero_iff.1 (by simpa using this)
    ·refine⟨A.m,bq,a5,λq=>?_⟩
     rw[ep]
     by_cases aE:q=4
     ·subst aE;exact ba.step A.st (.ptr 2 1 0 0 (by omega))
     by_cases B:q=2
     ·subst B;exact bS.step A.st (.ptr 1 1 0 0 (by omega))
     rw[Ou aE B];exact .aW (.any _)
    ·obtain⟨X,B⟩:=A.next aF.m aT;have bb:K.heap[u.heap.size]? =c6 (.deferred (c6 [])):=B.2 _ _ bY rfl;have aI:=X.lF (o':=.deferred c7) (.inl rfl) bb rfl rfl;show LeavesInM _ _ _ _ _ _ [{target:=.collected u.heap.size,args:=#[]}] .returning K
     refine⟨by simp,.inl ⟨_,_,rfl,run_takeDeferred bb,?_⟩⟩
     refine bm M ab Q _ b1 ⟨aI.m,aF.e.defers,aF.e.size,λq=>?_⟩ (((aG.trans bc).trans (W.less (dv _))).trans (aI.st.less (dv _)))
     have aw:=aF.e.at_ q;exact VR.uz (f:=λr v=>∃G,(av BT M.H)[r]? =c6 G/\v<=G.aF) (λ_ j=>j) (λb j=>World.putObj_heap_other (λI=>by subst I;exact(X.nF _ (.inl rfl)).1 j)) (λr v G _ y aP=>⟨G,y,aP,λI=>⟨I,rfl,rfl,rfl⟩⟩) aw aw.wf
  |_=>first |exact ah.elim |(obtain⟨_,_,_,⟨_,_,J,_⟩,_⟩:=ah;cases J) |(obtain⟨_,_,_,J,_⟩:=ah;exact J.elim)
noncomputable def qJ:Code:=(Tryz.f239.body).getD .skip
noncomputable def tcl:Code:=eM (iq (eM (eM (eM qJ))))
def VB:Code->Code | .block _ (.loop b)=>b |a=>a
noncomputable def yZ:Code:=VB tcl
noncomputable def lJ(a:List ay)(i:Int)(b:TV BT.D):En BT.D:=[(4,b),(12,.row 140 a),(13,.int .i64 (a.length:Int)),(14,.int .i64 i)]
def tH(a:List ay)(b:List Int)(c:List aM):List (Ob BT.D):=[⟨1,1,.hole 140 a [.agg [.row 3 b,.fl 1 1]]⟩,⟨1,1,.rows 142 c⟩]
def HO:List (Nat×Hn):=[(458,⟨[],[(0,⟨[],[],[(32,.v 4)]⟩)],c7⟩),(7346,⟨[],[(4,⟨[(1,true,.rows 142 138)],[],[]⟩)],c6 ⟨[(1,true,.rows 142 138)],[],[(36,.v 3)]⟩⟩)]
def xJ(a:Lp):List (aq BT):=[IP a,Hy a,HG a]
noncomputable def tK:Nat->St BT.D->Option (Nat×List (Nat×Bd BT.D)×TV BT.D×TV BT.D×TV BT.D×TV BT.D):=λc a=>c6 (c,a.H.map (λb=>(b.aF,b.bd)),lk a.E 4,lk a.E 14,lk a.E 12,lk a.E 13)
noncomputable def bx(a:ay):Nat×Bd BT.D:=(1,.box 140 [.row 3 a.aw,.row 142 a.aH])
theorem tB0(b:Lp)(a:List ay)(i:Int):exec b BT d0 (xJ b) 0 HO yZ 1 tK ⟨lJ a i .bg,[]⟩=bif c5 (i<(a.length:Int)) then(aj a i).bind λd=>(mH b d).bind λc=>c6 (0,[bx d,(1,.rows 142 c.1),(1,.hole 140 [] [.agg [.row 3 c.2,.fl 1 1]]),(1,.hole 140 [] [.agg [.row 3 c.2,.fl 1 1]])],.fl 3 1,.int .i64 (c3 c4 (i+1)),.row 140 a,.int .i64 (a.length:Int)) else c6 (2,[],.bg,.int .i64 i,.row 140 a,.int .i64 (a.length:Int)):=by kernel_rfl
def mo(a:List ay){b:Type}(c:Option b):Option b:=bif c5 (c3 c4 (((a.length+1:Nat):Int) -1)=((a.length+0:Nat):Int)) then bif e4 (a.length+0) (a.length+0) then c else c7 else c7
def tL(g:Lp)(c:List ay)(d:ay)(a:List aM)(i:Int):Option ((List aM×Int)⊕List aM):=
 bif c5 (i<(d.aH.length:Int)) then
  mo c (mo c ((aj a i).bind λ_=>(a[i.toNat]?).bind λe=>(aj d.aH i).bind λb=>(xW g e b).bind λf=>(aj a i).bind λ_=>(a[i.toNat]?).bind λ_=>c6 (Sum.inl (a.set i.toNat f.1,c3 c4 (i+1)))))
 else c6 (hM a)
def Ik(a:List ay)(c:List Int)(b:List (TV BT.D)):Bd BT.D:=.hole 140 a (.agg [.row 3 c,.fl 1 1]::b)
theorem tB1(c:Lp)(a:List ay)(i:Int)(b:List ay)(e:List Int)(f:List aM):exec c BT d0 (xJ c) 0 HO yZ 1 tK ⟨lJ a i (.fl 0 1),tH b e f⟩=bif c5 (i<(a.length:Int)) then(aj a i).bind λd=>
 (bif c5 (0<((b.length+1:Nat):Int)) then mo b ((qG c e d.aw).bind λg=>c6 g) else c6 false).bind λg=>
 bif g then(c.loop (λj=>tL c b d j.1 j.2) (f,0)).bind λk=>c6 (0,[(1,Ik b e []),(1,.rows 142 k),bx d],.fl 0 1,.int .i64 (c3 c4 (i+1)),.row 140 a,.int .i64 (a.length:Int))
 else(mH c d).bind λh=>bif Nat.ble ((b.length+1+1)*48) 140737488355328 then c6 (0,[(2,Ik b e [.agg [.row 3 h.2,.fl 3 1]]),(1,.rows 142 f),bx d,(1,.rows 142 h.1),(1,.hole 140 [] [.agg [.row 3 h.2,.fl 3 1]])],.fl 0 2,.int .i64 (c3 c4 (i+1)),.row 140 a,.int .i64 (a.length:Int)) else c7
 else c6 (2,[(1,Ik b e []),(1,.rows 142 f)],.fl 0 1,.int .i64 i,.row 140 a,.int .i64 (a.length:Int)):=by kernel_rfl
def qi(p q:Nat):Nat->Option Nat
 |0=>c6 p
 |1=>c6 q
 |_=>c7
theorem Dl{p q i r:Nat}(a:qi p q i=c6 r):(i=0/\r=p)\/(i=1/\r=q):=by
 match i,a with
 |0,a=>injection a with a;exact .inl ⟨rfl,a.symm⟩
 |1,a=>injection a with a;exact .inr ⟨rfl,a.symm⟩
theorem NR{a e:List PV}{i c:Nat}{d:PV}(b:cellOf (a++e) i c=c6 d):(i<a.length/\cellOf a i c=c6 d)\/(a.length<=i/\cellOf e (i -a.length) c=c6 d):=by
 unfold cellOf at b⊢
 by_cases f:i<a.length
 ·rw[e0 f] at b;exact .inl ⟨f,b⟩
 ·rw[d8 (by omega)] at b;exact .inr ⟨by omega,b⟩
theorem SW{b e:List PV}{i c:Nat}{d:PV}(a:cellOf b i c=c6 d):cellOf (b++e) i c=c6 d:=by
 unfold cellOf at a⊢
 by_cases f:i<b.length
 ·rw[e0 f];exact a
 ·rw[fe (by omega)] at a;cases a
theorem BZ{l m:List PV}{i j:Nat}{b:PV}(a:cellOf m i j=c6 b):cellOf (l++m) (l.length+i) j=c6 b:=by
 unfold cellOf at a⊢;rw[d8 (by omega),Nat.add_sub_cancel_left];exact a
theorem ajr{g:Gh}{C:World}{y:List (Ob BT.D)}{p v q s:Nat}{A:List aM}{u E2:List PV}{h:PV}{B:Nat->Prop}
 (V:(av BT y)[p]? =c6 ⟨140,2,u++[.agg [h,.fl q s]],v⟩) (E:(av BT y)[q]? =c6 ⟨142,2,A.map aM.enc,s⟩) (Z:p≠q) (J:¬B p/\¬B q) (S:cE 0 h) (N:E2.length=u.length) (P:∀o,o∈E2->o.cells.length=2)
 (D:∀i j t,cellOf E2 i j=c6 t->∃w,cellOf u i j=c6 w/\∀k,VR g (av BT y) C w k->VI (dj g (qi p q) B).F C t k) (I:bF g (av BT y) C):
 bF (dj g (qi p q) B) [⟨140,2,E2++[.agg [h,.fl 1 1]],1⟩,⟨142,2,A.map aM.enc,1⟩] C:=by
 refine bF.re I (λr d i F=>?_) (λi ab r d M=>?_) (λi r d=>?_) (λi K c=>?_)
 ·rcases Dl F with⟨_,rfl⟩ |⟨_,rfl⟩
  ·exact J.1 d
  ·exact J.2 d
 ·rcases Dl d with⟨H,b⟩ |⟨H,b⟩ <;> rcases Dl M with⟨w,R⟩ |⟨w,R⟩ <;> omega
 ·show i<2
  rcases Dl d with⟨H,b⟩ |⟨H,b⟩ <;> omega
 ·match i,c with
  |0,c=>
   have c:c6 (⟨140,2,E2++[.agg [h,.fl 1 1]],1⟩:aO)=c6 K:=c;injection c with c
   subst c;refine⟨by show 0<2;omega,λi o a=>?_,(λd=>by cases d),λr f=>?_⟩
   ·have a:o∈E2++[.agg [h,.fl 1 1]]:=ec a;rcases hu.1 a with a |a
    ·exact P o a
    ·rw[ea] at a;subst a;rfl
   ·have f:c6 p=c6 r:=f;injection f with f
    subst f;refine⟨_,V,rfl,rfl,by simp[N],λi j t X=>?_⟩
    rcases NR X with⟨_,e⟩ |⟨h0,e⟩
    ·obtain⟨w,U,W⟩:=D i j t e;exact⟨w,SW U,λk n=>.aW (W k n)⟩
    ·obtain⟨o,a,O⟩:=gw e;have Q:i -E2.length=0:=by
      have:=(d5.1 a).1;simpa using this
     rw[Q] at e a;injection a with a
     subst a;have F:i=u.length+0:=by omega
     rw[F]
     match j,O with
     |0,_=>
      injection e with e
      subst e;exact⟨h,BZ (l:=u) (m:=[.agg [h,.fl q s]]) (i:=0) (j:=0) rfl,λk n=>.aW ((n.dH S).mono (λ_ G=>.inl G) λ_ _=>rfl)⟩
     |1,_=>
      injection e with e
      subst e;refine⟨.fl q s,BZ (l:=u) (m:=[.agg [h,.fl q s]]) (i:=0) (j:=1) rfl,λk n=>?_⟩
      cases n with
      |aW d=>cases d
      |fl _ _ aa _ x Y e n=>
       rw[E] at x;injection x with x
       subst x;refine .fl 1 1 ⟨142,2,A.map aM.enc,1⟩ k rfl (d6 _) e λ_=>?_
       have:=n rfl;unfold SL at this⊢;exact this
  |1,c=>
   have c:c6 (⟨142,2,A.map aM.enc,1⟩:aO)=c6 K:=c;injection c with c
   subst c;have L:=I.obj q _ E;refine⟨L.pos,L.width,(λd=>by cases d),λr f=>?_⟩
   have f:c6 q=c6 r:=f;injection f with f
   subst f;refine⟨_,E,rfl,rfl,rfl,λi j t D=>⟨t,D,λs T=>?_⟩⟩
   exact .aW ((T.dH (nR (λo a=>by
    obtain⟨z,_,rfl⟩:=g7.1 a;exact dM.lt 142 z) D)).mono (λ_ G=>.inl G) λ_ _=>rfl)
def nj(b:Nat)(f:Env)(c:List aO)(h:Env)(H0:List aO):Prop:=∀g d a,Rel g b f c d a->∃e,Rel e b h H0 d a/\Bml.GStep 0 g c a e H0 a
theorem sS{d:Program}{a:Nat}{i f:Env}{b H0:List aO}{j:Code}{e:fE}(m:nj a i b f H0)(v:eT d a 0 j e f H0):eT d a 0 j e i b:=λg c h p q u=>by
 obtain⟨l,k,n⟩:=m g c h p;exact v l c h k q λr s t o=>u r s t (eI.trans n o)
theorem xh(b:List (Ob BT.D)):av BT b=(b.map λa=>(a.aF,a.bd)).map λc=>aY BT ⟨0,c.1,c.2⟩:=by
 unfold av;rw[List.map_map];exact List.map_congr_left λa _=>by cases a;rfl
theorem amB{e:List ay}{i:Int}{h:TV BT.D}{q:Nat}(j:q≠4)(c:q≠12)(g:q≠13)(d:q≠14):lk (lJ e i h) q= .any:=by
 have b:∀a,q≠a->e4 a q=false:=λa k=>by cases f:e4 a q with |false=>rfl |true=>exact absurd (beq_eq f).symm k
 simp only[lJ,lk,b 4 j,b 12 c,b 13 g,b 14 d,cond_false]
structure vS (S:St BT.D) (sorted:List ay) (i:Int) (t:TV BT.D):Prop where
 s4:lk S.E 4=t
 YC:lk S.E 12= .row 140 sorted
 YD:lk S.E 13= .int .i64 (sorted.length:Int)
 YE:lk S.E 14= .int .i64 i
theorem P3{g e:Gh}{d:St BT.D}{o:Act}{c:World}{H0:List aO}{k:List ay}{i:Int}{p m:TV BT.D}(f:vS d k i p)(h:Rel g 73 (aU BT d.E) (av BT d.H) o c)(j:∀b,g.F b->e.F b)(u:bF e H0 c)
 (v:∀t,VR g (av BT d.H) c (pv BT p) t->VR e H0 c (pv BT m) t):Rel e 73 (aU BT (lJ k i m)) H0 o c:=by
 refine⟨u,h.e.defers,h.e.size,λq=>?_⟩
 rw[ep];have a:=h.e.at_ q;rw[ep] at a
 by_cases l:q=4
 ·subst l;rw[f.s4] at a;exact v _ a
 by_cases n:q=12
 ·subst n;rw[f.YC] at a;exact .aW ((a.dH (.vs _ _)).mono j λ_ _=>rfl)
 by_cases r:q=13
 ·subst r;rw[f.YD] at a;exact .aW ((a.dH (.int _ _)).mono j λ_ _=>rfl)
 by_cases s:q=14
 ·subst s;rw[f.YE] at a;exact .aW ((a.dH (.int _ _)).mono j λ_ _=>rfl)
 rw[amB l n r s];exact .aW (.any _)
theorem alW{c:St BT.D}{d:List ay}{i:Int}(j:vS c d i .bg):nj 73 (aU BT c.E) (av BT c.H) (aU BT (lJ d i .bg)) (av BT []):=λg m l b=>by
 refine⟨dj g (λ_=>c7) (λ_=>False),P3 j b (λ_ a=>.inl a) ?_ (λo h=>.aW ((h.dH .bg).mono (λ_ a=>.inl a) λ_ _=>rfl)),GStep.re λr n b=>absurd b (by omega)⟩
 exact bF.re b.m (λ_ a=>a.elim) (λi k r a=>by cases a) (λi r a=>by cases a) (λi f e=>by
  have:(([]:List aO))[i]? =c6 f:=e;simp at this)
theorem H5{a:St BT.D}{s:List ay}{i:Int}{p v q u:Nat}{xs:List ay}{c:List Int}{l:List aM}{E1:List PV}{fz:Nat->Prop}(y:vS a s i (.fl p v))
 (o:(av BT a.H)[p]? =c6 ⟨140,2,E1++[.agg [.vs (1) (c.map (PV.int .i64)),.fl q u]],v⟩) (w:(av BT a.H)[q]? =c6 ⟨142,2,l.map aM.enc,u⟩) (A:p≠q) (D:¬fz p/\¬fz q) (k:xs.length=E1.length)
 (G:∀g b,bF g (av BT a.H) b->∀i m n,cellOf (xs.map ay.enc) i m=c6 n->∃t,cellOf E1 i m=c6 t/\∀d,VR g (av BT a.H) b t d->VI (dj g (qi p q) fz).F b n d):nj 73 (aU BT a.E) (av BT a.H) (aU BT (lJ s i (.fl 0 1))) (av BT (tH xs c l)):=λg I b e=>by
 have B:=ajr (E2:=xs.map ay.enc) o w A D (.vs _ _) (by rw[f2];exact k) (λJ x=>by
  obtain⟨z,_,rfl⟩:=g7.1 x
  rfl) (G g b e.m) e.m
 refine⟨dj g (qi p q) fz,P3 y e (λ_ j=>.inl j) B (λd f=>?_),GStep.re λr E e=>absurd e (by omega)⟩
 have f:VR g (av BT a.H) b (.fl p v) d:=f;cases f with
 |aW j=>cases j
 |fl _ _ E _ h H C f=>
  rw[o] at h;injection h with h
  subst h;refine .fl 0 1 ⟨140,2,xs.map ay.enc++[.agg [.vs (1) (c.map (PV.int .i64)),.fl 1 1]],1⟩ d rfl (d6 _) C λ_=>?_
  have:=f rfl;have F:(xs.map ay.enc++[PV.agg [.vs (1) (c.map (PV.int .i64)),.fl 1 1]]).length=(E1++[PV.agg [.vs (1) (c.map (PV.int .i64)),.fl q u]]).length:=by simp[k]
  unfold SL at this⊢;rw[F];exact this
theorem Mt{H:List aO}(e:List ay){p q:Nat}{fz:Nat->Prop}:∀g a,bF g H a->∀i c b,cellOf (e.map ay.enc) i c=c6 b->∃f,cellOf (e.map ay.enc) i c=c6 f/\∀d,VR g H a f d->VI (dj g (qi p q) fz).F a b d:=λg a _ i c b h=>⟨b,h,λd l=>(l.dH (nR (λm j=>by
 obtain⟨z,_,rfl⟩:=g7.1 j;exact dM.lt 140 z) h)).mono (λ_ k=>.inl k) λ_ _=>rfl⟩
theorem OC{H:List aO}(c:List ay){tg1:List Int}{ws1:List aM}{p q q1 u1:Nat}(o:H[q1]? =c6 ⟨142,2,ws1.map aM.enc,u1⟩):∀g f,bF g H f->∀i j k,cellOf ((c++[(⟨tg1,ws1⟩:ay)]).map ay.enc) i j=c6 k->∃n,cellOf (c.map ay.enc++[.agg [.vs (1) (tg1.map (PV.int .i64)),.fl q1 u1]]) i j=c6 n/\∀h,VR g H f n h->VI (dj g (qi p q) λr=>r=q1).F f k h:=λg f u i j k a=>by
 rw[List.map_append] at a;rcases NR a with⟨_,a⟩ |⟨t,a⟩
 ·obtain⟨n,v,y⟩:=Mt (H:=H) c (p:=p) (q:=q) (fz:=λr=>r=q1) g f u i j k a;exact⟨n,SW v,y⟩
 ·obtain⟨C,d,x⟩:=gw a;have B:i - (c.map ay.enc).length=0:=by
   have:=(d5.1 d).1;simpa using this
  rw[B] at a d;injection d with d
  subst d;have t:i=(c.map ay.enc).length+0:=by omega
  rw[t]
  match j,x with
  |0,_=>
   injection a with a
   subst a;exact⟨_,BZ (l:=c.map ay.enc) (m:=[.agg [.vs (1) (tg1.map (PV.int .i64)),.fl q1 u1]]) (i:=0) (j:=0) rfl,λh s=>(s.dH (.vs _ _)).mono (λ_ e=>.inl e) λ_ _=>rfl⟩
  |1,_=>
   injection a with a
   subst a;refine⟨_,BZ (l:=c.map ay.enc) (m:=[.agg [.vs (1) (tg1.map (PV.int .i64)),.fl q1 u1]]) (i:=0) (j:=1) rfl,λh s=>?_⟩
   have A:=lh (s.ub o rfl) o rfl;have:=Ed (u.obj q1 _ o) A (λC d=>by
    obtain⟨z,_,rfl⟩:=g7.1 d;exact dM.lt 142 z) (F:=(dj g (qi p q) λr=>r=q1).F) (λ_ e=>.inl e) λb w e=>.inr ⟨q1,w,rfl,e⟩
   rw[List.drop_zero,List.take_of_length_le (d6 _)] at this;exact this
def AV:aq BT:=⟨293,1,0,⟨[],[(0,.v 44)]⟩,⟨[(0,[0],.box 44 [.v 44])],[(0,.f 326 [] [.p 0])]⟩,λa=>c6 a⟩
theorem RVw(b:Lp)(a:List ay):gl b BT d0 [] AV [.tmp 2] ((Tryz.f293.body).getD .skip) [] a=c6 a:=by kernel_rfl
theorem KVw:FT AV:=FA (L:=LN 0) (hs:=[]) mixed dM f0 Tryz.func293 rfl rfl rfl rfl (by kernel_rfl) rfl rfl (RVw (LN 0))
noncomputable def QA:Code:=iq (iq (eM (eM (eM qJ))))
noncomputable def uc:Code:=eM (eM (eM (eM qJ)))
noncomputable def lm:List Oper:=tS (iq (eM qJ))
theorem ajf:Tryz.f239.body=c6 (.seq (iq qJ) (.seq (.region 1 lm.toArray false) (.seq (iq (eM (eM qJ))) (.seq (.seq QA (.block 0 (.loop yZ))) uc)))):=by kernel_rfl
theorem tp0(a:Lp)(b:List ay):exec a BT d0 [] 0 [] (iq qJ) 1 (λd c=>bif e4 d 0 then c6 (lk c.E 0) else c7) (cz BT (uY a).par b)=c6 (.row 140 b):=by kernel_rfl
theorem WS(c:List ay):ops BT d0 [AV] [] lm (λ_ b=>c6 (b.H.map (λa=>(a.aF,a.bd)),lk b.E 10)) 0 (lm.take 2) [] ⟨[(0,.row 140 c)],[]⟩=c6 ([(1,.box 44 [.row 140 c])],.fn 326 [] [.ptr 0 1 0 0]):=by kernel_rfl
theorem Ur(a:Lp)(b:List ay):ops BT d0 [xI a] [] lm (λ_ d=>c6 (lk d.E 3)) 2 (lm.drop 2) [] ⟨[(10,.fn 326 [] [.vp [.row 140 b] 0])],[]⟩=(uv a b).bind λc=>c6 (.row 140 c):=by kernel_rfl
theorem tT1(a:Lp)(b:List ay):exec a BT d0 [] 0 [] uc 1 (kL d0 (uY a) [.tmp 2]) ⟨[(4,.fl 0 1)],[⟨1,1,.rows 140 b⟩]⟩=c6 b:=by kernel_rfl
theorem aa3(a:Lp):exec a BT d0 [] 0 [] uc 1 (kL d0 (uY a) [.tmp 2]) ⟨[(4,.bg)],[]⟩=c6 []:=by kernel_rfl
end Go.X.T
namespace Go.X
open Go Go.Aml Go.Bml
section
variable {P : Program} {B : Tb} {R : Type} {r : R}
theorem RS{nt n:Nat}{i y:List Oper}{s:fE}:∀{j:List Oper} {S:St B.D} {z:List (Option (cr B.D))} {g:St B.D},l6 P B i j S z g->(∀e,e∈j->fL nt e.dst=true)->gp P nt n i.toArray y s (aU B g.E) (av B g.H)->
 gp P nt n i.toArray (j++y) s (aU B S.E) (av B S.H)
 |[],S,[],g,a,_,x=>by
  obtain rfl:g=S:=a;exact x
 |e::j,S,c::z,g,a,A,x=>by
  obtain⟨C,a⟩:=a;have u:=RS (nt:=nt) (n:=n) a (λe H=>A e (List.mem_cons_of_mem _ H)) x;have w:=A e (by simp);obtain⟨f,E,q,t,o,gd⟩:=e;have F:∀{p:Bool->TV B.D->Prop},tQ i ⟨f,E,q,t,o,gd⟩ S.E p->∃h d c,gd=c6 (h,d)/\(i.toArray[h]?).bind (·.dst)=c6 c/\p d (lk S.E c):=λa=>by
   obtain⟨h,d,U,c,M,D,K,L⟩:=a;refine⟨h,d,c,M,?_,L⟩
   rw[cJ] at D;simp[D,K]
  cases c with
  |none=>
   obtain⟨h,d,c,rfl,m,l⟩:=F (p:=λd v=>v= .bu []\/∃b,v= .bool b/\b≠d) C;rcases l with l |⟨b,J,N⟩
   ·refine MO m (by rw[ep,l];rfl) w ?_
    rw[show li (aU B S.E) f (.bu [])=aU B (gr S.E f (.bu [])) by rw[sx];rfl];exact u
   ·refine Sk m (by rw[ep,J];rfl) N w ?_
    rw[show li (aU B S.E) f (.bu [])=aU B (gr S.E f (.bu [])) by rw[sx];rfl];exact u
  |some G=>
   obtain⟨k,I,Q,O⟩:=C;have run:gp P nt n i.toArray (⟨f,E,q,t,o,c7⟩::(j++y)) s (aU B S.E) (av B S.H):=by
    refine OT G.nw (Sz (I f q t o S.E (aX S.H (dx G.nw)) Sf) w ?_)
    rintro v T ⟨rfl,rfl⟩;rw[<-sx];exact u
   rcases k with k |k
   ·obtain rfl:gd=c7:=k;exact run
   ·obtain⟨h,d,c,rfl,m,l⟩:=F k;exact S7 m (by rw[ep,l];rfl) run
 |[],_,_::_,_,a,_,_=>a.elim
 |_::_,_,[],_,a,_,_=>a.elim
end
end Go.X
namespace Go.X.T
open Go Go.Aml Go.Bml Go.X Go.RowKit Go.Proofs
theorem aos{P:Program}{a:Nat}{j f:Env}{c H0:List aO}{h:Array Oper}{b:List Oper}{e:fE}(m:nj a j c f H0)(w:gp P a 0 h b e f H0):gp P a 0 h b e j c:=λg d i p q v=>by
 obtain⟨l,k,n⟩:=m g d i p;exact w l d i k q λs t u o=>v s t u (eI.trans n o)
theorem AR{d:St BT.D}{E0:En BT.D}(a:∀q,lk E0 q= .any\/(lk d.E q=lk E0 q/\cE 0 (pv BT (lk E0 q)))):nj 73 (aU BT d.E) (av BT d.H) (aU BT E0) (av BT []):=λg n m b=>by
 refine⟨dj g (λ_=>c7) (λ_=>False),⟨bF.re b.m (λ_ a=>a.elim) (λi l r a=>by cases a) (λi r a=>by cases a) (λi j e=>by
  have:(([]:List aO))[i]? =c6 j:=e;simp at this),b.e.defers,b.e.size,λq=>?_⟩,GStep.re λr o b=>absurd b (by omega)⟩
 rw[ep];have c:=b.e.at_ q;rw[ep] at c;rcases a q with a |⟨k,f⟩
 ·rw[a];exact .aW (.any _)
 ·rw[k] at c;exact .aW ((c.dH f).mono (λ_ h=>.inl h) λ_ _=>rfl)
theorem adf{d:Nat->Prop}{c:World}{e:Nat}{f:List PV}{a:Value}(b:VI d c (.vs e f) a):a.oneCell'=true:=by cases b <;> rfl
theorem ah6{o:St BT.D}{f t:Nat}{x:List ay}(T:lk o.E 10= .fn f [] [.ptr 0 1 0 0])(F:av BT o.H=[⟨t,1,[.agg [.vs 2 (x.map ay.enc)]],1⟩]):nj 73 (aU BT o.E) (av BT o.H) (aU BT [(10,.fn f [] [.vp [.row 140 x] 0])]) (av BT []):=λg J p e=>by
 have C:=e.m;rw[F] at C;obtain⟨b,H,E,j,K,u⟩:=GS (r:=0) C rfl (.vs _ _);refine⟨dj g (λ_=>c7) (λr=>r=0),⟨bF.re e.m (λ_ _ _ a=>by cases a) (λi V r a=>by cases a) (λi r a=>by cases a) (λi O G=>by
  have:(([]:List aO))[i]? =c6 O:=G;simp at this),e.e.defers,e.e.size,λq=>?_⟩,GStep.re λr D e=>absurd e (by omega)⟩
 rw[ep]
 by_cases y:q=10
 ·subst y;have l:=e.e.at_ 10;rw[ep,T,F] at l;generalize J.tmps.getD 10 undef=A at l;have l:VR g _ p (.fn f [] [.ptr 0 1 0 0]) A:=l;show VR _ _ p (.fn f [] [.dw [.vs 2 (x.map ay.enc)] 0]) A
  have S:∀c,VR g [⟨t,1,[.agg [.vs 2 (x.map ay.enc)]],1⟩] p (.ptr 0 1 0 0) c->c= .pointer (c6 ⟨b,0,c7⟩):=λc n=>by
   cases n with
   |aW a=>cases a
   |ptr _ _ _ _ D U m u N=>
    have m:c6 (⟨t,1,[.agg [.vs 2 (x.map ay.enc)]],1⟩:aO)=c6 D:=m;injection m with m
    subst m;obtain⟨_,X,W,h,rfl⟩:=N rfl;rw[j] at h;injection h with h
    injection h with h
    rw[<-h]
    rfl
  have M:E.oneCell'=true:=adf u;have new:VI (dj g (λ_=>c7) (λr=>r=0)).F p (.dw [.vs 2 (x.map ay.enc)] 0) (.pointer (c6 ⟨b,0+0,c7⟩)):=by
   refine .dw _ 0 b 0 (λ_=>E) (.inr ⟨0,H,rfl,j⟩) (λi s d=>?_) (λi s d=>M) (λi s d=>?_)
   ·match i,d with
    |0,_=>exact K
   ·match i,d with
    |0,d=>injection d with d;subst d;exact u.mono (λ_ j=>.inl j) λ_ _=>rfl
  cases l with
  |aW a=>
   cases a with
   |fn _ _ _ I vs n _ v w=>
    match vs,v with
    |[c],_=>have:=w 0 _ c rfl rfl;cases this
  |fn _ _ _ I vs n _ v w=>
   obtain rfl:=f9 n.symm
   match vs,v with
   |[c],_=>
    have Q:=S c (w 0 _ c rfl rfl);subst Q;refine .fn f [] [.dw [.vs 2 (x.map ay.enc)] 0] [] [_] rfl (λi s x a=>by simp at a) rfl λi s z a k=>?_
    match i,a,k with
    |0,a,k=>injection a with a;injection k with k;subst a;subst k;exact .aW new
 ·have:(lk [(10,(.fn f [] [.vp [.row 140 x] 0]:TV BT.D))] q:TV BT.D)= .any:=by
   have L:e4 10 q=false:=by cases j:e4 10 q with |false=>rfl |true=>exact absurd (beq_eq j).symm y
   simp only[lk,L,cond_false]
  rw[this];exact .aW (.any _)
theorem aho{l:St BT.D}{c:List ay}{d:List Int}{h:List aM}(J:lk l.E 4= .fl 0 1)(u:av BT l.H=[⟨140,2,c.map ay.enc++[.agg [.vs 1 (d.map (PV.int .i64)),.fl 1 1]],1⟩,⟨142,2,h.map aM.enc,1⟩]):nj 73 (aU BT l.E) (av BT l.H) (aU BT [(4,.fl 0 1)]) (av BT [⟨1,1,.rows 140 (c++[(⟨d,h⟩:ay)])⟩]):=λg I t f=>by
 have w:=f.m;rw[u] at w;have E:=OC c (tg1:=d) (ws1:=h) (p:=0) (q:=1) (q1:=1) (u1:=1) (H:=[⟨140,2,c.map ay.enc++[.agg [.vs 1 (d.map (PV.int .i64)),.fl 1 1]],1⟩,⟨142,2,h.map aM.enc,1⟩]) rfl g t w;have v:((c++[(⟨d,h⟩:ay)]).map ay.enc).length=(c.map ay.enc++[PV.agg [.vs 1 (d.map (PV.int .i64)),.fl 1 1]]).length:=by simp
 refine⟨dj g (λi=>if i=0 then c6 0 else c7) (λr=>r=1),⟨bF.re f.m (λr a q b=>?_) (λi V r a C=>?_) (λi r a=>?_) (λi M e=>?_),f.e.defers,f.e.size,λq=>?_⟩,GStep.re λr N f=>absurd f (by omega)⟩
 ·split at b
  ·injection b with b;omega
  ·cases b
 ·have y:∀{m:Nat},(if m=0 then c6 0 else c7)=c6 r->m=0:=λ{m} a=>by
   by_cases A:m=0
   ·exact A
   ·rw[if_neg A] at a;cases a
  rw[y a,y C]
 ·split at a
  ·subst i;show 0<1;omega
  ·cases a
 ·match i,e with
  |0,e=>
   have e:c6 (⟨140,2,(c++[(⟨d,h⟩:ay)]).map ay.enc,1⟩:aO)=c6 M:=e;injection e with e
   subst e;refine⟨by show 0<2;omega,λi W n=>?_,(λa=>by cases a),λr j=>?_⟩
   ·have n:=ec n;obtain⟨z,_,rfl⟩:=g7.1 n
    rfl
   ·have j:c6 0=c6 r:=j;injection j with j
    subst j;rw[u];refine⟨_,rfl,rfl,rfl,v,λi L O T=>?_⟩
    obtain⟨S,D,F⟩:=E i L O T;exact⟨S,D,λk s=>.aW (F k s)⟩
 ·rw[ep]
  by_cases x:q=4
  ·subst x;have b:=f.e.at_ 4;rw[ep,J,u] at b;generalize I.tmps.getD 4 undef=k at b;have b:VR g _ t (.fl 0 1) k:=b;show VR _ _ t (.fl 0 1) k
   cases b with
   |aW a=>cases a
   |fl _ _ N _ o U K s=>
    injection o with o
    subst o;refine .fl 0 1 ⟨140,2,(c++[(⟨d,h⟩:ay)]).map ay.enc,1⟩ k rfl (d6 _) K λ_=>?_
    have:=s rfl;unfold SL at this⊢;rw[v];exact this
  ·have:(lk [(4,(.fl 0 1:TV BT.D))] q:TV BT.D)= .any:=by
    have Q:e4 4 q=false:=by cases G:e4 4 q with |false=>rfl |true=>exact absurd (beq_eq G).symm x
    simp only[lk,Q,cond_false]
   rw[this];exact .aW (.any _)
end Go.X.T
namespace Go.X.T
open Go Go.Aml Go.Bml Go.X Go.RowKit Go.Proofs
theorem Is{t:Lp}{j:List (aq BT)}(n:∀b,b∈j->FT b){o:List (Nat×Hn)}{b h:Code}{i:fE}{f:St BT.D}{g:Type}{z:g}{e:Nat->St BT.D->Option g}(p:exec t BT d0 j 0 o b 1 e f=c6 z)(q:gB 73 b=true)(l:∀k a,k≠0->e k a=c6 z->False)
 (m:∀a,e 0 a=c6 z->eT d0 73 0 h i (aU BT a.E) (av BT a.H)):eT d0 73 0 (.seq b h) i (aU BT f.E) (av BT f.H):=by
 refine rN (((gO mixed dM n b 1 _ _ _ p q (dv _)).mono nP).mono λr v u c=>?_)
 cases r with
 |normal=>
  obtain⟨a,d,rfl,rfl⟩:=c;exact m a d
 |ret=>obtain⟨a,d,_⟩:=c;exact(l 1 a (by omega) d).elim
 |exit s=>obtain⟨a,d,_⟩:=c;exact(l (s+2) a (by omega) d).elim
 |goto _=>exact c.elim
 |panic _=>exact c.elim
 |outgrown=>exact c.elim
theorem ajm(c:Lp)(b:List ay):exec c BT d0 [] 0 [] (iq (eM (eM qJ))) 1 (λd a=>bif e4 d 0 then c6 (lk a.E 3,lk a.E 4) else c7) ⟨[(3,.row 140 b)],[]⟩=c6 (.row 140 b,.bg):=by kernel_rfl
theorem aoj(c:Lp)(b:List ay):exec c BT d0 [] 0 [] QA 1 (λd a=>bif e4 d 0 then c6 (lk a.E 4,lk a.E 12,lk a.E 13,lk a.E 14) else c7) ⟨[(3,.row 140 b),(4,.bg)],[]⟩=c6 (.bg,.row 140 b,.int .i64 (b.length:Int),.int .i64 0):=by kernel_rfl
theorem JP{b:Type}{z:b}{f:St BT.D->Option b}{a:Nat}{d:St BT.D}(e:a≠0)(c:(bif e4 a 0 then f d else c7)=c6 z):False:=by
 cases a with
 |zero=>exact e rfl
 |succ a=>cases c
theorem Bz{e:St BT.D}{c:Nat}{a:TV BT.D}(f:lk e.E c=a)(i:cE 0 (pv BT a)):∀q,lk [(c,a)] q= .any\/(lk e.E q=lk [(c,a)] q/\cE 0 (pv BT (lk [(c,a)] q))):=λq=>by
 by_cases d:q=c
 ·subst d;have g:(lk [(q,a)] q:TV BT.D)=a:=by simp[lk]
  rw[g];exact .inr ⟨f,i⟩
 ·have b:e4 c q=false:=by cases h:e4 c q with |false=>rfl |true=>exact absurd (beq_eq h).symm d
  exact .inl (by simp only[lk,b,cond_false])
theorem Xh{g:St BT.D}{a d:Nat}{c e:TV BT.D}(i:lk g.E a=c)(l:cE 0 (pv BT c))(j:lk g.E d=e)(m:cE 0 (pv BT e))(n:a≠d):∀q,lk [(a,c),(d,e)] q= .any\/(lk g.E q=lk [(a,c),(d,e)] q/\cE 0 (pv BT (lk [(a,c),(d,e)] q))):=λq=>by
 by_cases h:q=a
 ·subst h;have f:(lk [(q,c),(d,e)] q:TV BT.D)=c:=by simp[lk]
  rw[f];exact .inr ⟨i,l⟩
 ·have b:e4 a q=false:=by cases k:e4 a q with |false=>rfl |true=>exact absurd (beq_eq k).symm h
  have f:(lk [(a,c),(d,e)] q:TV BT.D)=lk [(d,e)] q:=by simp only[lk,b,cond_false]
  rw[f];exact Bz j m q
theorem Ll(b:Lp)(c:ay):oM b c=(mH b c).bind λe=>c6 ⟨e.2,e.1⟩:=by
 unfold oM mH;cases cc b c.aw with
 |none=>rfl
 |some d=>
  simp only[dt];show(b.loop (λa=>r9 b c (ay.mk a.1 a.2.1) a.2.2) (d,([]:List aM),0)).bind _=((b.loop (λa=>r9 b c (ay.mk a.1 a.2.1) a.2.2) (d,([]:List aM),0)).bind _).bind _
  cases b.loop (λa=>r9 b c (ay.mk a.1 a.2.1) a.2.2) (d,([]:List aM),0) <;> rfl
theorem SA{n:Nat}(a:n*48<=140737488355328):c3 c4 ((n:Int)+1 -1)=(n:Int):=by
 rw[show(n:Int)+1 -1=(n:Int) by omega];rw[eH];omega
theorem Gb{a:List ay}(f:(a.length+1)*48<=140737488355328){d:Type}(b:Option d):mo a b=b:=by
 have e:c3 c4 (((a.length+1:Nat):Int) -1)=((a.length+0:Nat):Int):=by
  have:=SA (n:=a.length) (by omega);rw[show(((a.length+1:Nat):Int) -1)=(a.length:Int)+1 -1 by omega,this]
  rfl
 have c:e4 (a.length+0) (a.length+0)=true:=Nat.beq_refl _;unfold mo;rw[decide_eq_true e,c]
 rfl
theorem aqb(e:Lp){d:List ay}(c:(d.length+1)*48<=140737488355328)(b:ay):(λa:List aM×Int=>tL e d b a.1 a.2)=λa=>qR e b.aH a.1 a.2:=by
 funext a
 obtain⟨f,i⟩:=a;unfold tL qR;rw[Gb c,Gb c];cases j:c5 (i<(b.aH.length:Int)) with
 |false=>rfl
 |true=>
  simp only[cond_true];cases h:aj f i with
  |none=>rfl
  |some k=>
   obtain⟨h0,g⟩:=xd h;rw[g];simp only[dt]
def Can(d:List ay)(a:List ay×Int)(f:En BT.D)(H0:List (Ob BT.D)):Prop:=
 (a.1=[]/\f=lJ d a.2 .bg/\H0=[])\/∃b e c,a.1=b++[(⟨e,c⟩:ay)]/\(b.length+1)*48<=140737488355328/\f=lJ d a.2 (.fl 0 1)/\H0=tH b e c
abbrev TZ:Type:=Nat×List (Nat×Bd BT.D)×TV BT.D×TV BT.D×TV BT.D×TV BT.D
theorem aiJ{w:Lp}{f:List ay}{x:List ay×Int}{P:En BT.D}{H0:List (Ob BT.D)}(h:Can f x P H0){s:(List ay×Int)⊕List ay}(a:lZ w f x.1 x.2=c6 s):
 ∃z:TZ,exec w BT d0 (xJ w) 0 HO yZ 1 tK ⟨P,H0⟩=c6 z/\
  ((∃N,s= .inl N/\z.1=0/\∀c:St BT.D,tK 0 c=c6 z->∃E1 H1,Can f N E1 H1/\nj 73 (aU BT c.E) (av BT c.H) (aU BT E1) (av BT H1))\/
   (s= .inr x.1/\z.1=2/\∀c:St BT.D,tK 2 c=c6 z->(x.1=[]/\nj 73 (aU BT c.E) (av BT c.H) (aU BT [(4,.bg)]) (av BT []))\/nj 73 (aU BT c.E) (av BT c.H) (aU BT [(4,.fl 0 1)]) (av BT [⟨1,1,.rows 140 x.1⟩]))):=by
 obtain⟨out,i⟩:=x;have C:∀{c:St BT.D} {Q:Nat} {H:List (Nat×Bd BT.D)} {M:TV BT.D} {F:Int} {O:Nat},tK O c=c6 (Q,H,M,.int .i64 F,.row 140 f,.int .i64 (f.length:Int))->c.H.map (λs=>(s.aF,s.bd))=H/\vS c f F M:=λ{c Q H M F O} n=>by
  injection n with n
  injection n with _ n
  injection n with k1 n
  injection n with k2 n
  injection n with k3 n
  injection n with k4 k5
  exact⟨k1,⟨k2,k4,k5,k3⟩⟩
 rcases h with⟨y,rfl,rfl⟩ |⟨xs,d,j,y,K,rfl,rfl⟩
 ·have y:out=[]:=y;subst y;have a:lZ w f [] i=c6 s:=a;unfold lZ at a;have b:=tB0 w f i
  by_cases B:i<(f.length:Int)
  ·rw[decide_eq_true B,cond_true] at a b;obtain⟨k,J,a⟩:=fK a;rw[J,dt] at b;have a:((oM w k).bind λL=>(bj 48 [] [L]).bind λout=>c6 (Sum.inl (out,c3 c4 (i+1))))=c6 s:=a;rw[Ll] at a;obtain⟨L,h,a⟩:=fK a;obtain⟨e,G,h⟩:=fK h;injection h with h
   subst h;obtain⟨R,l,a⟩:=fK a;injection a with a
   rw[G,dt] at b;refine⟨_,b,.inl ⟨_,a.symm,rfl,λc t=>?_⟩⟩
   obtain⟨A,o⟩:=C t;have l:c6 ([]++[(⟨e.2,e.1⟩:ay)])=c6 R:=l;injection l with l
   refine⟨lJ f (c3 c4 (i+1)) (.fl 0 1),tH [] e.2 e.1,.inr ⟨[],e.2,e.1,l.symm,by decide,rfl,rfl⟩,?_⟩
   have m:av BT c.H=[aY BT ⟨0,1,.box 140 [.row 3 k.aw,.row 142 k.aH]⟩,⟨142,2,e.1.map aM.enc,1⟩,⟨140,2,[.agg [.vs 1 (e.2.map (PV.int .i64)),.fl 1 1]],1⟩,⟨140,2,[.agg [.vs 1 (e.2.map (PV.int .i64)),.fl 1 1]],1⟩]:=by
    rw[xh,A]
    rfl
   exact H5 (p:=3) (v:=1) (q:=1) (u:=1) (xs:=[]) (E1:=[]) (fz:=λ_=>False) o (by rw[m];rfl) (by rw[m];rfl) (by decide) ⟨id,id⟩ rfl (λg k _ i F Z h=>by simp[cellOf] at h)
  ·rw[decide_eq_false B,cond_false] at a b;injection a with a
   refine⟨_,b,.inr ⟨a.symm,rfl,λc t=>?_⟩⟩
   obtain⟨_,o⟩:=C t;exact .inl ⟨rfl,AR (Bz o.s4 .bg)⟩
 ·have y:out=xs++[(⟨d,j⟩:ay)]:=y;subst y;have a:lZ w f (xs++[(⟨d,j⟩:ay)]) i=c6 s:=a;unfold lZ at a;have b:=tB1 w f i xs d j;have T:((xs++[(⟨d,j⟩:ay)]).length:Int)=(xs.length:Int)+1:=by simp
  by_cases B:i<(f.length:Int)
  ·rw[decide_eq_true B,cond_true] at a b;obtain⟨k,J,a⟩:=fK a;rw[J,dt] at b;have S:(0:Int)<((xs.length+1:Nat):Int):=by omega
   rw[decide_eq_true S,cond_true,Gb K] at b;have Y:(0:Int)<((xs++[(⟨d,j⟩:ay)]).length:Int):=by omega
   have V:c3 c4 (((xs++[(⟨d,j⟩:ay)]).length:Int) -1)=(xs.length:Int):=by rw[T];exact SA (by omega)
   have U:aj (xs++[(⟨d,j⟩:ay)]) (xs.length:Int)=c6 ⟨d,j⟩:=by
    unfold aj;rw[if_pos (by omega),Int.toNat_natCast,d8 (d6 _),Nat.sub_self]
    rfl
   rw[decide_eq_true Y,cond_true,V,U] at a;simp only[dt] at a;obtain⟨X,m,a⟩:=fK a;rw[m] at b;simp only[dt] at b;cases X with
   |true=>
    simp only[cond_true] at a b;rw[aqb w K] at b;obtain⟨E,W,a⟩:=fK a;injection a with a
    rw[W,dt] at b;refine⟨_,b,.inl ⟨_,a.symm,rfl,λc t=>?_⟩⟩
    obtain⟨A,o⟩:=C t;refine⟨lJ f (c3 c4 (i+1)) (.fl 0 1),tH xs d E,.inr ⟨xs,d,E,?_,K,rfl,rfl⟩,?_⟩
    ·show(xs++[(⟨d,j⟩:ay)]).set (xs.length:Int).toNat ⟨d,E⟩=_
     rw[Int.toNat_natCast,List.set_append_right _ _ (d6 _),Nat.sub_self]
     rfl
    ·have m:av BT c.H=[⟨140,2,xs.map ay.enc++[.agg [.vs 1 (d.map (PV.int .i64)),.fl 1 1]],1⟩,⟨142,2,E.map aM.enc,1⟩,aY BT ⟨0,1,.box 140 [.row 3 k.aw,.row 142 k.aH]⟩]:=by
      rw[xh,A]
      rfl
     exact H5 (p:=0) (v:=1) (q:=1) (u:=1) (xs:=xs) (E1:=xs.map ay.enc) (fz:=λ_=>False) o (by rw[m];rfl) (by rw[m];rfl) (by decide) ⟨id,id⟩ (by rw[f2]) (λg k I=>Mt xs g k I)
   |false=>
    simp only[cond_false] at a b;rw[Ll] at a;obtain⟨L,h,a⟩:=fK a;obtain⟨e,G,h⟩:=fK h;injection h with h
    subst h;obtain⟨R,l,a⟩:=fK a;injection a with a
    rw[G,dt] at b;unfold bj at l
    split at l
    ·rename_i D;injection l with l
     have D:(xs.length+1+1)*48<=140737488355328:=by simpa using D
     rw[Nat.ble_eq_true_of_le D,cond_true] at b;refine⟨_,b,.inl ⟨_,a.symm,rfl,λc t=>?_⟩⟩
     obtain⟨A,o⟩:=C t;refine⟨lJ f (c3 c4 (i+1)) (.fl 0 1),tH (xs++[(⟨d,j⟩:ay)]) e.2 e.1,.inr ⟨xs++[(⟨d,j⟩:ay)],e.2,e.1,l.symm,by simpa using D,rfl,rfl⟩,?_⟩
     have m:av BT c.H=[⟨140,2,xs.map ay.enc++[.agg [.vs 1 (d.map (PV.int .i64)),.fl 1 1],.agg [.vs 1 (e.2.map (PV.int .i64)),.fl 3 1]],2⟩,⟨142,2,j.map aM.enc,1⟩,aY BT ⟨0,1,.box 140 [.row 3 k.aw,.row 142 k.aH]⟩,⟨142,2,e.1.map aM.enc,1⟩,⟨140,2,[.agg [.vs 1 (e.2.map (PV.int .i64)),.fl 3 1]],1⟩]:=by
      rw[xh,A]
      rfl
     exact H5 (p:=0) (v:=2) (q:=3) (u:=1) (xs:=xs++[(⟨d,j⟩:ay)]) (E1:=xs.map ay.enc++[.agg [.vs 1 (d.map (PV.int .i64)),.fl 1 1]]) (fz:=λr=>r=1) o (by rw[m,hB];rfl) (by rw[m];rfl) (by decide) ⟨by decide,by decide⟩ (by simp) (λg k I=>OC xs (by rw[m];rfl) g k I)
    ·cases l
  ·rw[decide_eq_false B,cond_false] at a b;injection a with a
   refine⟨_,b,.inr ⟨a.symm,rfl,λc t=>?_⟩⟩
   obtain⟨A,o⟩:=C t;refine .inr (aho o.s4 ?_)
   rw[xh,A]
   rfl
theorem UK(a:Lp)(O:FT (IP a))(X:FT (Hy a))(ae:FT (HG a))(Y:FT (xI a)):FT (uY a):=by
 have W:∀h,h∈xJ a->FT h:=λh j=>by
  simp only[xJ,f6,ga,or_false] at j;rcases j with rfl |rfl |rfl
  ·exact O
  ·exact X
  ·exact ae
 have au:∀h,h∈[AV]->FT h:=λh j=>by
  rw[ea] at j;subst j;exact KVw
 have aa:∀h,h∈[xI a]->FT h:=λh j=>by
  rw[ea] at j;subst j;exact Y
 refine ti (rs:=[.tmp 2]) dM Tryz.func239 ajf rfl rfl rfl rfl λ(x:List ay) (r:List ay) w=>?_
 have w:((uv a x).bind λd=>a.loop (λb=>lZ a d b.1 b.2) (([]:List ay),(0:Int)))=c6 r:=w;obtain⟨d,aj,ah⟩:=fK w;obtain⟨al,U⟩:=a.ok _ _ _ ah;generalize ag:qP BT (kL d0 (uY a) [.tmp 2]) r=P;refine Is f0 (tp0 a x) (by kernel_rfl) (λm c p e=>JP (f:=λS=>c6 (lk S.E 0)) p e) λac C=>?_
 have C:lk ac.E 0= .row 140 x:=by injection C
 refine sS (AR (E0:=[(0,.row 140 x)]) (Bz C (.vs _ _))) ?_
 refine rN (Lc ?_)
 obtain⟨aB,K,V,v⟩:=qg dM au (WS x);injection v with v
 have aq:K.H.map (λg=>(g.aF,g.bd))=[(1,.box 44 [.row 140 x])]:=congrArg (·.1) v;have an:lk K.E 10= .fn 326 [] [.ptr 0 1 0 0]:=congrArg (·.2) v;have ai:ops BT d0 [xI a] [] lm (λ_ S=>c6 (lk S.E 3)) 2 (lm.drop 2) [] ⟨[(10,.fn 326 [] [.vp [.row 140 x] 0])],[]⟩=c6 (.row 140 d):=by
  refine(Ur a x).trans ?_
  rw[aj]
  rfl
 obtain⟨ax,I,ab,B⟩:=qg dM aa ai;injection B with B
 have af:∀g,g∈lm.take 2->fL 73 g.dst=true:=mL _ rfl;have Z:∀g,g∈lm.drop 2->fL 73 g.dst=true:=mL _ rfl;have D:∀q:fE,q .normal (aU BT I.E) (av BT I.H)->gp d0 73 0 lm.toArray (lm.take 2++lm.drop 2) q (aU BT [(0,(.row 140 x:TV BT.D))]) (av BT []):=λq F=>by
  refine RS (S:=(⟨[(0,.row 140 x)],[]⟩:St BT.D)) V af (aos (ah6 (t:=44) (x:=x) an ?_) (yW (S:=(⟨[(10,.fn 326 [] [.vp [.row 140 x] 0])],[]⟩:St BT.D)) ab Z F))
  rw[xh,aq]
  rfl
 have D:=λq F=>(h5 2 lm)▸D q F
 refine D _ ?_
 refine sS (AR (E0:=[(3,.row 140 d)]) (Bz B (.vs _ _))) ?_
 refine Is f0 (ajm a d) (by kernel_rfl) (λm c p e=>JP (f:=λS=>c6 (lk S.E 3,lk S.E 4)) p e) λaz u=>?_
 injection u with u
 refine sS (AR (E0:=[(3,.row 140 d),(4,.bg)]) (Xh (congrArg (·.1) u) (.vs _ _) (congrArg (·.2) u) .bg (by decide))) ?_
 refine rN (Is f0 (aoj a d) (by kernel_rfl) (λm c p e=>JP (f:=λS=>c6 (lk S.E 4,lk S.E 12,lk S.E 13,lk S.E 14)) p e) λak l=>?_)
 injection l with l
 have T:vS ak d 0 .bg:=⟨congrArg (·.1) l,congrArg (·.2.1) l,congrArg (·.2.2.1) l,congrArg (·.2.2.2) l⟩;refine Ta (Pz (QG (α:=Nat×(List ay×Int)) (λo L H=>fY (λb:List ay×Int=>lZ a d b.1 b.2) o.1 o.2=c6 r/\∃E0 H0,Can d o.2 E0 H0/\nj 73 L H (aU BT E0) (av BT H0)) (λo=>o.1) (al,([],0)) ⟨U,_,_,.inl ⟨rfl,rfl,rfl⟩,alW T⟩ ?_))
 rintro⟨aw,b⟩ L H ⟨i,E0,H0,ao,N⟩;refine sS N ?_
 cases aw with
 |zero=>cases i
 |succ y=>
  have i:((lZ a d b.1 b.2).bind λg=>g.elim (fY (λb:List ay×Int=>lZ a d b.1 b.2) y) c6)=c6 r:=i;obtain⟨g,Q,i⟩:=fK i;obtain⟨z,R,A⟩:=aiJ ao Q;refine((gO mixed dM W yZ 1 _ ⟨E0,H0⟩ _ R (by kernel_rfl) (dv _)).mono nP).mono λam aE aC n=>?_
  have first:∀m (c:St BT.D),tK m c=c6 z->z.1=m:=λm c e=>by
   injection e with e
   exact(congrArg (·.1) e).symm
  cases am with
  |normal=>
   obtain⟨c,k,rfl,rfl⟩:=n;rcases A with⟨G,rfl,_,E⟩ |⟨_,ar,_⟩
   ·obtain⟨ap,H1,ad,s⟩:=E c k;exact⟨(y,G),Nat.lt_succ_self y,i,ap,H1,ad,s⟩
   ·have:=first 0 c k
    omega
  |exit M=>
   obtain⟨c,k,rfl,rfl⟩:=n;have aA:=first (M+2) c k
   rcases A with⟨G,_,aD,_⟩ |⟨rfl,ar,E⟩
   ·omega
   ·have:M=0:=by omega
    subst this;have J:b.1=r:=by
     have i:c6 b.1=c6 r:=i;injection i
    show eT d0 73 0 uc P (aU BT c.E) (av BT c.H)
    subst ag;rcases E c k with⟨h0,s⟩ |s
    ·refine sS s ?_
     rw[<-J,h0];exact(gO mixed dM f0 uc 1 _ ⟨[(4,.bg)],[]⟩ _ (aa3 a) (by kernel_rfl) (dv _)).mono nP
    ·refine sS s ?_
     rw[<-J];exact(gO mixed dM f0 uc 1 _ ⟨[(4,.fl 0 1)],[⟨1,1,.rows 140 b.1⟩]⟩ _ (tT1 a b.1) (by kernel_rfl) (dv _)).mono nP
  |ret=>
   obtain⟨c,k,_,_⟩:=n;have:=first 1 c k
   rcases A with⟨_,_,e,_⟩ |⟨_,e,_⟩ <;> omega
  |goto _=>exact n.elim
  |panic _=>exact n.elim
  |outgrown=>exact n.elim
theorem K0(a:Lp):FT (C0 a):=kf [] f0 Tryz.func8
theorem K1(a:Lp):FT (C1 a):=kf [] f0 Tryz.func223
theorem K2(a:Lp):FT (C2 a):=kf [(12,⟨[],[(0,⟨[],[],[(17,.v 4)]⟩)],c7⟩),(58,⟨[],[(1,⟨[],[],[(2,.i .i64 1)]⟩),(2,⟨[],[],[]⟩)],c6 ⟨[],[],[(21,.v 3)]⟩⟩),(250,⟨[],[(1,⟨[],[],[(2,.v 67)]⟩),(4,⟨[],[],[]⟩)],c6 ⟨[],[],[(40,.v 3)]⟩⟩),(7474,⟨[],[(0,⟨[],[],[(32,.v 4)]⟩)],c7⟩),(64100,⟨[],[(0,⟨[],[],[(70,.v 4)]⟩)],c7⟩),(128204,⟨[],[(0,⟨[],[],[(88,.v 4)]⟩)],c7⟩),(128206,⟨[],[(0,⟨[],[],[(98,.v 4)]⟩)],c7⟩)] (fc (K1 a) f0) Tryz.func156
theorem K3(a:Lp):FT (C3 a):=kf [] (fc (K2 a) f0) Tryz.func93
theorem K4(a:Lp):FT (C4 a):=kf [(26,⟨[],[(1,⟨[],[],[(6,.b false)]⟩),(2,⟨[],[],[]⟩)],c6 ⟨[],[],[(11,.v 3)]⟩⟩),(3378,⟨[],[(0,⟨[],[],[(36,.v 4)]⟩)],c7⟩)] f0 Tryz.func135
theorem K5(a:Lp):FT (C5 a):=kf [] f0 Tryz.func51
theorem K6(a:Lp):FT (C6 a):=kf [] (fc (K4 a) (fc (K5 a) f0)) Tryz.func207
theorem K7(a:Lp):FT (C7 a):=kf [(26,⟨[],[(1,⟨[],[],[(4,.v 3)]⟩),(2,⟨[],[],[]⟩)],c6 ⟨[],[],[(8,.v 3)]⟩⟩)] (fc (K6 a) f0) Tryz.func267
theorem K8(a:Lp):FT (C8 a):=kf [] (fc (K7 a) f0) Tryz.func208
theorem K9(a:Lp):FT (C9 a):=kf [] (fc (K3 a) (fc (K8 a) f0)) Tryz.func140
theorem VY(a:Lp):FT (C10 a):=kf [] (fc (K5 a) f0) Tryz.func141
theorem K11(a:Lp):FT (Ye a):=kf [(26,⟨[],[(1,⟨[],[],[(4,.v 3)]⟩),(2,⟨[],[],[]⟩)],c6 ⟨[],[],[(8,.v 3)]⟩⟩)] (fc (VY a) f0) dk
theorem Zv(a:Lp):FT (C12 a):=kf [] (fc (K11 a) f0) e5
theorem HI(a:Lp):FT (C13 a):=kf [] f0 Tryz.func210
theorem K16(a:Lp):FT (C16 a):=kf [] (fc (K15 a) f0) Tryz.func268
theorem Iv(a:Lp):FT (C17 a):=kf [] (fc (K16 a) (fc (D5 a) f0)) Tryz.func209
theorem RX(a:Lp):FT (C18 a):=kf [] (fc (HI a) (fc (Iv a) (fc (K4 a) f0))) Tryz.func142
theorem K23(a:Lp):FT (C23 a):=kf [(506,⟨[],[(2,⟨[(2,true,.box 35 [.v 27,.v 28,.v 3,.v 31,.v 22,.v 32,.v 22,.v 22,.v 33])],[],[]⟩)],c6 ⟨[(2,true,.box 35 [.v 27,.v 28,.v 3,.v 31,.v 22,.r 3,.v 22,.v 22,.v 33])],[(100002,[5],.rows 120 32)],[(31,.v 3)]⟩⟩),(4090,⟨[],[(4,⟨[(2,true,.box 35 [.v 27,.v 28,.v 3,.v 31,.v 22,.v 32,.v 22,.v 22,.v 33])],[],[]⟩)],c6 ⟨[(2,true,.box 35 [.v 27,.v 28,.v 3,.v 31,.v 22,.v 32,.v 22,.v 22,.r 3])],[(100002,[8],.rows 22 33)],[(58,.v 3)]⟩⟩),(64819,⟨[3],[],c7⟩),(261785,⟨[4],[],c7⟩)] (fc (oh a) (fc (sP a) (fc (Md a) (fc (iY a) f0)))) g9
theorem K24(a:Lp):FT (Xu a):=kf [(56,⟨[],[(0,⟨[],[],[(18,.v 4)]⟩)],c7⟩),(126,⟨[],[(0,⟨[(2,true,.box 35 [.v 27,.v 28,.v 3,.v 31,.v 22,.v 32,.v 22,.v 22,.v 33]),(3,false,.dead),(4,false,.dead),(5,false,.dead)],[],[]⟩)],c7⟩),(250,⟨[],[(3,⟨[(2,true,.box 35 [.v 27,.v 28,.v 3,.v 31,.v 22,.v 32,.r 3,.r 4,.r 5])],[(100002,[6],.rows 3 22),(100002,[7],.rows 3 22),(100002,[8],.rows 22 33)],[]⟩)],c6 ⟨[(2,true,.box 35 [.v 27,.v 28,.v 3,.r 3,.v 22,.v 32,.r 4,.r 5,.r 6])],[(100002,[3],.rows 88 31),(100002,[6],.rows 3 22),(100002,[7],.rows 3 22),(100002,[8],.rows 22 33)],[(57,.v 3)]⟩⟩),(506,⟨[],[(5,⟨[(2,true,.box 35 [.v 27,.v 28,.v 3,.v 31,.v 22,.v 32,.r 3,.r 4,.r 5]),(3,false,.rows 3 22),(4,false,.rows 3 22),(5,false,.rows 22 33)],[],[]⟩)],c6 ⟨[(2,true,.box 35 [.v 27,.v 28,.v 3,.v 31,.v 22,.v 32,.r 3,.r 4,.r 5]),(3,false,.rows 3 22),(4,false,.rows 3 22),(5,false,.rows 22 33)],[],[(71,.v 3)]⟩⟩),(16025,⟨[4],[],c7⟩),(16204,⟨[2,6,11,12],[],c7⟩)] (fc (K9 a) (fc (K5 a) (fc (Zv a) (fc (RX a) (fc (K23 a) f0))))) Tryz.func83
theorem K25(a:Lp):FT (C25 a):=kf [] f0 Tryz.func213
theorem Vl(a:Lp):FT (C26 a):=kf [(26,⟨[],[(1,⟨[],[],[(4,.v 3)]⟩),(2,⟨[],[],[]⟩)],c6 ⟨[],[],[(8,.v 3)]⟩⟩)] (fc (K25 a) f0) Tryz.func270
theorem K27(a:Lp):FT (C27 a):=kf [] (fc (Vl a) f0) Tryz.func212
theorem Aq(a:Lp):FT (C28 a):=kf [] (fc (K3 a) (fc (K27 a) f0)) Tryz.func144
theorem K29(a:Lp):FT (Wx a):=kf [] f0 Tryz.func272
theorem NZ(a:Lp):FT (C30 a):=kf [] (fc (K29 a) f0) Tryz.func214
theorem K31(a:Lp):FT (C31 a):=kf [(60,⟨[],[(0,⟨[],[],[(26,.v 4)]⟩)],c7⟩),(508,⟨[],[(2,⟨[(0,true,.rows 3 22)],[],[]⟩)],c6 ⟨[(0,true,.rows 3 22)],[],[(8,.v 3)]⟩⟩)] (fc (NZ a) f0) Tryz.func145
theorem Ca(a:Lp):FT (ZB a):=kf [(60,⟨[],[(0,⟨[],[],[(26,.v 4)]⟩)],c7⟩),(508,⟨[],[(2,⟨[(0,true,.rows 3 22)],[],[]⟩)],c6 ⟨[(0,true,.rows 3 22)],[],[(8,.v 3)]⟩⟩)] (fc (NZ a) f0) Tryz.func145
theorem Ja(a:Lp):FT (C33 a):=kf [(12,⟨[],[(0,⟨[],[],[(29,.v 4)]⟩)],c7⟩),(125,⟨[],[(0,⟨[(3,true,.box 90 [.v 3,.v 3])],[],[]⟩)],c7⟩),(509,⟨[],[(0,⟨[],[],[(11,.v 3)]⟩)],c7⟩),(8170,⟨[],[(0,⟨[],[],[(70,.v 4)]⟩)],c7⟩)] f0 Tryz.func242
theorem K34(a:Lp):FT (C34 a):=kf [(28,⟨[],[(0,⟨[],[],[(56,.v 4)]⟩)],c7⟩)] (fc (Ja a) f0) Tryz.func215
theorem DW(a:Lp):FT (C35 a):=kf [(14,⟨[],[(2,⟨[(0,true,.rows 3 22)],[],[]⟩)],c6 ⟨[(0,true,.rows 3 22)],[],[(2,.v 4)]⟩⟩),(918,⟨[],[(4,⟨[(0,true,.rows 3 22)],[],[(2,.v 4)]⟩)],c6 ⟨[(0,true,.rows 3 22)],[],[(2,.v 4),(12,.v 3)]⟩⟩),(235111,⟨[],[(0,⟨[],[],[(2,.v 4)]⟩)],c7⟩)] (fc (K34 a) f0) Tryz.func146
theorem UT(a:Lp):FT (C36 a):=kf [(14,⟨[0],[],c7⟩),(122,⟨[],[(3,⟨[(2,true,.rows 3 22)],[],[]⟩)],c6 ⟨[(2,true,.rows 3 22)],[],[(40,.v 3)]⟩⟩)] (fc (Aq a) (fc (K4 a) (fc (K5 a) (fc (Ca a) (fc (DW a) f0))))) Tryz.func84
theorem KB(a:Lp):FT (C37 a):=kf [] (fc (K3 a) (fc (K4 a) (fc (K5 a) f0))) Tryz.func70
theorem vO(a:Lp):FT (C38 a):=kf [(12,⟨[],[(0,⟨[],[],[(32,.v 4)]⟩)],c7⟩),(3773,⟨[],[(0,⟨[],[],[(50,.v 4)]⟩)],c7⟩),(15095,⟨[],[(0,⟨[],[],[(50,.v 4)]⟩)],c7⟩)] (fc (K4 a) (fc (K5 a) f0)) Tryz.func85
theorem K39(a:Lp):FT (C39 a):=kf [] (fc (K5 a) f0) Tryz.func87
theorem K40(a:Lp):FT (C40 a):=kf [(26,⟨[],[(1,⟨[],[],[(4,.v 3)]⟩),(2,⟨[],[],[]⟩)],c6 ⟨[],[],[(8,.v 3)]⟩⟩)] (fc (K39 a) f0) dk
theorem K41(a:Lp):FT (C41 a):=kf [] (fc (K40 a) f0) e5
theorem OS(a:Lp):FT (C42 a):=kf [] (fc (K5 a) (fc (K4 a) f0)) Tryz.func148
theorem K43(a:Lp):FT (Vx a):=kf [(14,⟨[4],[],c7⟩)] (fc (OS a) (fc (iY a) f0)) Tryz.func88
theorem PY(a:Lp):FT (C44 a):=kf [] (fc (HI a) (fc (Iv a) (fc (K4 a) f0))) Tryz.func149
theorem RR(a:Lp):FT (C45 a):=kf [(6,⟨[0],[],c7⟩)] (fc (Ca a) f0) Tryz.func216
theorem Uq(a:Lp):FT (YG a):=kf [] f0 Tryz.func330
theorem SX(a:Lp):FT (C47 a):=kf [(28,⟨[],[(0,⟨[],[],[(23,.v 4)]⟩)],c7⟩),(125,⟨[],[(0,⟨[],[],[(10,.v 3)]⟩)],c7⟩),(1017,⟨[],[(0,⟨[],[],[(11,.v 3)]⟩)],c7⟩),(4071,⟨[],[(0,⟨[],[],[(11,.v 3)]⟩)],c7⟩)] f0 Tryz.func137
theorem X3(a:Lp):FT (Ux a):=kf [] (fc (Uq a) (fc (SX a) f0)) Tryz.func309
theorem Fo(a:Lp):FT (C49 a):=kf [(12,⟨[],[(0,⟨[],[],[(20,.v 4)]⟩)],c7⟩)] (fc (K3 a) (fc (X3 a) f0)) Tryz.func276
theorem K50(a:Lp):FT (C50 a):=kf [] f0 Tryz.func218
theorem YO(a:Lp):FT (Xk a):=kf [(6,⟨[],[(0,⟨[],[],[(27,.v 4)]⟩)],c7⟩)] (fc (K50 a) f0) Tryz.func274
theorem OM(a:Lp):FT (C53 a):=kf [(14,⟨[],[(2,⟨[(0,true,.rows 3 22),(1,true,.box 22 [.r 0]),(2,true,.box 4 [.v 4])],[],[]⟩)],c6 ⟨[(0,true,.rows 3 22),(1,true,.box 22 [.r 0]),(2,true,.box 4 [.v 4])],[],[(16,.v 3)]⟩⟩),(3686,⟨[],[(4,⟨[(0,true,.rows 3 22),(1,true,.box 22 [.r 0]),(2,true,.box 4 [.v 4])],[],[]⟩)],c6 ⟨[(0,true,.rows 3 22),(1,true,.box 22 [.r 0]),(2,true,.box 4 [.v 4])],[],[(22,.v 3)]⟩⟩),(1887437,⟨[],[(0,⟨[],[],[(10,.v 3),(11,.v 3)]⟩)],c7⟩),(3774878,⟨[],[(0,⟨[],[],[(44,.v 4)]⟩)],c7⟩),(3774879,⟨[],[(0,⟨[(0,true,.rows 3 22),(1,true,.box 22 [.r 0]),(2,true,.box 4 [.v 4])],[],[]⟩)],c7⟩)] (fc (Fo a) (fc (YO a) f0)) Tryz.func273
theorem QF(a:Lp):FT (Up a):=kf [(58,⟨[],[(2,⟨[(3,true,.rows 3 22),(4,true,.box 22 [.r 3]),(5,false,.dead)],[],[]⟩)],c6 ⟨[(3,true,.rows 3 22),(4,true,.box 22 [.r 3]),(5,false,.dead)],[(10,[],.box 4 [.v 4])],[(10,.p 6)]⟩⟩)] (fc (oH a) (fc (OM a) f0)) Tryz.func217
theorem Cy(a:Lp):FT (C55 a):=kf [(58,⟨[],[(2,⟨[(3,true,.rows 3 22),(4,true,.box 22 [.r 3]),(5,false,.dead)],[],[]⟩)],c6 ⟨[(3,true,.rows 3 22),(4,true,.box 22 [.r 3]),(5,false,.dead)],[(10,[],.box 4 [.v 4])],[(10,.p 6)]⟩⟩)] (fc (oH a) (fc (OM a) f0)) Tryz.func217
theorem K56(a:Lp):FT (C56 a):=kf [] (fc (K3 a) (fc (K5 a) (fc (RR a) (fc (Cy a) f0)))) Tryz.func150
theorem K57(a:Lp):FT (C57 a):=kf [(24,⟨[],[(0,⟨[],[],[(15,.v 4)]⟩)],c7⟩),(62,⟨[1],[],c7⟩),(122,⟨[],[(1,⟨[(1,true,.box 46 [.v 44]),(2,false,.dead)],[],[(9,.v 67)]⟩),(3,⟨[(2,true,.box 140 [.v 22,.v 138])],[],[]⟩)],c6 ⟨[(2,true,.box 140 [.v 22,.r 3])],[(100002,[1],.rows 142 138)],[(43,.v 3)]⟩⟩),(31335,⟨[3],[],c7⟩)] (fc (K3 a) (fc (K5 a) (fc (PY a) (fc (iY a) (fc (K56 a) f0))))) Tryz.func89
theorem K58(a:Lp):FT (C58 a):=kf [(6,⟨[0,2],[],c7⟩)] (fc (K31 a) f0) Tryz.func90
theorem K59(a:Lp):FT (C59 a):=kf [] (fc (K5 a) f0) Tryz.func152
theorem UI(a:Lp):FT (C60 a):=kf [(26,⟨[],[(1,⟨[],[],[(4,.v 3)]⟩),(2,⟨[],[],[]⟩)],c6 ⟨[],[],[(8,.v 3)]⟩⟩)] (fc (K59 a) f0) dk
theorem K61(a:Lp):FT (C61 a):=kf [] (fc (UI a) f0) e5
theorem MB(a:Lp):FT (C62 a):=kf [] (fc (K5 a) (fc (Fo a) f0)) Tryz.func222
theorem K63(a:Lp):FT (X9 a):=kf [] (fc (K5 a) (fc (MB a) f0)) Tryz.func155
theorem K64(a:Lp):FT (C64 a):=kf [] (fc (K63 a) f0) Tryz.func154
theorem K65(a:Lp):FT (C65 a):=kf [(26,⟨[],[(1,⟨[],[],[(4,.v 3)]⟩),(2,⟨[],[],[]⟩)],c6 ⟨[],[],[(8,.v 3)]⟩⟩)] (fc (K64 a) f0) Tryz.func221
theorem K66(a:Lp):FT (C66 a):=kf [] (fc (K65 a) f0) Tryz.func153
theorem xC(a:Lp):FT (Kf a):=kf [(28,⟨[],[(0,⟨[],[],[(62,.v 4)]⟩)],c7⟩),(122,⟨[],[(1,⟨[],[],[(2,.b false)]⟩),(2,⟨[],[],[]⟩)],c6 ⟨[],[],[(66,.v 3)]⟩⟩),(31332,⟨[],[(0,⟨[],[],[(111,.v 4)]⟩)],c7⟩)] (fc (K9 a) (fc (K5 a) (fc (RX a) (fc (K61 a) (fc (K66 a) f0))))) Tryz.func92
theorem K68(a:Lp):FT (Xw a):=kf [(12,⟨[],[(0,⟨[],[],[(16,.v 4)]⟩)],c7⟩)] f0 Tryz.func159
theorem RP(a:Lp):FT (C70 a):=kf [(506,⟨[],[(2,⟨[(2,true,.box 35 [.v 27,.v 28,.v 3,.r 3,.v 22,.v 32,.v 22,.v 22,.v 33])],[],[]⟩)],c6 ⟨[(2,true,.box 35 [.v 27,.v 28,.v 3,.r 3,.v 22,.r 4,.v 22,.v 22,.v 33])],[(100002,[5],.rows 120 32)],[(31,.v 3)]⟩⟩),(4090,⟨[],[(4,⟨[(2,true,.box 35 [.v 27,.v 28,.v 3,.r 3,.v 22,.v 32,.v 22,.v 22,.v 33])],[],[]⟩)],c6 ⟨[(2,true,.box 35 [.v 27,.v 28,.v 3,.r 3,.v 22,.v 32,.v 22,.v 22,.r 4])],[(100002,[8],.rows 22 33)],[(58,.v 3)]⟩⟩),(64819,⟨[3],[],c7⟩),(261785,⟨[4],[],c7⟩)] (fc (oh a) (fc (sP a) (fc (O8 a) (fc (iY a) f0)))) g9
theorem zh(a:Lp):FT (C71 a):=kf [(250,⟨[],[(3,⟨[(2,true,.rows 88 31)],[],[]⟩)],c6 ⟨[(2,true,.rows 88 31)],[],[(36,.v 3)]⟩⟩),(4006,⟨[],[(0,⟨[(2,true,.rows 88 31)],[],[]⟩)],c7⟩),(256411,⟨[],[(0,⟨[(4,true,.box 88 [.v 3,.v 3,.v 3])],[],[]⟩)],c7⟩)] (fc (xC a) (fc (K5 a) (fc (RP a) (fc (K68 a) f0)))) Tryz.func95
theorem SU(a:Lp):FT (C73 a):=kf [(58,⟨[],[(2,⟨[],[],[(3,.v 41)]⟩)],c6 ⟨[],[(3,[],.rows 101 41)],[(3,.r 0),(8,.v 3)]⟩⟩),(7475,⟨[2],[],c7⟩)] (fc (iY a) f0) Tryz.func100
theorem Xr(a:Lp):FT (Xj a):=kf [(58,⟨[],[(2,⟨[(2,true,.box 140 [.v 22,.v 138])],[],[]⟩)],c6 ⟨[(2,true,.box 140 [.v 22,.r 3])],[(100002,[1],.rows 142 138)],[(13,.v 3)]⟩⟩),(3737,⟨[8],[],c7⟩)] (fc (iY a) f0) Tryz.func160
theorem Hc(a:Lp):FT (C75 a):=kf [(58,⟨[],[(2,⟨[(2,true,.box 46 [.v 44])],[],[]⟩)],c6 ⟨[(2,true,.box 46 [.r 3])],[(100002,[0],.rows 140 44)],[(9,.v 3)]⟩⟩),(3737,⟨[4],[],c7⟩)] (fc (Xr a) f0) Tryz.func101
theorem NB(a:Lp):FT (C77 a):=kf [(262138,⟨[],[(2,⟨[(2,true,.box 56 [.v 27,.v 28,.v 3,.v 31,.v 22,.v 32,.v 22,.v 22,.v 33,.v 27,.v 28,.v 36,.v 22,.v 22,.v 22,.v 3,.v 22,.v 3,.v 3,.v 41,.v 41,.v 22,.v 22,.v 44,.v 3,.v 22,.v 22,.v 22,.v 4,.v 3,.v 3,.v 3,.v 3,.v 44,.v 53,.v 54])],[],[]⟩)],c6 ⟨[(2,true,.box 56 [.v 27,.v 28,.v 3,.v 31,.v 22,.v 32,.v 22,.v 22,.v 33,.v 27,.v 28,.v 36,.v 22,.v 22,.v 22,.v 3,.v 22,.v 3,.v 3,.v 41,.v 41,.v 22,.v 22,.v 44,.v 3,.v 22,.v 22,.v 22,.v 4,.v 3,.v 3,.v 3,.v 3,.v 44,.v 53,.r 3])],[(100002,[35],.rows 83 54)],[(104,.v 3)]⟩⟩),(33553715,⟨[3],[],c7⟩)] (fc (zh a) (fc (oh a) (fc (sP a) (fc (G7 a) (fc (iY a) (fc (SU a) (fc (Hc a) (fc (IE a) f0)))))))) Tryz.func44
theorem Py(a:Lp):FT (C78 a):=kf [(122,⟨[],[(0,⟨[],[],[(70,.v 4)]⟩)],c7⟩),(2046,⟨[7],[],c7⟩)] (fc (K24 a) (fc (UT a) (fc (KB a) (fc (vO a) (fc (K41 a) (fc (K43 a) (fc (K57 a) (fc (K58 a) (fc (NB a) f0))))))))) Tryz.func36
theorem K79(a:Lp):FT (C79 a):=kf [] (fc (K5 a) f0) Tryz.func157
theorem K80(a:Lp):FT (C80 a):=kf [(26,⟨[],[(1,⟨[],[],[(4,.v 3)]⟩),(2,⟨[],[],[]⟩)],c6 ⟨[],[],[(8,.v 3)]⟩⟩)] (fc (K79 a) f0) dk
theorem K81(a:Lp):FT (C81 a):=kf [] (fc (K80 a) f0) e5
theorem K82(a:Lp):FT (C82 a):=kf [] f0 Tryz.func224
theorem K83(a:Lp):FT (Z5 a):=kf [(26,⟨[],[(1,⟨[],[],[(4,.v 3)]⟩),(2,⟨[],[],[]⟩)],c6 ⟨[],[],[(8,.v 3)]⟩⟩)] (fc (K82 a) f0) dk
theorem K84(a:Lp):FT (C84 a):=kf [] (fc (K83 a) f0) e5
theorem Mo(a:Lp):FT (Wg a):=kf [] (fc (K84 a) f0) Tryz.func158
theorem sA(a:Lp):FT (C86 a):=kf [] (fc (OS a) (fc (K81 a) (fc (Mo a) f0))) Tryz.func94
theorem K87(a:Lp):FT (C87 a):=kf [] (fc (xC a) (fc (K3 a) (fc (sA a) f0))) Tryz.func43
theorem Ps(a:Lp):FT (C89 a):=kf [(58,⟨[],[(2,⟨[],[(3,[],.rows 3 22)],[(3,.r 1)]⟩)],c6 ⟨[],[(3,[],.rows 3 22)],[(3,.r 1),(9,.v 3)]⟩⟩),(7474,⟨[],[(0,⟨[],[],[(26,.v 4)]⟩)],c7⟩),(7475,⟨[],[(0,⟨[(1,false,.rows 3 22)],[],[(3,.r 1)]⟩)],c7⟩),(14950,⟨[2],[],c7⟩)] (fc (D5 a) f0) Tryz.func161
theorem Hj(a:Lp):FT (C90 a):=kf [(26,⟨[],[(1,⟨[],[],[(4,.v 3)]⟩),(2,⟨[],[],[]⟩)],c6 ⟨[],[],[(8,.v 3)]⟩⟩)] f0 Tryz.func136
theorem jP(a:Lp):FT (Fz a):=kf [] (fc (Hj a) f0) Tryz.func76
theorem K94(a:Lp):FT (nD a):=ae3 a (xC a) (K5 a) (jP a)
theorem Ru(a:Lp):FT (lT a):=kf [(58,⟨[],[(1,⟨[],[],[(4,.i .i64 19)]⟩),(2,⟨[],[],[]⟩)],c6 ⟨[],[],[(12,.v 3)]⟩⟩)] (fc (xC a) (fc (K5 a) f0)) Tryz.func226
theorem aiW(a:Lp):FT (mG a):=KS a (Ru a)
theorem K93(a:Lp):FT (C93 a):=kf [(12,⟨[2],[],c7⟩)] (fc (Ru a) (fc (MB a) (fc (K5 a) (fc (RP a) f0)))) Tryz.func162
theorem Wv(a:Lp):FT (C95 a):=kf [(58,⟨[],[(2,⟨[],[(3,[],.rows 101 41)],[(3,.r 0)]⟩)],c6 ⟨[],[(3,[],.rows 101 41)],[(3,.r 0),(8,.v 3)]⟩⟩),(7475,⟨[2],[],c7⟩)] (fc (iY a) f0) Tryz.func100
theorem vf(a:Lp):FT (JX a):=kf [] (fc (K5 a) (fc (K4 a) f0)) Tryz.func78
theorem ZZ(a:Lp):FT (C97 a):=kf [(26,⟨[],[(2,⟨[(0,false,.rows 5 95)],[],[(0,.r 0)]⟩)],c6 ⟨[(0,false,.rows 5 95)],[],[(0,.r 0),(7,.v 3)]⟩⟩),(420,⟨[7],[],c7⟩)] f0 Tryz.func79
theorem Xd(a:Lp):FT (C98 a):=kf [(62,⟨[5],[],c7⟩),(506,⟨[],[(2,⟨[(3,false,.dead)],[],[(4,.v 95)]⟩)],c6 ⟨[(3,false,.dead)],[(4,[],.rows 5 95)],[(4,.r 4),(30,.v 3)]⟩⟩)] (fc (vf a) (fc (ZZ a) f0)) Tryz.func30
theorem K99(a:Lp):FT (Ks a):=kf [(58,⟨[],[(2,⟨[],[],[(3,.v 179)]⟩)],c6 ⟨[],[],[(3,.v 179),(8,.v 3)]⟩⟩)] f0 Tryz.func81
theorem aaH(a:Lp):FT (H7 a):=kf [] f0 Tryz.func82
theorem afL(a:Lp):FT (kq a):=Yb a (K5 a) (vf a) (K99 a) (aaH a)
theorem akD(a:Lp):FT (Xc a):=kf [] (fc (K5 a) f0) Tryz.func279
theorem aiq(a:Lp):FT (adu a):=kf [(26,⟨[],[(1,⟨[],[],[(4,.v 3)]⟩),(2,⟨[],[],[]⟩)],c6 ⟨[],[],[(8,.v 3)]⟩⟩)] (fc (akD a) f0) dk
theorem ano(a:Lp):FT (ai3 a):=kf [] (fc (aiq a) f0) e5
theorem ald(a:Lp):FT (Z9 a):=kf [] (fc (K5 a) f0) Tryz.func280
theorem aqh(a:Lp):FT (afS a):=kf [(26,⟨[],[(1,⟨[],[],[(4,.v 3)]⟩),(2,⟨[],[],[]⟩)],c6 ⟨[],[],[(8,.v 3)]⟩⟩)] (fc (ald a) f0) dk
theorem an2(a:Lp):FT (aln a):=kf [] (fc (aqh a) f0) e5
theorem WK(a:Lp):FT (Uu a):=kf [(6,⟨[19],[],c7⟩)] (fc (ano a) (fc (an2 a) f0)) Tryz.func227
theorem acy(a:Lp):FT (aif a):=kf [(124,⟨[],[(0,⟨[],[],[(40,.v 4)]⟩)],c7⟩)] (fc (WK a) (fc (vf a) (fc (oH a) f0))) Tryz.func164
theorem aac(a:Lp):FT (anP a):=kf [(506,⟨[],[(2,⟨[],[],[(7,.v 247)]⟩)],c6 ⟨[],[(7,[],.rows 251 247)],[(7,.r 1),(27,.v 3)]⟩⟩),(32409,⟨[14],[],c7⟩)] (fc (vf a) f0) Tryz.func165
theorem mI(a:Lp):FT (acZ a):=kf [] f0 Tryz.func169
theorem Bs(a:Lp):FT (IP a):=kf [(58,⟨[],[(1,⟨[],[],[(4,.b false)]⟩),(2,⟨[],[],[]⟩)],c6 ⟨[],[],[(13,.v 3)]⟩⟩)] f0 Tryz.func196
theorem ah5(a:Lp):FT (ZA a):=kf [] (fc (K5 a) f0) Tryz.func336
theorem amW(a:Lp):FT (afj a):=kf [(26,⟨[],[(1,⟨[],[],[(4,.v 3)]⟩),(2,⟨[],[],[]⟩)],c6 ⟨[],[],[(8,.v 3)]⟩⟩)] (fc (ah5 a) f0) dk
theorem akT(a:Lp):FT (akW a):=kf [] (fc (amW a) f0) e5
theorem KO(a:Lp):FT (ab7 a):=kf [] (fc (K5 a) (fc (akT a) f0)) Tryz.func323
theorem Sw(a:Lp):FT (ahK a):=kf [] (fc (K3 a) (fc (KO a) (fc (QF a) (fc (Bs a) f0)))) Tryz.func290
theorem Wl(a:Lp):FT (ane a):=kf [] (fc (Sw a) f0) Tryz.func289
theorem aqy(a:Lp):FT (WA a):=kf [(26,⟨[],[(1,⟨[],[],[(4,.v 3)]⟩),(2,⟨[],[],[]⟩)],c6 ⟨[],[],[(8,.v 3)]⟩⟩)] (fc (Wl a) f0) Tryz.func300
theorem ZM(a:Lp):FT (aiv a):=kf [] (fc (aqy a) f0) Tryz.func248
theorem aeY(a:Lp):FT (ZD a):=kf [] f0 Tryz.func307
theorem Og(a:Lp):FT (afm a):=kf [] (fc (aeY a) f0) Tryz.func266
theorem Qb(a:Lp):FT (akZ a):=kf [(26,⟨[],[(1,⟨[],[],[(4,.v 3)]⟩),(2,⟨[],[],[]⟩)],c6 ⟨[],[],[(11,.v 3)]⟩⟩)] (fc (Og a) f0) Tryz.func288
theorem wY(a:Lp):FT (aca a):=kf [(12,⟨[],[(0,⟨[],[],[(17,.v 4)]⟩)],c7⟩),(122,⟨[],[(1,⟨[],[],[(4,.b false)]⟩),(2,⟨[],[],[]⟩)],c6 ⟨[],[],[(28,.v 3)]⟩⟩),(31332,⟨[],[(0,⟨[],[],[(33,.v 4)]⟩)],c7⟩),(501342,⟨[],[(0,⟨[],[],[(62,.v 4)]⟩)],c7⟩)] (fc (K3 a) (fc (K5 a) (fc (HI a) (fc (Iv a) (fc (PY a) (fc (Bs a) (fc (Qb a) (fc (ZM a) f0)))))))) Tryz.func235
theorem Rb(a:Lp):FT (ahM a):=kf [(24,⟨[],[(0,⟨[],[],[(11,.v 4)]⟩)],c7⟩),(102,⟨[],[(0,⟨[],[],[(30,.v 4)]⟩)],c7⟩)] (fc (Sw a) (fc (K4 a) (fc (K5 a) f0))) Tryz.func281
theorem aii(a:Lp):FT (ani a):=kf [(250,⟨[],[(2,⟨[(3,true,.rows 3 22)],[],[(14,.v 4)]⟩)],c6 ⟨[(3,true,.rows 3 22)],[],[(14,.v 4),(36,.v 3)]⟩⟩),(32051,⟨[],[(0,⟨[(3,true,.rows 3 22)],[],[(14,.v 4)]⟩)],c7⟩)] (fc (Rb a) (fc (RR a) (fc (Cy a) f0))) Tryz.func230
theorem yz(a:Lp):FT (HG a):=kf [(58,⟨[],[(2,⟨[(2,true,.box 140 [.v 22,.r 3])],[(100002,[1],.rows 142 138)],[]⟩)],c6 ⟨[(2,true,.box 140 [.v 22,.r 3])],[(100002,[1],.rows 142 138)],[(13,.v 3)]⟩⟩),(3737,⟨[8],[],c7⟩)] (fc (iY a) f0) Tryz.func160
theorem VK(a:Lp):FT (aj2 a):=kf [] (fc (aii a) f0) Tryz.func229
theorem ap7(a:Lp):FT (apN a):=kf [(250,⟨[],[(1,⟨[(0,true,.box 30 [.v 27,.v 28]),(1,true,.box 22 [.v 22]),(2,true,.box 3 [.v 3]),(3,true,.box 3 [.v 3]),(6,true,.box 46 [.v 44]),(7,false,.dead)],[],[(9,.v 67)]⟩),(2,⟨[(0,true,.box 30 [.v 27,.v 28]),(1,true,.box 22 [.v 22]),(2,true,.box 3 [.v 3]),(3,true,.box 3 [.v 3]),(7,true,.box 46 [.v 44])],[],[]⟩)],c6 ⟨[(0,true,.box 30 [.v 27,.v 28]),(1,true,.box 22 [.v 22]),(2,true,.box 3 [.v 3]),(3,true,.box 3 [.v 3]),(7,true,.box 46 [.r 8])],[(100007,[0],.rows 140 44)],[(34,.v 3)]⟩⟩),(4006,⟨[],[(0,⟨[(0,true,.box 30 [.v 27,.v 28]),(1,true,.box 22 [.v 22]),(2,true,.box 3 [.v 3]),(3,true,.box 3 [.v 3]),(7,true,.box 46 [.r 8]),(8,false,.rows 140 44)],[],[]⟩),(1,⟨[(0,true,.box 30 [.v 27,.v 28]),(1,true,.box 22 [.v 22]),(2,true,.box 3 [.v 3]),(3,true,.box 3 [.v 3]),(6,true,.box 46 [.v 44])],[],[(9,.v 67)]⟩)],c7⟩),(256414,⟨[],[(0,⟨[(10,false,.dead),(11,true,.box 140 [.v 22,.v 138])],[],[]⟩),(1,⟨[(6,true,.box 46 [.v 44]),(10,false,.dead),(11,false,.dead)],[],[(9,.v 67)]⟩),(3,⟨[(10,false,.dead),(11,false,.dead)],[],[]⟩)],c7⟩),(256415,⟨[3],[],c7⟩),(4102633,⟨[],[(0,⟨[],[],[(55,.v 4)]⟩)],c7⟩),(32821087,⟨[],[(0,⟨[(10,true,.rows 142 138)],[],[]⟩)],c7⟩)] (fc (wY a) (fc (jP a) (fc (Hj a) (fc (yz a) (fc (VK a) f0))))) Tryz.func228
theorem Zr(a:Lp):FT (ZF a):=kf [] (fc (ap7 a) f0) Tryz.func168
theorem zQ(a:Lp):FT (aki a):=kf [] f0 Tryz.func173
theorem aci(a:Lp):FT (acb a):=kf [(122,⟨[],[(3,⟨[(2,true,.rows 115 28)],[],[]⟩)],c6 ⟨[(2,true,.rows 115 28)],[],[(32,.v 3)]⟩⟩)] (fc (K3 a) (fc (K4 a) (fc (oh a) (fc (yo a) f0)))) Tryz.func240
theorem ahh(a:Lp):FT (apu a):=kf [(122,⟨[],[(3,⟨[(3,true,.rows 115 28)],[],[]⟩)],c6 ⟨[(3,true,.rows 115 28)],[],[(32,.v 3)]⟩⟩)] (fc (K3 a) (fc (K4 a) (fc (akq a) (fc (yo a) f0)))) Tryz.func240
theorem Ch(a:Lp):FT (aez a):=kf [] (fc (ahh a) f0) Tryz.func174
theorem ajX(a:Lp):FT (Uz a):=kf [] (fc (vf a) f0) Tryz.func283
theorem ahU(a:Lp):FT (abd a):=kf [(26,⟨[],[(1,⟨[],[],[(4,.v 3)]⟩),(2,⟨[],[],[]⟩)],c6 ⟨[],[],[(8,.v 3)]⟩⟩)] (fc (ajX a) f0) Tryz.func321
theorem amJ(a:Lp):FT (agV a):=kf [] (fc (ahU a) f0) Tryz.func282
theorem akJ(a:Lp):FT (Xm a):=kf [(86,⟨[6],[],c7⟩)] f0 Tryz.func284
theorem apE(a:Lp):FT (adF a):=kf [] f0 Tryz.func285
theorem YT(a:Lp):FT (an9 a):=kf [(86,⟨[6],[],c7⟩)] f0 Tryz.func284
theorem V9(a:Lp):FT (X2 a):=kf [(414,⟨[],[(0,⟨[],[],[(24,.v 4)]⟩)],c7⟩),(510,⟨[1],[],c7⟩),(1018,⟨[],[(3,⟨[(0,true,.box 3 [.v 3]),(1,true,.box 3 [.v 3]),(2,true,.box 120 [.v 22,.v 3,.v 3,.v 3]),(3,true,.box 309 [.r 5]),(4,true,.box 41 [.v 41])],[(100003,[0],.rows 312 309)],[]⟩)],c6 ⟨[(0,true,.box 3 [.v 3]),(1,true,.box 3 [.v 3]),(2,true,.box 120 [.v 22,.v 3,.v 3,.v 3]),(3,true,.box 309 [.r 5]),(4,true,.box 41 [.r 6])],[(100003,[0],.rows 312 309),(100004,[0],.rows 101 41)],[(44,.v 3)]⟩⟩),(16294,⟨[],[(0,⟨[(0,true,.box 3 [.v 3]),(1,true,.box 3 [.v 3]),(2,true,.box 120 [.v 22,.v 3,.v 3,.v 3]),(3,true,.box 309 [.r 7]),(4,true,.box 41 [.r 8]),(5,false,.dead),(6,false,.dead)],[(100003,[0],.rows 312 309),(100004,[0],.rows 101 41)],[]⟩)],c7⟩),(521423,⟨[2],[],c7⟩),(2085690,⟨[],[(0,⟨[],[],[(72,.v 4)]⟩)],c7⟩),(2085691,⟨[],[(0,⟨[(0,true,.box 3 [.v 3]),(1,true,.box 3 [.v 3]),(2,true,.box 120 [.v 22,.v 3,.v 3,.v 3]),(3,true,.box 309 [.r 8]),(4,true,.box 41 [.r 9]),(5,false,.dead),(6,false,.dead)],[(100003,[0],.rows 312 309),(100004,[0],.rows 101 41)],[]⟩)],c7⟩)] (fc (amJ a) (fc (K5 a) (fc (jP a) (fc (YT a) (fc (apE a) (fc (akJ a) f0)))))) Tryz.func231
theorem abW(a:Lp):FT (ad1 a):=kf [] f0 Tryz.func234
theorem ZC(a:Lp):FT (aqG a):=kf [] (fc (jP a) f0) Tryz.func322
theorem aeH(a:Lp):FT (aaz a):=kf [(6,⟨[],[(0,⟨[],[],[(27,.v 4)]⟩)],c7⟩)] (fc (ZC a) f0) Tryz.func274
theorem acC(a:Lp):FT (agm a):=kf [(14,⟨[],[(2,⟨[(0,true,.rows 3 22),(1,true,.box 22 [.r 0]),(2,true,.box 4 [.v 4])],[],[]⟩)],c6 ⟨[(0,true,.rows 3 22),(1,true,.box 22 [.r 0]),(2,true,.box 4 [.v 4])],[],[(16,.v 3)]⟩⟩),(3686,⟨[],[(4,⟨[(0,true,.rows 3 22),(1,true,.box 22 [.r 0]),(2,true,.box 4 [.v 4])],[],[]⟩)],c6 ⟨[(0,true,.rows 3 22),(1,true,.box 22 [.r 0]),(2,true,.box 4 [.v 4])],[],[(22,.v 3)]⟩⟩),(1887437,⟨[],[(0,⟨[],[],[(10,.v 3),(11,.v 3)]⟩)],c7⟩),(3774878,⟨[],[(0,⟨[],[],[(44,.v 4)]⟩)],c7⟩),(3774879,⟨[],[(0,⟨[(0,true,.rows 3 22),(1,true,.box 22 [.r 0]),(2,true,.box 4 [.v 4])],[],[]⟩)],c7⟩)] (fc (Fo a) (fc (aeH a) f0)) Tryz.func273
theorem ahB(a:Lp):FT (WE a):=kf [(58,⟨[],[(2,⟨[(3,true,.rows 3 22),(4,true,.box 22 [.r 3]),(5,false,.dead)],[],[]⟩)],c6 ⟨[(3,true,.rows 3 22),(4,true,.box 22 [.r 3]),(5,false,.dead)],[(10,[],.box 4 [.v 4])],[(10,.p 6)]⟩⟩)] (fc (oH a) (fc (acC a) f0)) Tryz.func217
theorem amf(a:Lp):FT (ac6 a):=kf [(122,⟨[],[(3,⟨[(4,true,.rows 3 22)],[],[]⟩)],c6 ⟨[(4,true,.rows 3 22)],[],[(55,.v 3)]⟩⟩),(126,⟨[4],[],c7⟩)] (fc (Rb a) (fc (K5 a) (fc (oH a) (fc (ahB a) (fc (Cy a) f0))))) Tryz.func287
theorem akb(a:Lp):FT (aiE a):=kf [] (fc (amf a) f0) Tryz.func286
theorem ao8(a:Lp):FT (WU a):=kf [(250,⟨[],[(1,⟨[(0,true,.box 30 [.v 27,.v 28]),(1,true,.box 22 [.v 22]),(2,true,.box 3 [.v 3]),(3,true,.box 3 [.v 3]),(4,true,.box 3 [.v 3]),(7,true,.box 46 [.v 44]),(8,false,.dead)],[],[(9,.v 67)]⟩),(2,⟨[(0,true,.box 30 [.v 27,.v 28]),(1,true,.box 22 [.v 22]),(2,true,.box 3 [.v 3]),(3,true,.box 3 [.v 3]),(4,true,.box 3 [.v 3]),(8,true,.box 46 [.v 44])],[],[]⟩)],c6 ⟨[(0,true,.box 30 [.v 27,.v 28]),(1,true,.box 22 [.v 22]),(2,true,.box 3 [.v 3]),(3,true,.box 3 [.v 3]),(4,true,.box 3 [.v 3]),(8,true,.box 46 [.r 9])],[(100008,[0],.rows 140 44)],[(34,.v 3)]⟩⟩),(4006,⟨[],[(0,⟨[(0,true,.box 30 [.v 27,.v 28]),(1,true,.box 22 [.v 22]),(2,true,.box 3 [.v 3]),(3,true,.box 3 [.v 3]),(4,true,.box 3 [.v 3]),(8,true,.box 46 [.r 9]),(9,false,.rows 140 44)],[],[]⟩),(1,⟨[(0,true,.box 30 [.v 27,.v 28]),(1,true,.box 22 [.v 22]),(2,true,.box 3 [.v 3]),(3,true,.box 3 [.v 3]),(4,true,.box 3 [.v 3]),(7,true,.box 46 [.v 44])],[],[(9,.v 67)]⟩)],c7⟩),(256414,⟨[],[(0,⟨[(11,false,.dead),(12,true,.box 140 [.v 22,.v 138])],[],[]⟩),(1,⟨[(7,true,.box 46 [.v 44]),(11,false,.dead),(12,false,.dead)],[],[(9,.v 67)]⟩),(3,⟨[(11,false,.dead),(12,false,.dead)],[],[]⟩)],c7⟩),(256415,⟨[3],[],c7⟩),(4102633,⟨[],[(0,⟨[],[],[(55,.v 4)]⟩)],c7⟩),(32821087,⟨[],[(0,⟨[(11,true,.rows 142 138)],[],[]⟩)],c7⟩)] (fc (wY a) (fc (jP a) (fc (Hj a) (fc (yz a) (fc (akb a) f0))))) Tryz.func228
theorem am2(a:Lp):FT (adl a):=kf [] (fc (ao8 a) f0) Tryz.func233
theorem Vt(a:Lp):FT (Wu a):=kf [] (fc (abW a) (fc (am2 a) f0)) Tryz.func232
theorem apW(a:Lp):FT (akC a):=kf [] f0 Tryz.func206
theorem Zf(a:Lp):FT (aqf a):=kf [(58,⟨[],[(2,⟨[],[(5,[],.rows 3 22)],[(5,.r 0)]⟩)],c6 ⟨[],[(5,[],.rows 3 22)],[(5,.r 0),(8,.v 3)]⟩⟩),(7475,⟨[],[(0,⟨[(0,false,.rows 3 22)],[],[(5,.r 0)]⟩)],c7⟩),(14950,⟨[2],[],c7⟩)] (fc (apW a) f0) Tryz.func46
theorem HE(a:Lp):FT (ahy a):=kf [] (fc (Zf a) f0) Tryz.func132
theorem ab9(a:Lp):FT (amV a):=kf [] (fc (jP a) f0) Tryz.func291
theorem ag4(a:Lp):FT (Wj a):=kf [(26,⟨[],[(1,⟨[],[],[(4,.v 3)]⟩),(2,⟨[],[],[]⟩)],c6 ⟨[],[],[(8,.v 3)]⟩⟩)] (fc (ab9 a) f0) dk
theorem ae1(a:Lp):FT (ajO a):=kf [] (fc (ag4 a) f0) e5
theorem ajR(a:Lp):FT (apj a):=kf [] (fc (HE a) (fc (ae1 a) f0)) Tryz.func237
theorem aoH(a:Lp):FT (Zp a):=kf [(12,⟨[],[(0,⟨[],[],[(13,.v 4)]⟩)],c7⟩)] (fc (iY a) f0) Tryz.func238
theorem amw(a:Lp):FT (ae9 a):=kf [(58,⟨[],[(2,⟨[(3,true,.box 140 [.r 2,.r 4])],[(100003,[1],.rows 142 138)],[]⟩)],c6 ⟨[(3,true,.box 140 [.r 2,.r 4])],[(100003,[1],.rows 142 138)],[(13,.v 3)]⟩⟩),(3737,⟨[6,8],[],c7⟩)] (fc (oH a) (fc (iY a) f0)) Tryz.func160
theorem U1(a:Lp):FT (Hy a):=kf [(122,⟨[],[(2,⟨[(3,true,.box 142 [.v 3,.v 22])],[],[]⟩)],c6 ⟨[(3,true,.box 142 [.v 3,.r 4])],[(100003,[1],.rows 3 22)],[(26,.v 3)]⟩⟩),(7833,⟨[9],[],c7⟩)] f0 Tryz.func295
theorem apn(a:Lp):FT (ajx a):=kf [] (fc (Qb a) f0) Tryz.func294
theorem YA(a:Lp):FT (ao7 a):=kf [(6,⟨[],[(2,⟨[(0,true,.rows 140 44)],[],[]⟩)],c6 ⟨[(0,true,.rows 140 44)],[],[(8,.v 3)]⟩⟩),(402,⟨[],[(4,⟨[(0,true,.rows 140 44)],[],[]⟩)],c6 ⟨[(0,true,.rows 140 44)],[],[(9,.v 3)]⟩⟩),(3216,⟨[],[(0,⟨[],[],[(34,.v 4)]⟩)],c7⟩)] (fc (apn a) f0) Tryz.func342
theorem VS(a:Lp):FT (Zd a):=kf [(28,⟨[],[(2,⟨[(0,true,.rows 140 44)],[],[(7,.v 3)]⟩)],c6 ⟨[(0,true,.rows 140 44)],[],[(7,.v 3),(8,.v 3)]⟩⟩),(62,⟨[],[(4,⟨[],[],[]⟩)],c6 ⟨[],[],[(6,.v 3)]⟩⟩),(3988,⟨[],[(6,⟨[],[],[(7,.i .i64 0)]⟩)],c6 ⟨[],[],[(7,.i .i64 0),(8,.v 3)]⟩⟩)] (fc (YA a) f0) Tryz.func338
theorem abL(a:Lp):FT (alM a):=kf [] (fc (VS a) f0) Tryz.func325
theorem agA(a:Lp):FT (adP a):=kf [] (fc (U9 a) f0) Tryz.func324
theorem aeu(a:Lp):FT (xI a):=kf [] (fc (agA a) (fc (abL a) f0)) Tryz.func292
theorem QO(a:Lp):FT (uY a):=UK a (Bs a) (U1 a) (yz a) (aeu a)
theorem ahn(a:Lp):FT (aa5 a):=kf [(120,⟨[],[(0,⟨[],[],[(34,.v 4)]⟩)],c7⟩),(506,⟨[],[(3,⟨[(3,false,.dead)],[],[(13,.v 44)]⟩)],c6 ⟨[(3,false,.rows 140 44)],[],[(13,.r 3),(62,.v 3)]⟩⟩),(8102,⟨[],[(0,⟨[(3,false,.rows 140 44)],[],[(13,.r 3)]⟩)],c7⟩),(518558,⟨[],[(0,⟨[(5,false,.dead),(6,false,.dead),(7,true,.box 140 [.v 22,.v 138])],[],[]⟩)],c7⟩),(518559,⟨[2],[],c7⟩),(2074234,⟨[],[(5,⟨[(6,true,.rows 142 138)],[],[]⟩)],c6 ⟨[(6,true,.rows 142 138)],[],[(102,.v 3)]⟩⟩),(531004007,⟨[],[(0,⟨[(6,true,.rows 142 138)],[],[]⟩)],c7⟩)] (fc (wY a) (fc (K5 a) (fc (apm a) (fc (ajR a) (fc (amw a) (fc (aoH a) (fc (QO a) f0))))))) Tryz.func172
theorem al4(a:Lp):FT (agN a):=kf [] (fc (K5 a) f0) Tryz.func296
theorem aj1(a:Lp):FT (Xf a):=kf [(26,⟨[],[(1,⟨[],[],[(4,.v 3)]⟩),(2,⟨[],[],[]⟩)],c6 ⟨[],[],[(8,.v 3)]⟩⟩)] (fc (al4 a) f0) dk
theorem aoX(a:Lp):FT (ady a):=kf [] (fc (aj1 a) f0) e5
theorem My(a:Lp):FT (ai6 a):=kf [] (fc (K3 a) (fc (K5 a) (fc (aoX a) f0))) Tryz.func241
theorem Vg(a:Lp):FT (aag a):=kf [(12,⟨[],[(0,⟨[],[],[(43,.v 4)]⟩)],c7⟩),(28,⟨[],[(0,⟨[],[],[(52,.v 4)]⟩)],c7⟩),(250,⟨[],[(2,⟨[(4,true,.rows 3 22)],[],[]⟩)],c6 ⟨[(4,true,.rows 3 22)],[],[(61,.v 3)]⟩⟩),(506,⟨[],[(4,⟨[(4,true,.rows 3 22)],[],[]⟩)],c6 ⟨[(4,true,.rows 3 22)],[],[(76,.v 3)]⟩⟩),(129636,⟨[],[(0,⟨[],[],[(98,.v 4)]⟩)],c7⟩),(129637,⟨[],[(0,⟨[(4,true,.rows 3 22)],[],[]⟩)],c7⟩),(129638,⟨[],[(0,⟨[],[],[(121,.v 4)]⟩)],c7⟩),(129639,⟨[],[(0,⟨[(4,true,.rows 3 22)],[],[]⟩)],c7⟩)] (fc (Aq a) (fc (My a) (fc (Ja a) (fc (DW a) f0)))) Tryz.func175
theorem aa7(a:Lp):FT (aao a):=kf [(14,⟨[0],[],c7⟩),(122,⟨[],[(3,⟨[(2,true,.rows 3 22)],[],[]⟩)],c6 ⟨[(2,true,.rows 3 22)],[],[(40,.v 3)]⟩⟩)] (fc (Aq a) (fc (K4 a) (fc (K5 a) (fc (Ca a) (fc (DW a) f0))))) Tryz.func84
theorem YV(a:Lp):FT (agb a):=kf [(26,⟨[],[(1,⟨[],[],[(2,.b false)]⟩),(2,⟨[],[],[]⟩)],c6 ⟨[],[],[(14,.v 3)]⟩⟩),(28,⟨[],[(0,⟨[],[],[(30,.v 4)]⟩)],c7⟩)] (fc (K5 a) f0) Tryz.func204
theorem ad8(a:Lp):FT (alz a):=kf [(58,⟨[],[(1,⟨[],[],[(2,.v 3)]⟩),(2,⟨[],[],[]⟩)],c6 ⟨[],[],[(8,.v 3)]⟩⟩)] f0 Tryz.func265
theorem QI(a:Lp):FT (acX a):=kf [(6,⟨[10],[],c7⟩)] (fc (Og a) (fc (ad8 a) f0)) Tryz.func205
theorem PS(a:Lp):FT (air a):=kf [(58,⟨[],[(1,⟨[],[],[(2,.b false)]⟩),(2,⟨[],[],[]⟩)],c6 ⟨[],[],[(10,.v 3)]⟩⟩),(7474,⟨[],[(0,⟨[],[],[(35,.v 4)]⟩)],c7⟩)] (fc (YV a) (fc (QI a) f0)) Tryz.func131
theorem alA(a:Lp):FT (an4 a):=kf [(60,⟨[],[(2,⟨[],[],[(9,.v 3)]⟩)],c6 ⟨[],[],[(9,.v 3),(10,.v 3)]⟩⟩),(1931,⟨[],[(0,⟨[],[],[(9,.v 3),(10,.v 3)]⟩)],c7⟩)] (fc (QI a) f0) Tryz.func243
theorem QV(a:Lp):FT (anE a):=kf [(28,⟨[],[(0,⟨[],[],[(32,.v 4)]⟩)],c7⟩),(124,⟨[],[(0,⟨[],[],[(65,.v 4)]⟩)],c7⟩)] (fc (PS a) (fc (K5 a) (fc (alA a) (fc (anc a) (fc (ail a) f0))))) Tryz.func176
theorem aoy(a:Lp):FT (acP a):=kf [] f0 Tryz.func177
theorem amk(a:Lp):FT (ana a):=kf [(26,⟨[],[(1,⟨[],[],[(4,.v 3)]⟩),(2,⟨[],[],[]⟩)],c6 ⟨[],[],[(8,.v 3)]⟩⟩)] (fc (aoy a) f0) Tryz.func221
theorem UO(a:Lp):FT (acj a):=kf [] (fc (amk a) f0) Tryz.func153
theorem aaI(a:Lp):FT (ahX a):=kf [] (fc (iY a) f0) Tryz.func299
theorem Ym(a:Lp):FT (anr a):=kf [(6,⟨[5],[],c7⟩)] (fc (iY a) (fc (oH a) f0)) Tryz.func299
theorem BU(a:Lp):FT (aeI a):=kf [(414,⟨[],[(0,⟨[],[],[(25,.v 4)]⟩)],c7⟩)] (fc (sA a) (fc (K5 a) (fc (Ym a) f0))) Tryz.func245
theorem abr(a:Lp):FT (akc a):=kf [] (fc (BU a) f0) Tryz.func178
theorem ags(a:Lp):FT (apX a):=kf [] (fc (BU a) f0) Tryz.func179
theorem aek(a:Lp):FT (ag5 a):=kf [] f0 Tryz.func180
theorem ai9(a:Lp):FT (amy a):=kf [(26,⟨[],[(1,⟨[],[],[(4,.v 3)]⟩),(2,⟨[],[],[]⟩)],c6 ⟨[],[],[(8,.v 3)]⟩⟩)] (fc (aek a) f0) dk
theorem an5(a:Lp):FT (VU a):=kf [] (fc (ai9 a) f0) e5
theorem RQ(a:Lp):FT (acp a):=kf [(102,⟨[],[(0,⟨[],[],[(12,.v 4)]⟩)],c7⟩)] (fc (sA a) (fc (Mo a) (fc (aaI a) f0))) Tryz.func246
theorem Um(a:Lp):FT (aoY a):=kf [] (fc (RQ a) f0) Tryz.func181
theorem aoL(a:Lp):FT (YW a):=kf [] f0 Tryz.func249
theorem Xx(a:Lp):FT (aeR a):=kf [(26,⟨[],[(1,⟨[],[],[(4,.v 3)]⟩),(2,⟨[],[],[]⟩)],c6 ⟨[],[],[(8,.v 3)]⟩⟩)] (fc (aoL a) f0) Tryz.func300
theorem U5(a:Lp):FT (UQ a):=kf [] (fc (Xx a) f0) Tryz.func248
theorem aaV(a:Lp):FT (abu a):=kf [] (fc (U5 a) f0) Tryz.func247
theorem afX(a:Lp):FT (ag9 a):=kf [(26,⟨[],[(1,⟨[],[],[(4,.v 3)]⟩),(2,⟨[],[],[]⟩)],c6 ⟨[],[],[(8,.v 3)]⟩⟩)] (fc (aaV a) f0) Tryz.func116
theorem adW(a:Lp):FT (Xy a):=kf [] (fc (afX a) f0) Tryz.func49
theorem aiN(a:Lp):FT (adY a):=kf [(12,⟨[],[(0,⟨[],[],[(16,.v 4)]⟩)],c7⟩),(28,⟨[],[(0,⟨[],[],[(25,.v 4)]⟩)],c7⟩)] (fc (K3 a) (fc (KO a) (fc (QF a) f0))) Tryz.func301
theorem agC(a:Lp):FT (ajq a):=kf [(12,⟨[],[(0,⟨[],[],[(16,.v 4)]⟩)],c7⟩),(28,⟨[],[(0,⟨[],[],[(25,.v 4)]⟩)],c7⟩)] (fc (K3 a) (fc (KO a) (fc (Cy a) f0))) Tryz.func301
theorem alq(a:Lp):FT (aaw a):=kf [(6,⟨[0],[],c7⟩),(58,⟨[],[(2,⟨[(3,true,.rows 3 22)],[],[]⟩)],c6 ⟨[(3,true,.rows 3 22)],[],[(20,.v 3)]⟩⟩)] (fc (Ca a) (fc (HE a) (fc (agC a) f0))) Tryz.func250
theorem aqC(a:Lp):FT (agj a):=kf [(252,⟨[],[(0,⟨[],[],[(44,.v 4)]⟩)],c7⟩),(2042,⟨[],[(1,⟨[(3,true,.box 46 [.v 44])],[],[(9,.v 67)]⟩),(2,⟨[],[],[(13,.v 44)]⟩)],c6 ⟨[],[(13,[],.rows 140 44)],[(13,.r 5),(49,.v 3)]⟩⟩),(522854,⟨[],[(0,⟨[(7,false,.dead),(8,true,.box 140 [.v 22,.v 138])],[],[]⟩),(1,⟨[(3,true,.box 46 [.v 44]),(7,false,.dead),(8,false,.dead)],[],[(9,.v 67)]⟩)],c7⟩),(522855,⟨[2],[],c7⟩),(2091418,⟨[],[(1,⟨[(3,true,.box 46 [.v 44]),(7,false,.dead)],[],[(9,.v 67)]⟩),(4,⟨[(7,true,.rows 142 138)],[],[]⟩)],c6 ⟨[(7,true,.rows 142 138)],[],[(58,.v 3)]⟩⟩)] (fc (wY a) (fc (aci a) (fc (adW a) (fc (yz a) (fc (alq a) (fc (QO a) f0)))))) Tryz.func182
theorem SK(a:Lp):FT (alE a):=kf [] f0 Tryz.func258
theorem W0(a:Lp):FT (ac3 a):=kf [] (fc (K5 a) f0) Tryz.func261
theorem Uy(a:Lp):FT (aiB a):=kf [(26,⟨[],[(1,⟨[],[],[(4,.v 3)]⟩),(2,⟨[],[],[]⟩)],c6 ⟨[],[],[(8,.v 3)]⟩⟩)] (fc (W0 a) f0) dk
theorem aau(a:Lp):FT (aoa a):=kf [] (fc (Uy a) f0) e5
theorem MA(a:Lp):FT (X4 a):=kf [(26,⟨[],[(1,⟨[],[],[(4,.b false)]⟩),(2,⟨[],[],[]⟩)],c6 ⟨[],[],[(12,.v 3)]⟩⟩),(6758,⟨[],[(1,⟨[],[],[(4,.b false)]⟩),(4,⟨[],[],[]⟩)],c6 ⟨[],[],[(19,.v 3)]⟩⟩)] (fc (aau a) f0) Tryz.func198
theorem ado(a:Lp):FT (ak1 a):=kf [] (fc (vO a) (fc (sA a) (fc (MA a) f0))) Tryz.func302
theorem IN(a:Lp):FT (aqH a):=kf [(414,⟨[],[(0,⟨[],[],[(19,.v 4)]⟩)],c7⟩),(6654,⟨[],[(0,⟨[],[],[(33,.v 4)]⟩)],c7⟩),(26622,⟨[],[(0,⟨[],[],[(49,.v 4)]⟩)],c7⟩)] (fc (vO a) (fc (SK a) (fc (sA a) (fc (ado a) f0)))) Tryz.func251
theorem agi(a:Lp):FT (aaC a):=kf [] (fc (IN a) f0) Tryz.func183
theorem ak7(a:Lp):FT (anl a):=kf [(12,⟨[],[(0,⟨[],[],[(14,.v 67)]⟩)],c7⟩)] (fc (IN a) f0) Tryz.func184
theorem ai1(a:Lp):FT (WH a):=kf [] (fc (IN a) f0) Tryz.func185
theorem anT(a:Lp):FT (ah3 a):=kf [(506,⟨[],[(2,⟨[(2,true,.box 35 [.v 27,.r 3,.v 3,.r 4,.v 22,.v 32,.v 22,.v 22,.v 33])],[],[]⟩)],c6 ⟨[(2,true,.box 35 [.v 27,.r 3,.v 3,.r 4,.v 22,.r 5,.v 22,.v 22,.v 33])],[(100002,[5],.rows 120 32)],[(31,.v 3)]⟩⟩),(4090,⟨[],[(4,⟨[(2,true,.box 35 [.v 27,.r 3,.v 3,.r 4,.v 22,.v 32,.v 22,.v 22,.v 33])],[],[]⟩)],c6 ⟨[(2,true,.box 35 [.v 27,.r 3,.v 3,.r 4,.v 22,.v 32,.v 22,.v 22,.r 5])],[(100002,[8],.rows 22 33)],[(58,.v 3)]⟩⟩),(64819,⟨[3],[],c7⟩),(261785,⟨[4],[],c7⟩)] (fc (oh a) (fc (yo a) (fc (O8 a) (fc (iY a) f0)))) g9
theorem RN(a:Lp):FT (anx a):=kf [(102,⟨[],[(0,⟨[],[],[(14,.v 4)]⟩)],c7⟩),(250,⟨[],[(3,⟨[(3,true,.rows 88 31)],[],[]⟩)],c6 ⟨[(3,true,.rows 88 31)],[],[(44,.v 3)]⟩⟩),(32051,⟨[],[(0,⟨[(3,true,.rows 88 31)],[],[]⟩)],c7⟩)] (fc (xC a) (fc (K5 a) (fc (anT a) f0))) Tryz.func186
theorem Lh(a:Lp):FT (afu a):=kf [(12,⟨[],[(0,⟨[],[],[(26,.v 4)]⟩)],c7⟩),(250,⟨[],[(1,⟨[(2,true,.box 46 [.v 44]),(3,false,.dead)],[],[(7,.v 67)]⟩),(2,⟨[(3,true,.box 46 [.v 44])],[],[(9,.v 67)]⟩)],c6 ⟨[(3,true,.box 46 [.r 4])],[(100003,[0],.rows 140 44)],[(9,.v 67),(31,.v 3)]⟩⟩),(64102,⟨[],[(0,⟨[(6,false,.dead),(7,true,.box 140 [.v 22,.v 138])],[],[(9,.v 67)]⟩),(1,⟨[(2,true,.box 46 [.v 44]),(6,false,.dead),(7,false,.dead)],[],[(7,.v 67)]⟩)],c7⟩),(64103,⟨[3],[],c7⟩),(256410,⟨[],[(1,⟨[(2,true,.box 46 [.v 44]),(6,false,.dead)],[],[(7,.v 67)]⟩),(4,⟨[(6,true,.rows 142 138)],[],[(9,.v 67)]⟩)],c6 ⟨[(6,true,.rows 142 138)],[],[(9,.v 67),(40,.v 3)]⟩⟩),(262564253,⟨[],[(0,⟨[],[],[(9,.v 67)]⟩)],c7⟩)] (fc (K3 a) (fc (K5 a) (fc (yz a) (fc (aiN a) f0)))) Tryz.func252
theorem Z2(a:Lp):FT (VF a):=kf [(12,⟨[],[(0,⟨[],[],[(43,.v 4)]⟩)],c7⟩),(28,⟨[],[(0,⟨[],[],[(52,.v 4)]⟩)],c7⟩),(250,⟨[],[(2,⟨[(5,true,.rows 3 22)],[],[]⟩)],c6 ⟨[(5,true,.rows 3 22)],[],[(61,.v 3)]⟩⟩),(506,⟨[],[(4,⟨[(5,true,.rows 3 22)],[],[]⟩)],c6 ⟨[(5,true,.rows 3 22)],[],[(76,.v 3)]⟩⟩),(129636,⟨[],[(0,⟨[],[],[(98,.v 4)]⟩)],c7⟩),(129637,⟨[],[(0,⟨[(5,true,.rows 3 22)],[],[]⟩)],c7⟩),(129638,⟨[],[(0,⟨[],[],[(121,.v 4)]⟩)],c7⟩),(129639,⟨[],[(0,⟨[(5,true,.rows 3 22)],[],[]⟩)],c7⟩)] (fc (Aq a) (fc (My a) (fc (Ja a) (fc (DW a) f0)))) Tryz.func175
theorem Xl(a:Lp):FT (ach a):=kf [] f0 Tryz.func47
theorem ac2(a:Lp):FT (ahS a):=kf [(58,⟨[],[(2,⟨[],[(5,[],.rows 3 22)],[(5,.r 0)]⟩)],c6 ⟨[],[(5,[],.rows 3 22)],[(5,.r 0),(8,.v 3)]⟩⟩),(7475,⟨[],[(0,⟨[(0,false,.rows 3 22)],[],[(5,.r 0)]⟩)],c7⟩),(14950,⟨[2],[],c7⟩)] (fc (Xl a) f0) Tryz.func46
theorem Nz(a:Lp):FT (YP a):=kf [] (fc (ac2 a) f0) Tryz.func16
theorem afM(a:Lp):FT (aeF a):=kf [] (fc (jP a) f0) Tryz.func303
theorem akM(a:Lp):FT (aj8 a):=kf [(26,⟨[],[(1,⟨[],[],[(4,.v 3)]⟩),(2,⟨[],[],[]⟩)],c6 ⟨[],[],[(8,.v 3)]⟩⟩)] (fc (afM a) f0) dk
theorem aiz(a:Lp):FT (apU a):=kf [] (fc (akM a) f0) e5
theorem ant(a:Lp):FT (ag1 a):=kf [(230,⟨[],[(0,⟨[],[],[(23,.v 4)]⟩)],c7⟩),(250,⟨[],[(3,⟨[(3,true,.rows 115 28)],[],[]⟩)],c6 ⟨[(3,true,.rows 115 28)],[],[(49,.v 3)]⟩⟩),(506,⟨[],[(5,⟨[(3,true,.rows 115 28)],[],[]⟩)],c6 ⟨[(3,true,.rows 115 28)],[],[(61,.v 3)]⟩⟩)] (fc (K3 a) (fc (K4 a) (fc (aiz a) (fc (oh a) (fc (yo a) f0))))) Tryz.func253
theorem ali(a:Lp):FT (amt a):=kf [(24,⟨[],[(0,⟨[],[],[(11,.v 4)]⟩)],c7⟩),(102,⟨[],[(0,⟨[],[],[(22,.v 4)]⟩)],c7⟩)] (fc (KB a) (fc (wY a) (fc (K5 a) f0))) Tryz.func254
theorem aqo(a:Lp):FT (VL a):=kf [] (fc (K5 a) f0) Tryz.func50
theorem an8(a:Lp):FT (ajl a):=kf [(26,⟨[],[(1,⟨[],[],[(4,.v 3)]⟩),(2,⟨[],[],[]⟩)],c6 ⟨[],[],[(8,.v 3)]⟩⟩)] (fc (aqo a) f0) Tryz.func116
theorem WR(a:Lp):FT (aoT a):=kf [] (fc (an8 a) f0) Tryz.func49
theorem acI(a:Lp):FT (YS a):=kf [] (fc (WR a) f0) Tryz.func48
theorem aai(a:Lp):FT (aly a):=kf [(58,⟨[],[(2,⟨[],[(5,[],.rows 3 22)],[(5,.r 0)]⟩)],c6 ⟨[],[(5,[],.rows 3 22)],[(5,.r 0),(8,.v 3)]⟩⟩),(7475,⟨[],[(0,⟨[(0,false,.rows 3 22)],[],[(5,.r 0)]⟩)],c7⟩),(14950,⟨[2],[],c7⟩)] (fc (acI a) f0) Tryz.func46
theorem Cm(a:Lp):FT (aib a):=kf [] (fc (aai a) f0) Tryz.func17
theorem adi(a:Lp):FT (ZV a):=kf [(58,⟨[],[(2,⟨[],[],[(3,.v 3)]⟩)],c6 ⟨[],[],[(3,.v 3),(11,.v 3)]⟩⟩),(250,⟨[],[(4,⟨[(0,false,.rows 3 22)],[],[(6,.r 0)]⟩)],c6 ⟨[(0,false,.rows 3 22)],[],[(6,.r 0),(27,.v 3)]⟩⟩)] (fc (abI a) f0) Tryz.func328
theorem aia(a:Lp):FT (afF a):=kf [] (fc (KB a) (fc (K5 a) f0)) Tryz.func71
theorem af3(a:Lp):FT (VX a):=kf [] f0 Tryz.func138
theorem Rr(a:Lp):FT (acv a):=kf [(12,⟨[],[(0,⟨[],[],[(20,.v 4)]⟩)],c7⟩)] (fc (K3 a) (fc (af3 a) (fc (SX a) f0))) Tryz.func77
theorem SB(a:Lp):FT (YY a):=kf [] f0 Tryz.func75
theorem Wr(a:Lp):FT (aeU a):=kf [] f0 Tryz.func259
theorem aqE(a:Lp):FT (akn a):=kf [(58,⟨[],[(2,⟨[(1,true,.rows 275 272)],[],[]⟩)],c6 ⟨[(1,true,.rows 275 272)],[],[(14,.v 3)]⟩⟩),(122,⟨[],[(4,⟨[(1,true,.rows 275 272)],[],[]⟩)],c6 ⟨[(1,true,.rows 275 272)],[],[(5,.v 4)]⟩⟩),(7475,⟨[],[(0,⟨[(1,true,.rows 275 272)],[],[]⟩)],c7⟩),(7830,⟨[],[(6,⟨[(1,true,.rows 275 272)],[],[(5,.v 4)]⟩)],c6 ⟨[(1,true,.rows 275 272)],[],[(5,.v 4),(32,.v 3)]⟩⟩),(2004582,⟨[],[(0,⟨[],[],[(73,.v 4)]⟩)],c7⟩),(2004583,⟨[],[(0,⟨[(1,true,.rows 275 272)],[],[(5,.v 4)]⟩)],c7⟩)] (fc (SB a) (fc (Wr a) f0)) Tryz.func193
theorem ZW(a:Lp):FT (ap5 a):=kf [] (fc (SB a) f0) Tryz.func194
theorem W9(a:Lp):FT (ahe a):=kf [(26,⟨[],[(1,⟨[],[],[(4,.v 3)]⟩),(2,⟨[],[],[]⟩)],c6 ⟨[],[],[(8,.v 3)]⟩⟩)] (fc (ZW a) f0) Tryz.func73
theorem acT(a:Lp):FT (amH a):=kf [(250,⟨[],[(2,⟨[(2,false,.rows 3 22),(3,false,.dead)],[(4,[],.rows 3 22)],[(4,.r 4),(6,.r 2)]⟩)],c6 ⟨[(2,false,.rows 3 22),(3,false,.dead)],[(4,[],.rows 3 22),(9,[],.box 3 [.v 3])],[(4,.r 4),(6,.r 2),(9,.p 5)]⟩⟩),(16019,⟨[7,11],[],c7⟩)] (fc (aqE a) (fc (W9 a) f0)) Tryz.func117
theorem Qg(a:Lp):FT (V6 a):=kf [] (fc (jP a) f0) Tryz.func119
theorem afD(a:Lp):FT (aju a):=kf [(26,⟨[],[(1,⟨[],[],[(4,.v 3)]⟩),(2,⟨[],[],[]⟩)],c6 ⟨[],[],[(8,.v 3)]⟩⟩)] (fc (Qg a) f0) Tryz.func73
theorem aky(a:Lp):FT (ao5 a):=kf [(122,⟨[],[(2,⟨[(0,true,.rows 174 167)],[],[(5,.v 3)]⟩)],c6 ⟨[(0,true,.rows 174 167)],[],[(5,.v 3),(6,.v 3)]⟩⟩),(126,⟨[2],[],c7⟩),(7827,⟨[],[(0,⟨[(0,true,.rows 174 167)],[],[(5,.v 3)]⟩)],c7⟩)] (fc (afD a) (fc (Qg a) f0)) Tryz.func118
theorem aio(a:Lp):FT (Y7 a):=kf [(58,⟨[],[(2,⟨[(3,true,.rows 4 168)],[],[]⟩)],c6 ⟨[(3,true,.rows 4 168)],[],[(31,.v 3)]⟩⟩),(122,⟨[],[(4,⟨[(3,true,.rows 4 168)],[],[]⟩)],c6 ⟨[(3,true,.rows 4 168)],[],[(46,.v 3)]⟩⟩),(250,⟨[],[(6,⟨[(4,true,.rows 4 168)],[],[]⟩)],c6 ⟨[(4,true,.rows 4 168)],[],[(58,.v 3)]⟩⟩),(506,⟨[],[(8,⟨[(5,true,.box 170 [.v 3,.r 6,.r 3,.r 4])],[(100005,[1],.rows 174 167)],[]⟩)],c6 ⟨[(5,true,.box 170 [.v 3,.r 6,.r 3,.r 4])],[(100005,[1],.rows 174 167)],[(70,.v 3)]⟩⟩),(8102,⟨[],[(0,⟨[(5,true,.box 170 [.v 3,.r 6,.r 3,.r 4]),(6,false,.rows 174 167)],[],[]⟩)],c7⟩),(518555,⟨[],[(0,⟨[(5,true,.box 170 [.v 3,.r 6,.r 3,.r 4]),(6,false,.rows 174 167)],[],[]⟩)],c7⟩),(518559,⟨[],[(0,⟨[(5,true,.box 170 [.v 3,.r 6,.r 3,.r 4]),(6,false,.rows 174 167)],[],[]⟩)],c7⟩),(1037110,⟨[9],[],c7⟩),(1037118,⟨[9],[],c7⟩)] (fc (jP a) (fc (Rr a) f0)) Tryz.func72
theorem Sr(a:Lp):FT (alI a):=kf [(2042,⟨[],[(2,⟨[(5,true,.rows 4 168)],[],[]⟩)],c6 ⟨[(5,true,.rows 4 168)],[],[(46,.v 3)]⟩⟩)] (fc (aia a) (fc (aio a) (fc (acT a) (fc (aky a) f0)))) Tryz.func52
theorem VW(a:Lp):FT (UY a):=kf [(58,⟨[],[(2,⟨[],[],[(5,.v 3)]⟩)],c6 ⟨[],[],[(5,.v 3),(11,.v 3)]⟩⟩),(14949,⟨[],[(0,⟨[],[],[(5,.v 3)]⟩)],c7⟩),(14951,⟨[],[(0,⟨[],[],[(5,.v 3)]⟩)],c7⟩)] (fc (Rr a) f0) Tryz.func29
theorem Tw(a:Lp):FT (abF a):=kf [] (fc (Sr a) (fc (VW a) f0)) Tryz.func203
theorem M3(a:Lp):FT (aod a):=kf [] (fc (Tw a) f0) Tryz.func305
theorem WD(a:Lp):FT (X6 a):=kf [(26,⟨[],[(1,⟨[],[],[(4,.v 3)]⟩),(2,⟨[],[],[]⟩)],c6 ⟨[],[],[(8,.v 3)]⟩⟩)] (fc (M3 a) f0) dk
theorem acu(a:Lp):FT (ad6 a):=kf [(122,⟨[],[(2,⟨[(0,true,.rows 3 22)],[],[(5,.v 3)]⟩)],c6 ⟨[(0,true,.rows 3 22)],[],[(5,.v 3),(6,.v 3)]⟩⟩),(126,⟨[2],[],c7⟩),(7827,⟨[],[(0,⟨[(0,true,.rows 3 22)],[],[(5,.v 3)]⟩)],c7⟩)] (fc (WD a) (fc (M3 a) f0)) Tryz.func256
theorem Z8(a:Lp):FT (T9 a):=kf [(58,⟨[],[(1,⟨[(0,false,.rows 3 22)],[],[(2,.r 0)]⟩),(2,⟨[],[],[]⟩)],c6 ⟨[],[],[(3,.v 3)]⟩⟩),(59690,⟨[],[(4,⟨[(0,true,.rows 3 22)],[],[(3,.v 3)]⟩)],c6 ⟨[(0,true,.rows 3 22)],[],[(3,.v 3),(5,.v 3)]⟩⟩),(59694,⟨[2],[],c7⟩),(1910089,⟨[],[(0,⟨[(0,true,.rows 3 22)],[],[(3,.v 3)]⟩)],c7⟩)] f0 Tryz.func329
theorem afh(a:Lp):FT (aaG a):=kf [(6,⟨[2],[],c7⟩)] (fc (adi a) (fc (D5 a) (fc (Z8 a) f0))) Tryz.func304
theorem aj4(a:Lp):FT (agr a):=kf [(58,⟨[],[(2,⟨[],[(9,[],.rows 3 22)],[(9,.r 3)]⟩)],c6 ⟨[],[(9,[],.rows 3 22)],[(9,.r 3),(17,.v 3)]⟩⟩)] (fc (Cm a) (fc (afh a) (fc (acu a) f0))) Tryz.func255
theorem Qn(a:Lp):FT (alL a):=kf [] (fc (jP a) f0) Tryz.func257
theorem amP(a:Lp):FT (ade a):=kf [(26,⟨[],[(1,⟨[],[],[(4,.v 3)]⟩),(2,⟨[],[],[]⟩)],c6 ⟨[],[],[(8,.v 3)]⟩⟩)] (fc (Qn a) f0) dk
theorem akQ(a:Lp):FT (aiM a):=kf [(122,⟨[],[(2,⟨[(0,true,.rows 3 22)],[],[(5,.v 3)]⟩)],c6 ⟨[(0,true,.rows 3 22)],[],[(5,.v 3),(6,.v 3)]⟩⟩),(126,⟨[2],[],c7⟩),(7827,⟨[],[(0,⟨[(0,true,.rows 3 22)],[],[(5,.v 3)]⟩)],c7⟩)] (fc (amP a) (fc (Qn a) f0)) Tryz.func256
theorem apO(a:Lp):FT (aoh a):=kf [] (fc (ant a) (fc (ali a) (fc (Lh a) (fc (aj4 a) (fc (oH a) (fc (akQ a) f0)))))) Tryz.func188
theorem afZ(a:Lp):FT (afy a):=kf [(1662,⟨[],[(0,⟨[],[],[(25,.v 4)]⟩)],c7⟩)] (fc (vO a) (fc (SK a) f0)) Tryz.func189
theorem Wi(a:Lp):FT (ak5 a):=kf [] (fc (RQ a) f0) Tryz.func190
theorem ab1(a:Lp):FT (Ud a):=kf [] (fc (BU a) f0) Tryz.func191
theorem ZJ(a:Lp):FT (ahV a):=kf [] (fc (BU a) f0) Tryz.func192
theorem aeT(a:Lp):FT (V8 a):=kf [(262138,⟨[],[(2,⟨[(2,true,.box 56 [.v 27,.v 28,.v 3,.v 31,.v 22,.v 32,.v 22,.v 22,.v 33,.v 27,.v 28,.v 36,.v 22,.v 22,.v 22,.v 3,.v 22,.v 3,.v 3,.v 41,.v 41,.v 22,.v 22,.v 44,.v 3,.v 22,.v 22,.v 22,.v 4,.v 3,.v 3,.v 3,.v 3,.v 44,.v 53,.r 3])],[(100002,[35],.rows 83 54)],[]⟩)],c6 ⟨[(2,true,.box 56 [.v 27,.v 28,.v 3,.v 31,.v 22,.v 32,.v 22,.v 22,.v 33,.v 27,.v 28,.v 36,.v 22,.v 22,.v 22,.v 3,.v 22,.v 3,.v 3,.v 41,.v 41,.v 22,.v 22,.v 44,.v 3,.v 22,.v 22,.v 22,.v 4,.v 3,.v 3,.v 3,.v 3,.v 44,.v 53,.r 3])],[(100002,[35],.rows 83 54)],[(104,.v 3)]⟩⟩),(33553715,⟨[3],[],c7⟩)] (fc (zh a) (fc (oh a) (fc (sP a) (fc (G7 a) (fc (iY a) (fc (SU a) (fc (Hc a) (fc (IE a) f0)))))))) Tryz.func44
theorem acM(a:Lp):FT (afk a):=kf [] (fc (zh a) f0) Tryz.func103
theorem ahI(a:Lp):FT (apV a):=kf [(262138,⟨[],[(2,⟨[(2,true,.box 56 [.v 27,.v 28,.v 3,.v 31,.v 22,.v 32,.v 22,.v 22,.v 33,.v 27,.v 28,.v 36,.v 22,.v 22,.v 22,.v 3,.v 22,.v 3,.v 3,.r 3,.r 4,.v 22,.v 22,.v 44,.v 3,.v 22,.v 22,.v 22,.v 4,.v 3,.v 3,.v 3,.v 3,.v 44,.v 53,.r 5])],[(100002,[35],.rows 83 54)],[]⟩)],c6 ⟨[(2,true,.box 56 [.v 27,.v 28,.v 3,.v 31,.v 22,.v 32,.v 22,.v 22,.v 33,.v 27,.v 28,.v 36,.v 22,.v 22,.v 22,.v 3,.v 22,.v 3,.v 3,.r 3,.r 4,.v 22,.v 22,.v 44,.v 3,.v 22,.v 22,.v 22,.v 4,.v 3,.v 3,.v 3,.v 3,.v 44,.v 53,.r 5])],[(100002,[35],.rows 83 54)],[(104,.v 3)]⟩⟩),(33553715,⟨[3],[],c7⟩)] (fc (zh a) (fc (oh a) (fc (sP a) (fc (G7 a) (fc (iY a) (fc (Wv a) (fc (Hc a) (fc (IE a) f0)))))))) Tryz.func44
theorem amm(a:Lp):FT (acQ a):=kf [] (fc (Ps a) (fc (jP a) (fc (K93 a) f0))) Tryz.func104
theorem akm(a:Lp):FT (VQ a):=kf [] (fc (K94 a) f0) Tryz.func105
theorem apf(a:Lp):FT (aff a):=kf [] (fc (mI a) (fc (Zr a) f0)) Tryz.func167
theorem am6(a:Lp):FT (YU a):=kf [(11,⟨[],[(0,⟨[(2,true,.box 133 [.v 27,.v 28,.v 3,.v 31,.v 22,.v 32,.v 22,.v 22,.v 33,.v 27,.v 28,.v 36,.v 22,.v 22,.v 22,.v 3,.v 22,.v 3,.v 3,.r 0,.v 41,.v 22,.v 22,.v 44,.v 3,.v 22,.v 22,.v 22,.v 4,.v 3,.v 3,.v 3,.v 3,.v 44,.v 53,.r 1,.v 22])],[],[]⟩)],c7⟩),(14,⟨[1002],[],c7⟩)] (fc (apf a) (fc (zQ a) (fc (Ch a) f0))) Tryz.func166
theorem VC(a:Lp):FT (ahD a):=kf [(11,⟨[],[(0,⟨[(2,true,.box 133 [.v 27,.v 28,.v 3,.v 31,.v 22,.v 32,.v 22,.v 22,.v 33,.v 27,.v 28,.v 36,.v 22,.v 22,.v 22,.v 3,.v 22,.v 3,.v 3,.r 0,.v 41,.v 22,.v 22,.v 44,.v 3,.v 22,.v 22,.v 22,.v 4,.v 3,.v 3,.v 3,.v 3,.v 44,.v 53,.r 1,.v 22])],[],[]⟩)],c7⟩),(14,⟨[1002],[],c7⟩)] (fc (Vt a) (fc (zQ a) (fc (Ch a) f0))) Tryz.func166
theorem ap3(a:Lp):FT (abq a):=kf [(60,⟨[],[(0,⟨[],[],[(43,.v 4)]⟩)],c7⟩)] (fc (V9 a) (fc (mI a) (fc (VC a) f0))) Tryz.func170
theorem Zk(a:Lp):FT (ajT a):=kf [(510,⟨[7],[],c7⟩),(65530,⟨[],[(3,⟨[(0,true,.rows 101 41),(1,true,.rows 83 54),(2,true,.box 133 [.v 27,.v 28,.v 3,.v 31,.v 22,.v 32,.v 22,.v 22,.v 33,.v 27,.v 28,.v 36,.v 22,.v 22,.v 22,.v 3,.v 22,.v 3,.v 3,.r 0,.v 41,.v 22,.v 22,.v 44,.v 3,.v 22,.v 22,.v 22,.v 4,.v 3,.v 3,.v 3,.v 3,.v 44,.v 53,.r 1,.v 22]),(3,false,.dead),(4,true,.box 130 [.p 2]),(8,false,.dead)],[],[]⟩)],c6 ⟨[(0,true,.rows 101 41),(1,true,.rows 83 54),(2,true,.box 133 [.v 27,.v 28,.v 3,.v 31,.v 22,.v 32,.v 22,.v 22,.v 33,.v 27,.v 28,.v 36,.v 22,.v 22,.v 22,.v 3,.v 22,.v 3,.v 3,.r 0,.v 41,.v 22,.v 22,.v 44,.v 3,.v 22,.v 22,.v 22,.v 4,.v 3,.v 3,.v 3,.v 3,.v 44,.v 53,.r 1,.v 22]),(3,false,.dead),(4,true,.box 130 [.p 2]),(8,true,.box 120 [.v 22,.v 3,.v 3,.v 3])],[],[(135,.v 3)]⟩⟩),(131066,⟨[],[(5,⟨[(0,true,.rows 101 41),(1,true,.rows 83 54),(2,true,.box 133 [.v 27,.v 28,.v 3,.v 31,.v 22,.v 32,.v 22,.v 22,.v 33,.v 27,.v 28,.v 36,.v 22,.v 22,.v 22,.v 3,.v 22,.v 3,.v 3,.r 0,.v 41,.v 22,.v 22,.v 44,.v 3,.v 22,.v 22,.v 22,.v 4,.v 3,.v 3,.v 3,.v 3,.v 44,.v 53,.r 1,.v 22])],[],[]⟩)],c6 ⟨[(0,true,.rows 101 41),(1,true,.rows 83 54),(2,true,.box 133 [.v 27,.v 28,.v 3,.v 31,.v 22,.v 32,.v 22,.v 22,.v 33,.v 27,.v 28,.v 36,.v 22,.v 22,.v 22,.v 3,.v 22,.v 3,.v 3,.r 0,.v 41,.v 22,.v 22,.v 44,.v 3,.v 22,.v 22,.v 22,.v 4,.v 3,.v 3,.v 3,.v 3,.v 44,.v 53,.r 1,.v 22])],[],[(154,.v 3)]⟩⟩),(4193944,⟨[],[(0,⟨[(3,false,.dead)],[(11,[],.box 251 [.v 3,.v 3,.v 3,.v 3])],[(11,.p 9)]⟩)],c7⟩),(16776499,⟨[],[(0,⟨[(0,true,.rows 101 41),(1,true,.rows 83 54),(2,true,.box 133 [.v 27,.v 28,.v 3,.v 31,.v 22,.v 32,.v 22,.v 22,.v 33,.v 27,.v 28,.v 36,.v 22,.v 22,.v 22,.v 3,.v 22,.v 3,.v 3,.r 0,.v 41,.v 22,.v 22,.v 44,.v 3,.v 22,.v 22,.v 22,.v 4,.v 3,.v 3,.v 3,.v 3,.v 44,.v 53,.r 1,.v 22])],[],[]⟩)],c7⟩)] (fc (K5 a) (fc (Xd a) (fc (afL a) (fc (acy a) (fc (aac a) (fc (am6 a) (fc (iY a) (fc (jP a) (fc (ap3 a) f0))))))))) Tryz.func106
theorem aen(a:Lp):FT (adV a):=kf [(30,⟨[1002],[],c7⟩),(58,⟨[],[(0,⟨[],[],[(55,.v 4)]⟩)],c7⟩)] (fc (aiW a) (fc (mI a) (fc (ahn a) (fc (zQ a) (fc (Ch a) f0))))) Tryz.func107
theorem acf(a:Lp):FT (al7 a):=kf [(14,⟨[12],[],c7⟩),(125,⟨[],[(0,⟨[(5,true,.rows 3 22)],[],[]⟩),(1,⟨[],[],[(4,.v 67)]⟩)],c7⟩),(4014,⟨[],[(2,⟨[(5,true,.rows 3 22)],[],[]⟩)],c6 ⟨[(5,true,.rows 3 22)],[],[(89,.v 3)]⟩⟩)] (fc (K5 a) (fc (mI a) (fc (aa7 a) (fc (Vg a) (fc (QV a) f0))))) Tryz.func108
theorem ahd(a:Lp):FT (agf a):=kf [] (fc (K5 a) (fc (UO a) (fc (abr a) (fc (ags a) (fc (an5 a) (fc (Um a) (fc (mI a) (fc (aqC a) f0)))))))) Tryz.func109
theorem ae8(a:Lp):FT (aoB a):=kf [] (fc (mI a) (fc (agi a) f0)) Tryz.func110
theorem ajV(a:Lp):FT (aby a):=kf [] (fc (mI a) (fc (ak7 a) f0)) Tryz.func111
theorem ahQ(a:Lp):FT (Uo a):=kf [] (fc (mI a) (fc (ai1 a) f0)) Tryz.func112
theorem Sd(a:Lp):FT (adZ a):=kf [(62,⟨[],[(0,⟨[(3,true,.box 133 [.v 27,.v 28,.v 3,.v 31,.v 22,.v 32,.v 22,.v 22,.v 33,.v 27,.v 28,.v 36,.v 22,.v 22,.v 22,.v 3,.v 22,.v 3,.v 3,.r 0,.r 1,.v 22,.v 22,.v 44,.v 3,.v 22,.v 22,.v 22,.v 4,.v 3,.v 3,.v 3,.v 3,.v 44,.v 53,.r 2,.v 22]),(4,true,.rows 90 36),(6,false,.dead)],[],[]⟩)],c7⟩),(509,⟨[],[(0,⟨[(3,true,.box 133 [.v 27,.v 28,.v 3,.v 31,.v 22,.v 32,.v 22,.v 22,.v 33,.v 27,.v 28,.v 36,.v 22,.v 22,.v 22,.v 3,.v 22,.v 3,.v 3,.r 0,.r 1,.v 22,.v 22,.v 44,.v 3,.v 22,.v 22,.v 22,.v 4,.v 3,.v 3,.v 3,.v 3,.v 44,.v 53,.r 2,.v 22])],[],[]⟩),(1,⟨[(3,true,.box 133 [.v 27,.v 28,.v 3,.v 31,.v 22,.v 32,.v 22,.v 22,.v 33,.v 27,.v 28,.v 36,.v 22,.v 22,.v 22,.v 3,.v 22,.v 3,.v 3,.r 0,.r 1,.v 22,.v 22,.v 44,.v 3,.v 22,.v 22,.v 22,.v 4,.v 3,.v 3,.v 3,.v 3,.v 44,.v 53,.r 2,.v 22])],[],[(4,.v 67)]⟩)],c7⟩),(2036,⟨[1002],[],c7⟩)] (fc (VN a) (fc (oh a) (fc (yo a) (fc (mI a) (fc (Lh a) (fc (zQ a) (fc (Ch a) (fc (Z2 a) f0)))))))) Tryz.func187
theorem U8(a:Lp):FT (W7 a):=kf [] (fc (RN a) (fc (Sd a) f0)) Tryz.func113
theorem apA(a:Lp):FT (agl a):=kf [] (fc (RN a) (fc (Sd a) f0)) Tryz.func113
theorem YM(a:Lp):FT (Z7 a):=kf [(12,⟨[],[(0,⟨[],[],[(40,.v 4)]⟩)],c7⟩),(254,⟨[13],[],c7⟩),(506,⟨[],[(2,⟨[],[],[(6,.v 22)]⟩)],c6 ⟨[],[(6,[],.rows 3 22)],[(6,.r 6),(62,.v 3)]⟩⟩),(2045,⟨[],[(0,⟨[(3,true,.box 133 [.v 27,.v 28,.v 3,.v 31,.v 22,.v 32,.v 22,.v 22,.v 33,.v 27,.v 28,.v 36,.v 22,.v 22,.v 22,.v 3,.v 22,.v 3,.v 3,.r 0,.r 1,.v 22,.v 22,.v 44,.v 3,.v 22,.v 22,.v 22,.v 4,.v 3,.v 3,.v 3,.v 3,.v 44,.v 53,.r 2,.v 22])],[],[]⟩)],c7⟩),(16362,⟨[],[(4,⟨[(3,true,.box 133 [.v 27,.v 28,.v 3,.v 31,.v 22,.v 32,.v 22,.v 22,.v 33,.v 27,.v 28,.v 36,.v 22,.v 22,.v 22,.v 3,.v 22,.v 3,.v 3,.r 0,.r 1,.v 22,.v 22,.v 44,.v 3,.v 22,.v 22,.v 22,.v 4,.v 3,.v 3,.v 3,.v 3,.v 44,.v 53,.r 2,.v 22])],[],[]⟩)],c6 ⟨[(3,true,.box 133 [.v 27,.v 28,.v 3,.v 31,.v 22,.v 32,.v 22,.v 22,.v 33,.v 27,.v 28,.v 36,.v 22,.v 22,.v 22,.v 3,.v 22,.v 3,.v 3,.r 0,.r 1,.v 22,.v 22,.v 44,.v 3,.v 22,.v 22,.v 22,.v 4,.v 3,.v 3,.v 3,.v 3,.v 44,.v 53,.r 2,.v 22])],[],[(105,.v 3)]⟩⟩),(64819,⟨[],[(0,⟨[(6,false,.rows 3 22)],[],[(6,.r 6)]⟩)],c7⟩),(129638,⟨[3],[],c7⟩),(4188775,⟨[],[(0,⟨[(3,true,.box 133 [.v 27,.v 28,.v 3,.v 31,.v 22,.v 32,.v 22,.v 22,.v 33,.v 27,.v 28,.v 36,.v 22,.v 22,.v 22,.v 3,.v 22,.v 3,.v 3,.r 0,.r 1,.v 22,.v 22,.v 44,.v 3,.v 22,.v 22,.v 22,.v 4,.v 3,.v 3,.v 3,.v 3,.v 44,.v 53,.r 2,.v 22])],[],[]⟩)],c7⟩)] (fc (K5 a) (fc (mI a) (fc (Nz a) (fc (apO a) (fc (QV a) (fc (apA a) f0)))))) Tryz.func114
theorem V5(a:Lp):FT (aiD a):=kf [(29,⟨[],[(0,⟨[(3,true,.box 133 [.v 27,.v 28,.v 3,.v 31,.v 22,.v 32,.v 22,.v 22,.v 33,.v 27,.v 28,.v 36,.v 22,.v 22,.v 22,.v 3,.v 22,.v 3,.v 3,.r 0,.r 1,.v 22,.v 22,.v 44,.v 3,.v 22,.v 22,.v 22,.v 4,.v 3,.v 3,.v 3,.v 3,.v 44,.v 53,.r 2,.v 22])],[],[]⟩),(1,⟨[(3,true,.box 133 [.v 27,.v 28,.v 3,.v 31,.v 22,.v 32,.v 22,.v 22,.v 33,.v 27,.v 28,.v 36,.v 22,.v 22,.v 22,.v 3,.v 22,.v 3,.v 3,.r 0,.r 1,.v 22,.v 22,.v 44,.v 3,.v 22,.v 22,.v 22,.v 4,.v 3,.v 3,.v 3,.v 3,.v 44,.v 53,.r 2,.v 22])],[],[(4,.v 67)]⟩)],c7⟩),(61,⟨[],[(0,⟨[(3,true,.box 133 [.v 27,.v 28,.v 3,.v 31,.v 22,.v 32,.v 22,.v 22,.v 33,.v 27,.v 28,.v 36,.v 22,.v 22,.v 22,.v 3,.v 22,.v 3,.v 3,.r 0,.r 1,.v 22,.v 22,.v 44,.v 3,.v 22,.v 22,.v 22,.v 4,.v 3,.v 3,.v 3,.v 3,.v 44,.v 53,.r 2,.v 22])],[],[]⟩),(1,⟨[(3,true,.box 133 [.v 27,.v 28,.v 3,.v 31,.v 22,.v 32,.v 22,.v 22,.v 33,.v 27,.v 28,.v 36,.v 22,.v 22,.v 22,.v 3,.v 22,.v 3,.v 3,.r 0,.r 1,.v 22,.v 22,.v 44,.v 3,.v 22,.v 22,.v 22,.v 4,.v 3,.v 3,.v 3,.v 3,.v 44,.v 53,.r 2,.v 22])],[],[(4,.v 67)]⟩)],c7⟩),(250,⟨[],[(1,⟨[(3,true,.box 133 [.v 27,.v 28,.v 3,.v 31,.v 22,.v 32,.v 22,.v 22,.v 33,.v 27,.v 28,.v 36,.v 22,.v 22,.v 22,.v 3,.v 22,.v 3,.v 3,.r 0,.r 1,.v 22,.v 22,.v 44,.v 3,.v 22,.v 22,.v 22,.v 4,.v 3,.v 3,.v 3,.v 3,.v 44,.v 53,.r 2,.v 22])],[],[(4,.v 67)]⟩),(2,⟨[(3,true,.box 133 [.v 27,.v 28,.v 3,.v 31,.v 22,.v 32,.v 22,.v 22,.v 33,.v 27,.v 28,.v 36,.v 22,.v 22,.v 22,.v 3,.v 22,.v 3,.v 3,.r 0,.r 1,.v 22,.v 22,.v 44,.v 3,.v 22,.v 22,.v 22,.v 4,.v 3,.v 3,.v 3,.v 3,.v 44,.v 53,.r 2,.v 22])],[],[]⟩)],c6 ⟨[(3,true,.box 133 [.v 27,.v 28,.v 3,.v 31,.v 22,.v 32,.v 22,.v 22,.v 33,.v 27,.v 28,.v 36,.v 22,.v 22,.v 22,.v 3,.v 22,.v 3,.v 3,.r 0,.r 1,.v 22,.v 22,.v 44,.v 3,.v 22,.v 22,.v 22,.v 4,.v 3,.v 3,.v 3,.v 3,.v 44,.v 53,.r 2,.v 22])],[],[(73,.v 3)]⟩⟩),(64101,⟨[],[(0,⟨[(3,true,.box 133 [.v 27,.v 28,.v 3,.v 31,.v 22,.v 32,.v 22,.v 22,.v 33,.v 27,.v 28,.v 36,.v 22,.v 22,.v 22,.v 3,.v 22,.v 3,.v 3,.r 0,.r 1,.v 22,.v 22,.v 44,.v 3,.v 22,.v 22,.v 22,.v 4,.v 3,.v 3,.v 3,.v 3,.v 44,.v 53,.r 2,.v 22])],[],[]⟩),(1,⟨[(3,true,.box 133 [.v 27,.v 28,.v 3,.v 31,.v 22,.v 32,.v 22,.v 22,.v 33,.v 27,.v 28,.v 36,.v 22,.v 22,.v 22,.v 3,.v 22,.v 3,.v 3,.r 0,.r 1,.v 22,.v 22,.v 44,.v 3,.v 22,.v 22,.v 22,.v 4,.v 3,.v 3,.v 3,.v 3,.v 44,.v 53,.r 2,.v 22])],[],[(4,.v 67)]⟩)],c7⟩),(64103,⟨[],[(0,⟨[(3,true,.box 133 [.v 27,.v 28,.v 3,.v 31,.v 22,.v 32,.v 22,.v 22,.v 33,.v 27,.v 28,.v 36,.v 22,.v 22,.v 22,.v 3,.v 22,.v 3,.v 3,.r 0,.r 1,.v 22,.v 22,.v 44,.v 3,.v 22,.v 22,.v 22,.v 4,.v 3,.v 3,.v 3,.v 3,.v 44,.v 53,.r 2,.v 22])],[],[]⟩),(1,⟨[(3,true,.box 133 [.v 27,.v 28,.v 3,.v 31,.v 22,.v 32,.v 22,.v 22,.v 33,.v 27,.v 28,.v 36,.v 22,.v 22,.v 22,.v 3,.v 22,.v 3,.v 3,.r 0,.r 1,.v 22,.v 22,.v 44,.v 3,.v 22,.v 22,.v 22,.v 4,.v 3,.v 3,.v 3,.v 3,.v 44,.v 53,.r 2,.v 22])],[],[(4,.v 67)]⟩)],c7⟩)] (fc (Ps a) (fc (mI a) (fc (afZ a) (fc (Wi a) (fc (ab1 a) (fc (ZJ a) f0)))))) Tryz.func115
theorem NW(a:Lp):FT (ZG a):=kf [(507,⟨[],[(0,⟨[(3,true,.rows 101 41),(4,false,.dead),(5,true,.rows 83 54),(6,true,.box 133 [.v 27,.v 28,.v 3,.v 31,.v 22,.v 32,.v 22,.v 22,.v 33,.v 27,.v 28,.v 36,.v 22,.v 22,.v 22,.v 3,.v 22,.v 3,.v 3,.r 3,.v 41,.v 22,.v 22,.v 44,.v 3,.v 22,.v 22,.v 22,.v 4,.v 3,.v 3,.v 3,.v 3,.v 44,.v 53,.r 5,.v 22])],[],[(7,.v 67)]⟩)],c7⟩),(1014,⟨[],[(0,⟨[(3,true,.rows 101 41),(4,false,.dead),(5,true,.rows 83 54),(6,true,.box 133 [.v 27,.v 28,.v 3,.v 31,.v 22,.v 32,.v 22,.v 22,.v 33,.v 27,.v 28,.v 36,.v 22,.v 22,.v 22,.v 3,.v 22,.v 3,.v 3,.r 3,.v 41,.v 22,.v 22,.v 44,.v 3,.v 22,.v 22,.v 22,.v 4,.v 3,.v 3,.v 3,.v 3,.v 44,.v 53,.r 5,.v 22])],[],[(7,.v 67)]⟩)],c7⟩),(1021,⟨[],[(0,⟨[(3,false,.dead),(5,false,.dead),(7,true,.box 56 [.v 27,.v 28,.v 3,.v 31,.v 22,.v 32,.v 22,.v 22,.v 33,.v 27,.v 28,.v 36,.v 22,.v 22,.v 22,.v 3,.v 22,.v 3,.v 3,.v 41,.v 41,.v 22,.v 22,.v 44,.v 3,.v 22,.v 22,.v 22,.v 4,.v 3,.v 3,.v 3,.v 3,.v 44,.v 53,.r 8])],[(100007,[35],.rows 83 54)],[]⟩)],c7⟩),(1022,⟨[12],[],c7⟩),(4084,⟨[1],[],c7⟩),(8171,⟨[],[(0,⟨[(7,true,.box 56 [.v 27,.v 28,.v 3,.v 31,.v 22,.v 32,.v 22,.v 22,.v 33,.v 27,.v 28,.v 36,.v 22,.v 22,.v 22,.v 3,.v 22,.v 3,.v 3,.v 41,.v 41,.v 22,.v 22,.v 44,.v 3,.v 22,.v 22,.v 22,.v 4,.v 3,.v 3,.v 3,.v 3,.v 44,.v 53,.r 8])],[],[]⟩)],c7⟩)] (fc (K87 a) (fc (ahI a) (fc (K88 a) (fc (acM a) (fc (amm a) (fc (akm a) (fc (Zk a) (fc (aen a) (fc (acf a) (fc (ahd a) (fc (ae8 a) (fc (ajV a) (fc (ahQ a) (fc (U8 a) (fc (YM a) (fc (V5 a) (fc (aeT a) f0))))))))))))))))) Tryz.func15
theorem Zy(a:Lp):FT (afr a):=kf [(26,⟨[],[(2,⟨[(0,true,.box 56 [.v 27,.v 28,.v 3,.v 31,.v 22,.v 32,.v 22,.v 22,.v 33,.v 27,.v 28,.v 36,.v 22,.v 22,.v 22,.v 3,.v 22,.v 3,.v 3,.v 41,.v 41,.v 22,.v 22,.v 44,.v 3,.v 22,.v 22,.v 22,.v 4,.v 3,.v 3,.v 3,.v 3,.v 44,.v 53,.v 54])],[],[]⟩)],c6 ⟨[(0,true,.box 56 [.v 27,.v 28,.v 3,.v 31,.v 22,.v 32,.v 22,.v 22,.v 33,.v 27,.v 28,.v 36,.v 22,.v 22,.v 22,.v 3,.v 22,.v 3,.v 3,.v 41,.v 41,.v 22,.v 22,.v 44,.v 3,.v 22,.v 22,.v 22,.v 4,.v 3,.v 3,.v 3,.v 3,.v 44,.v 53,.v 54])],[],[(9,.v 3)]⟩⟩)] (fc (NW a) (fc (NB a) f0)) Tryz.func20
theorem aeE(a:Lp):FT (ak3 a):=kf [(6,⟨[0],[],c7⟩)] f0 Tryz.func65
theorem ajt(a:Lp):FT (ZY a):=kf [] (fc (Bs a) f0) Tryz.func195
theorem ahw(a:Lp):FT (akB a):=kf [(26,⟨[],[(1,⟨[],[],[(4,.v 3)]⟩),(2,⟨[],[],[]⟩)],c6 ⟨[],[],[(8,.v 3)]⟩⟩)] (fc (ajt a) f0) Tryz.func116
theorem amc(a:Lp):FT (anU a):=kf [] (fc (ahw a) f0) Tryz.func49
theorem Q9(a:Lp):FT (afg a):=kf [(26,⟨[],[(1,⟨[],[],[(4,.b false)]⟩),(2,⟨[],[],[]⟩)],c6 ⟨[],[],[(11,.v 3)]⟩⟩)] (fc (Cm a) (fc (jP a) (fc (amc a) f0))) Tryz.func122
theorem ao4(a:Lp):FT (akN a):=kf [] (fc (Q9 a) f0) Tryz.func121
theorem Yd(a:Lp):FT (aqp a):=kf [] (fc (Q9 a) f0) Tryz.func123
theorem Vq(a:Lp):FT (afp a):=kf [] (fc (jP a) f0) Tryz.func260
theorem abl(a:Lp):FT (ap0 a):=kf [(58,⟨[],[(2,⟨[],[(5,[],.rows 3 22)],[(5,.r 0)]⟩)],c6 ⟨[],[(5,[],.rows 3 22)],[(5,.r 0),(8,.v 3)]⟩⟩),(7475,⟨[],[(0,⟨[(0,false,.rows 3 22)],[],[(5,.r 0)]⟩)],c7⟩),(14950,⟨[2],[],c7⟩)] (fc (Vq a) f0) Tryz.func46
theorem MS(a:Lp):FT (aha a):=kf [] (fc (abl a) f0) Tryz.func197
theorem aee(a:Lp):FT (amC a):=kf [(12,⟨[],[(0,⟨[],[],[(21,.v 4)]⟩)],c7⟩)] (fc (MS a) (fc (MA a) f0)) Tryz.func124
theorem ab2(a:Lp):FT (abQ a):=kf [] (fc (jP a) f0) Tryz.func199
theorem ag0(a:Lp):FT (ama a):=kf [(26,⟨[],[(1,⟨[],[],[(4,.v 3)]⟩),(2,⟨[],[],[]⟩)],c6 ⟨[],[],[(8,.v 3)]⟩⟩)] (fc (ab2 a) f0) Tryz.func221
theorem alJ(a:Lp):FT (apP a):=kf [] (fc (ag0 a) f0) Tryz.func153
theorem ajM(a:Lp):FT (agW a):=kf [] (fc (alJ a) f0) Tryz.func126
theorem aoE(a:Lp):FT (amn a):=kf [] (fc (ajM a) f0) Tryz.func125
theorem R7(a:Lp):FT (VE a):=kf [] (fc (jP a) f0) Tryz.func133
theorem UX(a:Lp):FT (aje a):=kf [(26,⟨[],[(1,⟨[],[],[(4,.v 3)]⟩),(2,⟨[],[],[]⟩)],c6 ⟨[],[],[(8,.v 3)]⟩⟩)] (fc (R7 a) f0) dk
theorem api(a:Lp):FT (aoP a):=kf [] (fc (UX a) f0) e5
theorem Yx(a:Lp):FT (YN a):=kf [] (fc (R7 a) f0) Tryz.func134
theorem adK(a:Lp):FT (alu a):=kf [(26,⟨[],[(1,⟨[],[],[(4,.v 3)]⟩),(2,⟨[],[],[]⟩)],c6 ⟨[],[],[(8,.v 3)]⟩⟩)] (fc (Yx a) f0) dk
theorem abD(a:Lp):FT (UH a):=kf [] (fc (adK a) f0) e5
theorem agy(a:Lp):FT (abm a):=kf [(126,⟨[4],[],c7⟩)] (fc (HE a) (fc (api a) (fc (abD a) f0))) Tryz.func69
theorem aet(a:Lp):FT (anY a):=kf [(58,⟨[],[(2,⟨[(2,true,.box 90 [.v 3,.v 3])],[],[]⟩)],c6 ⟨[(2,true,.box 90 [.v 3,.v 3])],[],[(18,.v 3)]⟩⟩),(59802,⟨[],[(4,⟨[],[],[(10,.v 3),(11,.v 3)]⟩)],c6 ⟨[],[],[(10,.v 3),(11,.v 3),(26,.v 3)]⟩⟩),(59805,⟨[],[(0,⟨[(2,true,.box 90 [.v 3,.v 3])],[],[]⟩)],c7⟩),(30618829,⟨[],[(0,⟨[],[],[(10,.v 3)]⟩)],c7⟩),(30618831,⟨[],[(0,⟨[],[],[(11,.v 3)]⟩)],c7⟩)] (fc (agy a) f0) Tryz.func27
theorem aji(a:Lp):FT (Xq a):=kf [] (fc (aet a) (fc (MS a) (fc (K5 a) f0))) Tryz.func127
theorem aoc(a:Lp):FT (adL a):=kf [] f0 Tryz.func264
theorem alZ(a:Lp):FT (aqr a):=kf [(26,⟨[],[(1,⟨[],[],[(4,.v 3)]⟩),(2,⟨[],[],[]⟩)],c6 ⟨[],[],[(8,.v 3)]⟩⟩)] (fc (aoc a) f0) Tryz.func306
theorem Us(a:Lp):FT (aal a):=kf [] (fc (alZ a) f0) Tryz.func263
theorem SZ(a:Lp):FT (aga a):=kf [] (fc (Us a) f0) Tryz.func202
theorem X5(a:Lp):FT (Ua a):=kf [] (fc (SZ a) f0) Tryz.func201
theorem Va(a:Lp):FT (afK a):=kf [(26,⟨[],[(1,⟨[],[],[(4,.v 3)]⟩),(2,⟨[],[],[]⟩)],c6 ⟨[],[],[(8,.v 3)]⟩⟩)] (fc (X5 a) f0) Tryz.func262
theorem aa4(a:Lp):FT (aqg a):=kf [] (fc (Va a) f0) Tryz.func200
theorem af6(a:Lp):FT (aab a):=kf [] (fc (aa4 a) f0) Tryz.func128
theorem ad5(a:Lp):FT (afU a):=kf [(28,⟨[],[(0,⟨[],[],[(40,.v 4)]⟩)],c7⟩),(506,⟨[],[(1,⟨[],[],[(2,.b false)]⟩),(2,⟨[],[],[]⟩)],c6 ⟨[],[],[(48,.v 3)]⟩⟩),(129638,⟨[],[(1,⟨[],[],[(2,.b false)]⟩),(4,⟨[],[],[]⟩)],c6 ⟨[],[],[(59,.v 3)]⟩⟩),(16593714,⟨[],[(0,⟨[],[],[(74,.v 4)]⟩)],c7⟩)] (fc (Cm a) (fc (Tw a) (fc (SZ a) f0))) Tryz.func129
theorem anV(a:Lp):FT (Wk a):=kf [] (fc (PS a) (fc (sA a) (fc (vO a) f0))) Tryz.func130
theorem agJ(a:Lp):FT (acO a):=kf [(58,⟨[],[(2,⟨[],[],[(3,.v 22)]⟩)],c6 ⟨[],[(3,[],.rows 3 22)],[(3,.r 1),(8,.v 3)]⟩⟩),(7474,⟨[],[(0,⟨[],[],[(16,.v 4)]⟩)],c7⟩),(7475,⟨[],[(0,⟨[(1,false,.rows 3 22)],[],[(3,.r 1)]⟩)],c7⟩),(14950,⟨[3],[],c7⟩)] (fc (aeE a) (fc (ao4 a) (fc (Yd a) (fc (aee a) (fc (aoE a) (fc (aji a) (fc (af6 a) (fc (ad5 a) (fc (anV a) f0))))))))) Tryz.func23
theorem alw(a:Lp):FT (aih a):=kf [(62,⟨[3,6],[],c7⟩),(126,⟨[1,3,4,5,6,8,10],[],c7⟩),(254,⟨[6],[],c7⟩)] (fc (Py a) (fc (Zy a) (fc (agJ a) f0))) Tryz.func9
theorem ajw(a:Lp):FT (Zq a):=kf [] f0 Tryz.func10
theorem aor(a:Lp):FT (afa a):=kf [] f0 Tryz.func19
theorem oC(a:Lp):FT (akI a):=kf [] (fc (aor a) f0) Tryz.func13
theorem zn(a:Lp):FT (abV a):=kf [] (fc (oC a) f0) Tryz.func32
theorem tf(a:Lp):FT (ahA a):=kf [] (fc (oC a) f0) Tryz.func40
theorem Yf(a:Lp):FT (am1 a):=kf [(61,⟨[],[(0,⟨[],[],[(4,.v 3)]⟩)],c7⟩),(250,⟨[],[(2,⟨[(0,true,.box 122 [.v 22,.v 3]),(2,true,.box 30 [.v 27,.r 3])],[(100002,[1],.rows 115 28)],[]⟩)],c6 ⟨[(0,true,.box 122 [.v 22,.v 3]),(2,true,.box 30 [.r 3,.r 4])],[(100002,[0],.rows 117 27),(100002,[1],.rows 115 28)],[(5,.v 3)]⟩⟩),(1018,⟨[],[(4,⟨[(0,true,.box 122 [.v 22,.v 3]),(2,true,.box 30 [.v 27,.r 3]),(3,false,.rows 115 28)],[],[]⟩)],c6 ⟨[(0,true,.box 122 [.v 22,.v 3]),(2,true,.box 30 [.v 27,.r 3]),(3,false,.rows 115 28)],[],[(7,.v 3)]⟩⟩),(2042,⟨[],[(6,⟨[(0,true,.box 122 [.v 22,.v 3]),(2,true,.box 30 [.v 27,.r 3]),(3,false,.rows 115 28)],[],[]⟩)],c6 ⟨[(0,true,.box 122 [.v 22,.v 3]),(2,true,.box 30 [.v 27,.r 3]),(3,false,.rows 115 28)],[],[(9,.v 3)]⟩⟩),(4004,⟨[12],[(0,⟨[(0,true,.box 122 [.v 22,.v 3]),(2,true,.box 30 [.r 3,.r 4]),(3,false,.rows 117 27)],[],[]⟩)],c7⟩),(16336,⟨[],[(0,⟨[],[],[(83,.v 4)]⟩)],c7⟩),(65170,⟨[9,13],[],c7⟩),(65171,⟨[3],[],c7⟩),(130706,⟨[7,11],[],c7⟩),(522831,⟨[],[(0,⟨[(2,true,.box 30 [.v 27,.r 3]),(3,false,.rows 115 28)],[],[]⟩)],c7⟩),(1045662,⟨[3],[],c7⟩)] (fc (oC a) (fc (zn a) (fc (tf a) f0))) Tryz.func37
theorem adv(a:Lp):FT (aeh a):=kf [(58,⟨[],[(2,⟨[(0,true,.box 122 [.v 22,.v 3])],[],[(5,.v 22)]⟩)],c6 ⟨[(0,true,.box 122 [.v 22,.v 3])],[(5,[],.rows 3 22)],[(5,.r 1),(6,.v 3)]⟩⟩),(1865,⟨[],[(0,⟨[(1,false,.rows 3 22)],[],[(5,.r 1)]⟩)],c7⟩),(3730,⟨[2],[],c7⟩)] (fc (oC a) f0) Tryz.func24
theorem abn(a:Lp):FT (ajQ a):=kf [(58,⟨[],[(2,⟨[(0,true,.box 122 [.v 22,.v 3])],[],[(5,.v 32)]⟩)],c6 ⟨[(0,true,.box 122 [.v 22,.v 3])],[(5,[],.rows 120 32)],[(5,.r 2),(6,.v 3)]⟩⟩),(1864,⟨[6,12],[],c7⟩),(3731,⟨[2],[],c7⟩),(7461,⟨[],[(0,⟨[(0,true,.box 122 [.v 22,.v 3]),(3,true,.box 120 [.v 22,.v 3,.v 3,.v 3])],[],[]⟩)],c7⟩),(14922,⟨[5],[],c7⟩)] (fc (oC a) (fc (adv a) (fc (tf a) f0))) Tryz.func38
theorem agq(a:Lp):FT (apq a):=kf [(58,⟨[],[(2,⟨[(0,true,.box 122 [.v 22,.v 3])],[],[(5,.v 36)]⟩)],c6 ⟨[(0,true,.box 122 [.v 22,.v 3])],[(5,[],.rows 90 36)],[(5,.r 2),(6,.v 3)]⟩⟩),(1864,⟨[1],[],c7⟩),(3730,⟨[3,8,12],[],c7⟩),(7463,⟨[],[(0,⟨[(2,true,.rows 90 36)],[],[]⟩)],c7⟩)] (fc (tf a) (fc (zn a) f0)) Tryz.func39
theorem alb(a:Lp):FT (Zt a):=kf [] f0 Tryz.func275
theorem ai4(a:Lp):FT (al3 a):=kf [(12,⟨[],[(0,⟨[],[],[(16,.v 4)]⟩)],c7⟩),(58,⟨[],[(1,⟨[],[],[(2,.i .i64 1)]⟩),(2,⟨[],[],[]⟩)],c6 ⟨[],[],[(3,.v 3)]⟩⟩),(122,⟨[],[(1,⟨[],[],[(2,.v 67)]⟩),(4,⟨[],[],[]⟩)],c6 ⟨[],[],[(5,.v 3)]⟩⟩),(3730,⟨[],[(0,⟨[],[],[(35,.v 4)]⟩)],c7⟩),(15652,⟨[],[(0,⟨[],[],[(78,.v 4)]⟩)],c7⟩),(15654,⟨[],[(0,⟨[],[],[(108,.v 4)]⟩)],c7⟩)] (fc (alb a) f0) Tryz.func219
theorem an1(a:Lp):FT (Vh a):=kf [] f0 Tryz.func220
theorem alK(a:Lp):FT (abZ a):=kf [(12,⟨[],[(0,⟨[],[],[(48,.v 4)]⟩)],c7⟩),(509,⟨[],[(0,⟨[],[],[(17,.v 3)]⟩)],c7⟩),(1021,⟨[],[(0,⟨[],[],[(17,.v 3)]⟩)],c7⟩)] (fc (ai4 a) (fc (an1 a) f0)) Tryz.func151
theorem Uk(a:Lp):FT (aox a):=kf [] (fc (alK a) f0) Tryz.func91
theorem aaa(a:Lp):FT (Yn a):=kf [(26,⟨[],[(1,⟨[],[],[(4,.b true)]⟩),(2,⟨[],[],[]⟩)],c6 ⟨[],[],[(5,.v 3)]⟩⟩)] f0 Tryz.func26
theorem Xt(a:Lp):FT (ael a):=kf [(58,⟨[],[(2,⟨[],[],[(5,.v 22)]⟩)],c6 ⟨[],[(5,[],.rows 3 22)],[(5,.r 1),(6,.v 3)]⟩⟩),(3730,⟨[],[(0,⟨[],[],[(8,.v 4)]⟩)],c7⟩),(7462,⟨[],[(0,⟨[],[],[(47,.v 4)]⟩)],c7⟩),(7463,⟨[],[(0,⟨[(1,false,.rows 3 22)],[],[(5,.r 1)]⟩)],c7⟩),(14926,⟨[2],[],c7⟩)] (fc (Uk a) (fc (aaa a) f0)) Tryz.func41
theorem ada(a:Lp):FT (Ul a):=kf [(250,⟨[],[(2,⟨[(0,true,.box 122 [.v 22,.v 3]),(2,true,.box 60 [.v 27,.v 28,.v 32,.v 22,.v 22,.v 36,.v 22,.v 22,.v 22,.i .i64 0,.v 22,.i .i64 0,.i .i64 0,.v 22])],[],[]⟩)],c6 ⟨[(0,true,.box 122 [.v 22,.v 3]),(2,true,.box 60 [.v 27,.v 28,.v 32,.r 3,.r 4,.v 36,.v 22,.v 22,.v 22,.i .i64 0,.v 22,.i .i64 0,.i .i64 0,.v 22])],[(100002,[3],.rows 3 22),(100002,[4],.rows 3 22)],[(5,.v 3)]⟩⟩),(254,⟨[1],[],c7⟩),(1021,⟨[],[(0,⟨[(0,true,.box 122 [.v 22,.v 3]),(2,true,.box 60 [.v 27,.v 28,.v 32,.v 22,.v 22,.v 36,.v 22,.v 22,.v 22,.v 3,.v 22,.i .i64 0,.i .i64 0,.v 22])],[],[]⟩)],c7⟩),(1022,⟨[2,4,8],[],c7⟩),(2042,⟨[3],[],c7⟩),(4004,⟨[5,12],[],c7⟩),(4092,⟨[],[(0,⟨[(0,true,.box 122 [.v 22,.v 3])],[],[(77,.v 4)]⟩)],c7⟩),(4093,⟨[],[(0,⟨[(2,true,.box 60 [.v 27,.v 28,.v 32,.v 22,.v 22,.v 36,.v 22,.v 22,.v 22,.v 3,.v 22,.v 3,.v 3,.v 22])],[],[]⟩)],c7⟩),(8186,⟨[4],[],c7⟩),(16380,⟨[],[(0,⟨[(0,true,.box 122 [.v 22,.v 3])],[],[(99,.v 4)]⟩)],c7⟩),(32762,⟨[6],[],c7⟩)] (fc (Yf a) (fc (abn a) (fc (oC a) (fc (agq a) (fc (tf a) (fc (zn a) (fc (Xt a) f0))))))) Tryz.func12
theorem aaR(a:Lp):FT (aaU a):=kf [] (fc (Py a) f0) Tryz.func11
theorem afT(a:Lp):FT (agD a):=kf [(6,⟨[1],[],c7⟩),(117,⟨[],[(0,⟨[(0,true,.box 122 [.v 22,.v 3]),(2,true,.box 65 [.v 3,.v 3,.v 3,.v 3])],[],[]⟩)],c7⟩),(234,⟨[1],[],c7⟩),(942,⟨[7],[],c7⟩),(3774,⟨[4,7],[],c7⟩),(120831,⟨[],[(0,⟨[(0,true,.box 122 [.v 22,.v 3]),(2,true,.box 65 [.v 3,.v 3,.v 3,.i .i64 0])],[],[]⟩)],c7⟩),(3866621,⟨[],[(0,⟨[],[],[(82,.v 4)]⟩)],c7⟩),(61865981,⟨[],[(0,⟨[],[],[(95,.v 4)]⟩)],c7⟩)] (fc (tf a) (fc (oC a) f0)) Tryz.func42
theorem adO(a:Lp):FT (WZ a):=kf [(58,⟨[],[(2,⟨[(0,true,.box 122 [.v 22,.v 3])],[],[(7,.v 62)]⟩)],c6 ⟨[(0,true,.box 122 [.v 22,.v 3])],[(7,[],.rows 65 62)],[(7,.r 2),(8,.v 3)]⟩⟩),(464,⟨[],[(0,⟨[],[],[(21,.v 4)]⟩)],c7⟩),(466,⟨[],[(0,⟨[(0,true,.box 122 [.v 22,.v 3]),(2,false,.rows 65 62)],[],[(7,.r 2)]⟩)],c7⟩),(3731,⟨[25],[],c7⟩),(7460,⟨[],[(0,⟨[(0,true,.box 122 [.v 22,.v 3])],[],[(54,.v 4)]⟩)],c7⟩),(29834,⟨[5],[],c7⟩),(59666,⟨[],[(4,⟨[(2,false,.rows 65 62)],[],[(7,.r 2)]⟩)],c6 ⟨[(2,false,.rows 65 62)],[],[(7,.r 2),(9,.v 3)]⟩⟩),(59690,⟨[3,9,12],[],c7⟩),(954660,⟨[3],[],c7⟩)] (fc (oC a) (fc (zn a) (fc (tf a) (fc (afT a) f0)))) Tryz.func14
theorem aiL(a:Lp):FT (adn a):=kf [] (fc (Sr a) f0) Tryz.func18
theorem anD(a:Lp):FT (IZ a):=kf [(1018,⟨[],[(1,⟨[(1,false,.dead)],[],[(2,.b false)]⟩),(2,⟨[(1,false,.dead)],[],[]⟩)],c6 ⟨[(1,true,.box 56 [.v 27,.v 28,.v 3,.v 31,.v 22,.v 32,.v 22,.v 22,.v 33,.v 27,.v 28,.v 36,.v 22,.v 22,.v 22,.v 3,.v 22,.v 3,.v 3,.v 41,.v 41,.v 22,.v 22,.v 44,.v 3,.v 22,.v 22,.v 22,.v 4,.v 3,.v 3,.v 3,.v 3,.v 44,.v 53,.v 54])],[],[(7,.v 3)]⟩⟩),(8146,⟨[],[(0,⟨[(1,true,.box 56 [.v 27,.v 28,.v 3,.v 31,.v 22,.v 32,.v 22,.v 22,.v 33,.v 27,.v 28,.v 36,.v 22,.v 22,.v 22,.v 3,.v 22,.v 3,.v 3,.v 41,.v 41,.v 22,.v 22,.v 44,.v 3,.v 22,.v 22,.v 22,.v 4,.v 3,.v 3,.v 3,.v 3,.v 44,.v 53,.v 54])],[],[]⟩),(1,⟨[(1,false,.dead)],[],[(2,.b false)]⟩)],c7⟩),(521372,⟨[],[(0,⟨[],[],[(78,.v 4)]⟩)],c7⟩),(8342014,⟨[],[(1,⟨[],[],[(2,.b false)]⟩),(4,⟨[],[],[]⟩)],c6 ⟨[],[],[(12,.v 3)]⟩⟩),(1067777830,⟨[],[(1,⟨[],[],[(2,.b false)]⟩),(6,⟨[],[],[]⟩)],c6 ⟨[],[],[(14,.v 3)]⟩⟩),(273351124558,⟨[],[(0,⟨[],[],[(180,.v 4)]⟩)],c7⟩),(546702249114,⟨[],[(8,⟨[],[],[(18,.v 4)]⟩)],c6 ⟨[],[],[(18,.v 4),(19,.v 3)]⟩⟩),(8747235985828,⟨[],[(0,⟨[],[],[(18,.v 4)]⟩)],c7⟩)] (fc (K0 a) (fc (alw a) (fc (ajw a) (fc (ada a) (fc (aaR a) (fc (oC a) (fc (adO a) (fc (NW a) (fc (Nz a) (fc (Cm a) (fc (aiL a) f0))))))))))) Tryz.func3
theorem ae2{a:Int}(c: -9223372036854775808<=a)(b:a<=9223372036854775807):c3 c4 a=a:=by
 rw[eH];omega
theorem aoI{a:Int}(c:0<=a)(b:a<=255):IntKind.u8.wrap a=a:=by
 unfold IntKind.wrap;simp[IntKind.bits,IntKind.signed];omega
theorem U3{a:Int}(c:0<=a)(b:a<=18446744073709551615):IntKind.u64.wrap a=a:=by
 unfold IntKind.wrap;simp[IntKind.bits,IntKind.signed];omega
def Ok{b:Type}(c:Option b)(Q:b->Prop):Prop:=∃a,c=c6 a/\Q a
theorem ae{b:Type}{a:b}{Q:b->Prop}(c:Q a):Ok (c6 a) Q:=⟨a,rfl,c⟩
theorem aD{b e:Type}{c:Option b}{f:b->Option e}{Q:b->Prop}{d:e->Prop}(g:Ok c Q)(i:∀a,Q a->Ok (f a) d):Ok (c.bind f) d:=by
 obtain⟨a,rfl,h⟩:=g;exact i a h
theorem gh{d:Type}{b:Option d}{Q c:d->Prop}(e:Ok b Q)(f:∀a,Q a->c a):Ok b c:=by
 obtain⟨a,h,g⟩:=e;exact⟨a,h,f a g⟩
theorem dy{d:Type}{a:Bool}{e c:Option d}{b:d->Prop}(g:a=true->Ok e b)(f:a=false->Ok c b):Ok (bif a then e else c) b:=by
 cases a with
 |true=>exact g rfl
 |false=>exact f rfl
theorem aV{d:Type}{p:Prop}[Decidable p]{e c:Option d}{b:d->Prop}(g:p->Ok e b)(f:¬p->Ok c b):Ok (bif decide p then e else c) b:=
 dy (λa=>g (of_decide_eq_true a)) (λa=>f (of_decide_eq_false a))
theorem ok_eq{b:Type}{c:Option b}{a:b}{d:b->Prop}(e:c=c6 a)(f:d a):Ok c d:=⟨a,e,f⟩
theorem c8{b d:Type}{m:Option b}{a:b}{e:b->Option d}{c:d->Prop}(f:m=c6 a)(g:Ok (e a) c):Ok (m.bind e) c:=by subst f;exact g
theorem Ok.val{c:Type}{m:Option c}{a:c}(h:Ok m (·=a)):m=c6 a:=by
 obtain⟨b,h,rfl⟩:=h;exact h
theorem aC{d:Type}{p:Prop}[Decidable p]{a c:d}(b:p:=by omega):(bif decide p then a else c)=a:=by rw[decide_eq_true b];rfl
theorem aG{c:Type}{p:Prop}[Decidable p]{d a:c}(b:¬p:=by omega):(bif decide p then d else a)=a:=by rw[decide_eq_false b];rfl
theorem wL{d:Type}{p:Prop}[Decidable p]{c b:d}:(bif decide p then c else b)=if p then c else b:=by
 by_cases a:p
 ·rw[aC a,if_pos a]
 ·rw[aG a,if_neg a]
theorem aa{a d:Type}{b:a}{c:a->Option d}:(c6 b).bind c=c b:=rfl
theorem ew{p q:Prop}[Decidable p][Decidable q]{c:Option Bool}(b:c=c6 (decide q)):(bif decide p then c6 true else c)=c6 (c5 (p\/q)):=by
 subst b
 by_cases a:p
 ·rw[aC a,decide_eq_true (Or.inl a)]
 ·rw[aG a];congr 1;exact decide_eq_decide.2 ⟨Or.inr,λb=>b.resolve_left a⟩
theorem fm{p q:Prop}[Decidable p][Decidable q]{c:Option Bool}(a:c=c6 (decide q)):(bif decide p then c else c6 false)=c6 (c5 (p/\q)):=by
 subst a
 by_cases b:p
 ·rw[aC b];congr 1;exact decide_eq_decide.2 ⟨λa=>⟨b,a⟩,λa=>a.2⟩
 ·rw[aG b,decide_eq_false (λa=>b a.1)]
theorem qC{b:Type}{a:List b}{i:Int}(h0:0<=i)(c:i<(a.length:Int)):aj a i=c6 (a[i.toNat]'(by omega)):=by
 unfold aj;rw[if_pos h0];exact d1 (by omega)
theorem bn{c:Type}{b:List c}{a:Nat}:aj b (a:Int)=b[a]? :=by
 unfold aj;rw[if_pos (by omega),Int.toNat_natCast]
theorem fC{b:Type}{a:List b}{i:Nat}{c:b}(d:a[i]? =c6 c):c∈a:=ec d
theorem l8{e:Type}{c:List e}{a b:Int}(h0:0<=a)(f:a<=b)(d:b<=(c.length:Int)):eG c a b=c6 ((c.take b.toNat).drop a.toNat):=by
 unfold eG;rw[if_pos ⟨h0,f,d⟩]
theorem pN{e:Type}{c:Nat}{b a:List e}(d:(b.length+a.length)*c<=140737488355328):bj c b a=c6 (b++a):=by
 unfold bj;rw[if_pos d]
theorem nS{d:Type}{b:Nat}{z:d}{a:Int}(h0:0<=a)(c:a.toNat*b<=140737488355328):gP b z a=c6 (List.replicate a.toNat z):=by
 unfold gP;rw[if_pos ⟨h0,c⟩]
theorem D7{a b:Int}(c:b≠0):nG a b=c6 (a.tmod b):=by
 unfold nG;rw[if_neg c]
theorem Ek{a:IntKind}{c b:Int}(d:b≠0):ph a c b=c6 (a.wrap (c.tdiv b)):=by
 unfold ph;rw[if_neg d]
theorem AD{a:IntKind}{c b:Int}(d:0<=b):iN a c b=c6 (c.fdiv (2^ (min b.toNat a.bits))):=by
 unfold iN;rw[if_pos d]
theorem ahO{a:IntKind}{c b:Int}(d:0<=b):uU a c b=c6 (a.wrap (c*2^ (min b.toNat a.bits))):=by
 unfold uU;rw[if_pos d]
theorem aJ{n:Int}(b: -9223372036854775808<=n:=by omega)(a:n<=9223372036854775807:=by omega):c3 c4 n=n:=ae2 b a
theorem w8{a:Int}(c:0<=a)(b:a<=255):IntKind.u8.wrap a=a:=aoI c b
theorem mB{n:Int}(b:0<=n)(a:n<=18446744073709551615):IntKind.u64.wrap n=n:=U3 b a
theorem iO{a d:Type}{f:a->Option (a⊕d)}{b a':a}(c:f b=c6 (.inl a')):bO f b=bO f a':=by
 rw[Qk,c];rfl
theorem fZ{a d:Type}{f:a->Option (a⊕d)}{c:a}{b:d}(e:f c=c6 (.inr b)):bO f c=c6 b:=by
 rw[Qk,e];rfl
theorem oa{d l:Type}{f:d->Option (d⊕l)}(e:d->Prop)(i:d->Nat)(k:l->Prop)
 (step:∀a,e a->Ok (f a) λh=>match h with | .inl c=>e c/\i c<i a | .inr b=>k b):∀a,e a->Ok (bO f a) k:=by
 intro a n;generalize o:i a=j
 induction j using Nat.strongRecOn generalizing a with
 |_ j p=>
  obtain⟨h,m,g⟩:=step a n;cases h with
  |inl c=>
   rw[iO m];exact p _ (o▸g.2) c g.1 rfl
  |inr b=>exact⟨b,fZ m,g⟩
def Bytes(a:List Int):Prop:=∀b∈a,0<=b/\b<=255
theorem Bytes.nil:Bytes []:=by intro b h;cases h
theorem Bytes.cons{a:Int}{b:List Int}(h:0<=a/\a<=255)(k:Bytes b):Bytes (a::b):=by
 intro x d;rcases f6.1 d with rfl |c
 ·exact h
 ·exact k x c
theorem Bytes.take{a:List Int}(h:Bytes a)(n:Nat):Bytes (a.take n):=λx c=>h x (g5 c)
end Go.X.T
namespace Go.Top
abbrev T5:Int:=1099511627776
abbrev SM:Int:=2147483648
abbrev vG:=Int->Int->Int->Prop
def pG(d:vG)(b:Int)(c:Int->Prop)(g:Int->Int):Prop:=
 ∀p q a,d p q a->c q->g p<T5->max (g p+a) b<=SM->g q<=max (g p+a) b
def eN(b:vG)(a:Int)(g:Int->Int):Prop:=pG b a (λ_=>True) g
end Go.Top
namespace Go.X.T
open Go Go.Aml
theorem nV{e g:Type}{f:e->Option (e⊕g)}(c:Nat)(a:Nat->e)(b:g)(h:∀i,i<c->f (a i)=c6 (.inl (a (i+1))))(l:f (a c)=c6 (.inr b)):bO f (a 0)=c6 b:=by
 have m:∀d i,i+d=c->bO f (a i)=c6 b:=by
  intro d
  induction d with
  |zero=>intro i j;have:i=c:=by omega
         subst this;exact fZ l
  |succ d k=>intro i j;rw[iO (h i (by omega))];exact k (i+1) (by omega)
 exact m c 0 (by omega)
theorem di{m o:Type}{f:m->Option (m⊕o)}(g:Nat)(d:Nat->m->Prop)(j:o->Prop)(t:∀i a,i<g->d i a->Ok (f a) λc=>match c with | .inl p=>d (i+1) p | .inr b=>j b)
 (r:∀a,d g a->Ok (f a) λc=>match c with | .inl _=>False | .inr b=>j b):∀a,d 0 a->Ok (bO f a) j:=by
 have u:∀k i a,i+k=g->d i a->Ok (bO f a) j:=by
  intro k
  induction k with
  |zero=>
   intro i a q l;have:i=g:=by omega
   subst this;obtain⟨c,h,e⟩:=r a l;cases c with
   |inl n=>exact e.elim
   |inr b=>exact⟨b,fZ h,e⟩
  |succ k v=>
   intro i a q l;obtain⟨c,h,e⟩:=t i a (by omega) l;cases c with
   |inl n=>rw[iO h];exact v (i+1) n (by omega) e
   |inr b=>exact⟨b,fZ h,e⟩
 intro a s;exact u g 0 a (by omega) s
def jv{a:Type}(r:Nat->Option a):Nat->Nat->Option a
 |_,0=>c7
 |i,c+1=>match r i with
  |some b=>c6 b
  |none=>jv r (i+1) c
theorem xk{h:Type}{r:Nat->Option h}:∀{k i:Nat},jv r i k=c7↔∀a,i<=a->a<i+k->r a=c7
 |0,i=>⟨λ_ a f e=>by omega,λ_=>rfl⟩
 |k+1,i=>by
  unfold jv;cases d:r i with
  |some b=>exact⟨λc=>by simp at c,λc=>by have:=c i (d6 _) (by omega);rw[d] at this;cases this⟩
  |none=>
   show jv r (i+1) k=c7↔_
   rw[xk];refine⟨λc a f e=>?_,λc a f e=>c a (by omega) (by omega)⟩
   by_cases g:a=i
   ·rw[g];exact d
   ·exact c a (by omega) (by omega)
theorem yO{f:Type}{r:Nat->Option f}{b:f}:∀{k i:Nat},jv r i k=c6 b->∃d,i<=d/\d<i+k/\r d=c6 b/\∀c,i<=c->c<d->r c=c7
 |0,i,a=>by cases a
 |k+1,i,a=>by
  unfold jv at a;cases e:r i with
  |some o=>rw[e] at a;injection a with a;subst a;exact⟨i,d6 _,by omega,e,λc n j=>by omega⟩
  |none=>
   rw[e] at a;obtain⟨d,n,j,l,m⟩:=yO (r:=r) (i:=i+1) (k:=k) a;refine⟨d,by omega,by omega,l,λc p h=>?_⟩
   by_cases g:c=i
   ·rw[g];exact e
   ·exact m c (by omega) h
def Kp{c a:Type}(d:Option c)(e:a):c⊕a:=match d with |some b=>.inl b |none=>.inr e
def Xv{a d:Type}(c:Option a)(i:Nat):Int⊕(a⊕d):=match c with |some b=>.inr (.inl b) |none=>.inl ((i:Int)+1)
theorem Hf{j h:Type}{f:Int->Option (Int⊕(j⊕h))}(a:Nat)(r:Nat->Option j)(e:h)(k:∀i:Nat,i<a->f (i:Int)=c6 (Xv (r i) i))(n:f (a:Int)=c6 (.inr (.inr e))):
 bO f 0=c6 (Kp (jv r 0 a) e):=by
 have o:∀c i,i+c=a->bO f (i:Int)=c6 (Kp (jv r i c) e):=by
  intro c
  induction c with
  |zero=>intro i l;have:i=a:=by omega
         subst this;exact fZ n
  |succ c m=>
   intro i l;have d:=k i (by omega);unfold jv;cases g:r i with
   |some b=>rw[g] at d;exact fZ d
   |none=>
    rw[g] at d;rw[iO d];have:=m (i+1) (by omega);rw[show((i+1:Nat):Int)=(i:Int)+1 by omega] at this;exact this
 exact o a 0 (by omega)
def sy(b:Nat->Bool)(i:Nat):Option Unit:=bif b i then c6 () else c7
theorem oD{e:Type}{f:Int->Option (Int⊕(Unit⊕e))}(a:Nat)(b:Nat->Bool)(d:e)(h:∀i:Nat,i<a->f (i:Int)=c6 (bif b i then .inr (.inl ()) else .inl ((i:Int)+1)))(l:f (a:Int)=c6 (.inr (.inr d))):
 bO f 0=c6 (if ∀i,i<a->b i=false then .inr d else .inl ()):=by
 rw[Hf a (sy b) d (λi g=>by rw[h i g];unfold sy;cases b i <;> rfl) l]
 congr 1
 by_cases c:∀i,i<a->b i=false
 ·rw[if_pos c,(xk (r:=sy b) (i:=0) (k:=a)).2 λj _ p=>by unfold sy;rw[c j (by omega)];rfl]
  rfl
 ·rw[if_neg c];cases n:jv (sy b) 0 a with
  |some o=>rfl
  |none=>exact absurd (λi g=>by
   have:=(xk.1 n) i (dv _) (by omega);unfold sy at this;cases m:b i with
   |false=>rfl
   |true=>rw[m] at this;cases this) c
def mj{a:Type}(p:a->Bool)(b:List a)(i:Nat):Option Int:=match b[i]? with |some c=>bif p c then c6 (i:Int) else c7 |none=>c7
def gg{b:Type}(p:b->Bool)(a:List b):Int:=match jv (mj p a) 0 a.length with |some i=>i |none=>-1
theorem fF{d:Type}{l:List d}{P:d->Option Bool}{p:d->Bool}{f:Int->Option (Int⊕(Int⊕Unit))}(n:l.length<=4611686018427387904)(h:∀b,b∈l->P b=c6 (p b))
 (e:∀a,f a=bif c5 (a<(l.length:Int)) then(aj l a).bind λb=>(P b).bind λm=>bif m then c6 (.inr (.inl a)) else c6 (.inl (c3 c4 (a+1))) else c6 (.inr (.inr ()))):
 ((bO f 0).bind λk=>Sum.elim (λj=>c6 j) (λ_=>c6 (-1)) k)=c6 (gg p l):=by
 rw[Hf l.length (mj p l) () (λi c=>?_) (by rw[e,aG])]
 ·unfold gg;cases jv (mj p l) 0 l.length <;> rfl
 ·rw[e,aC,bn,d1 c,aa,h _ (gb c),aa];unfold mj;rw[d1 c];cases g:p l[i] with
  |true=>simp only[g,cond_true];rfl
  |false=>simp only[g,cond_false];rw[aJ];rfl
theorem Aw{h:Type}{p:h->Bool}{d:List h}:(0<=gg p d)↔∃c,c∈d/\p c=true:=by
 unfold gg;cases g:jv (mj p d) 0 d.length with
 |none=>
  refine⟨λg=>by simp at g,?_⟩
  rintro⟨c,e,f⟩;obtain⟨i,j,rfl⟩:=g6.1 e;have:=(xk.1 g) i (dv _) (by omega);unfold mj at this;rw[d1 j] at this;simp only[f,cond_true] at this;cases this
 |some b=>
  obtain⟨k,_,l,a,_⟩:=yO g;unfold mj at a;cases e:d[k]? with
  |none=>rw[e] at a;cases a
  |some c=>
   rw[e] at a;cases f:p c with
   |false=>simp only[f,cond_false] at a;cases a
   |true=>
    simp only[f,cond_true] at a;injection a with a
    refine⟨λ_=>⟨c,fC e,f⟩,λ_=>?_⟩
    show(0:Int)<=b
    omega
theorem HN{g:Type}{p:g->Bool}{c:List g}(h:0<=gg p c):∃(i:Nat) (e:g),gg p c=(i:Int)/\c[i]? =c6 e/\p e=true/\∀(d:Nat) (f:g),d<i->c[d]? =c6 f->p f=false:=by
 unfold gg at h⊢;cases l:jv (mj p c) 0 c.length with
 |none=>rw[l] at h;simp at h
 |some b=>
  obtain⟨d,_,s,a,q⟩:=yO l;unfold mj at a;cases j:c[d]? with
  |none=>rw[j] at a;cases a
  |some e=>
   rw[j] at a;cases k:p e with
   |false=>simp only[k,cond_false] at a;cases a
   |true=>
    simp only[k,cond_true] at a;injection a with a
    refine⟨d,e,a.symm,j,k,λm f n o=>?_⟩
    have:=q m (dv _) n;unfold mj at this;rw[o] at this;cases r:p f with
    |false=>rfl
    |true=>simp only[r,cond_true] at this;cases this
theorem gm{b:Type}{p:b->Bool}{a:List b}:c5 (0<=gg p a)=a.any p:=by
 rw[Bool.eq_iff_iff,decide_eq_true_iff,Aw,List.any_eq_true]
theorem cF(a b c:Int):cp LC a b c=c6 (c5 (b<=a/\a<=c)):=by
 unfold cp;exact fm rfl
def cj(c b:Int)(a:List Int):Prop:=∀i:Nat,i<a.length->c<=a.getD i 0/\a.getD i 0<=b/\(0<i->a.getD (i -1) 0<a.getD i 0)
instance (c b:Int) (a:List Int):Decidable (cj c b a):=by unfold cj;exact Nat.decidableBallLT _ _
theorem pu{b:Type}{a:List b}{i:Nat}{e c:b}(d:a[i]? =c6 c):a.getD i e=c:=by rw[List.getD_eq_getElem?_getD,d];rfl
theorem uu{a:List Int}{i:Nat}(b:i<a.length):aj a (i:Int)=c6 (a.getD i 0):=by rw[bn,d1 b,pu (d1 b)]
theorem kw(a:List Int)(d b:Int)(l:a.length<=4611686018427387904):iU LC a d b=c6 (c5 (cj d b a)):=by
 unfold iU;have j:bO (λg=>wx LC a d b g) 0=c6 (if ∀i,i<a.length->(λi:Nat=>c5 (¬(d<=a.getD i 0/\a.getD i 0<=b/\(0<i->a.getD (i -1) 0<a.getD i 0)))) i=false then .inr () else .inl ()):=by
  refine oD a.length _ () (λi e=>?_) ?_
  ·unfold wx;rw[aC,uu e,aa];have h:(bif c5 (0<(i:Int)) then(aj a (c3 c4 ((i:Int) -1))).bind λk=>c6 (c5 (a.getD i 0<=k)) else c6 false)=c6 (c5 (0<i/\a.getD i 0<=a.getD (i -1) 0)):=by
    by_cases h0:0<i
    ·rw[aC,aJ,show(i:Int) -1=((i -1:Nat):Int) by omega,uu (by omega),aa]
     congr 1
     exact decide_eq_decide.2 ⟨λc=>⟨h0,c⟩,λc=>c.2⟩
    ·rw[aG]
     congr 1
     exact(decide_eq_false λc=>h0 c.1).symm
   rw[h,ew (ew rfl),aa,aJ]
   by_cases f:d<=a.getD i 0/\a.getD i 0<=b/\(0<i->a.getD (i -1) 0<a.getD i 0)
   ·rw[decide_eq_false (by omega),decide_eq_false (by rw[f5];exact f)];rfl
   ·rw[decide_eq_true (show a.getD i 0<d\/b<a.getD i 0\/(0<i/\a.getD i 0<=a.getD (i -1) 0) by omega),decide_eq_true f];rfl
  ·unfold wx;rw[aG]
 rw[show LC.loop (λg=>wx LC a d b g) 0=_ from j,aa]
 by_cases c:cj d b a
 ·rw[if_pos (λi e=>decide_eq_false (by rw[f5];exact c i e)),decide_eq_true c];rfl
 ·rw[if_neg (λf=>c λi e=>by have:=of_decide_eq_false (f i e);rw[f5] at this;exact this),decide_eq_false c];rfl
theorem cj.mem{a b:Int}{d:List Int}(h:cj a b d){x:Int}(e:x∈d):a<=x/\x<=b:=by
 obtain⟨i,c,rfl⟩:=g6.1 e;have:=h i c;rw[pu (d1 c)] at this;exact⟨this.1,this.2.1⟩
theorem cj.lt{a b:Int}{d:List Int}(h:cj a b d):∀{i c:Nat},i<c->c<d.length->d.getD i 0<d.getD c 0:=by
 intro i c m
 induction c with
 |zero=>omega
 |succ c k=>
  intro l;have j:=(h (c+1) l).2.2 (by omega);rw[show c+1 -1=c by omega] at j
  by_cases e:i=c
  ·rw[e];exact j
  ·exact Int.lt_trans (k (by omega) (by omega)) j
theorem cj.len{a b:Int}{c:List Int}(h:cj a b c)(l:a<=b+1):(c.length:Int)<=b -a+1:=by
 have key:∀i:Nat,i<c.length->a+i<=c.getD i 0:=by
  intro i
  induction i with
  |zero=>intro d;have:=(h 0 d).1;omega
  |succ i j=>
   intro d;have k:=j (by omega);have e:=h.lt (show i<i+1 by omega) d;omega
 by_cases h0:c.length=0
 ·omega
 ·have k:=key (c.length -1) (by omega);have e:=(h (c.length -1) (by omega)).2.1;omega
theorem cj.nil{a b:Int}:cj a b []:=λi c=>by simp at c
theorem cj.one{a b x:Int}(e:a<=x)(d:x<=b):cj a b [x]:=λi c=>by
 have:i=0:=by simpa using c
 subst this;exact⟨e,d,λh=>by omega⟩
def jx(a:Nat)(r:aZ):Prop:=
 (0<=r.an/\r.an<a/\0<=r.To/\r.To<a/\r.an≠r.To)/\(1<=r.Length/\r.Length<=100000/\1<=r.bT/\r.bT<=1000)/\
 (1<=r.Rest.eF/\r.Rest.eF<=r.Rest.fk/\r.Rest.fk<=262144)/\(-2199023255552<=r.eI.eF/\r.eI.eF<=r.eI.fk/\r.eI.fk<=2199023255552)
instance (a:Nat) (r:aZ):Decidable (jx a r):=by unfold jx;infer_instance
def cP(a:ak):Prop:=a.ai.length<=64/\a.af.length<=128/\(∀p,p∈a.ai->-10000<=p.eU/\p.eU<=10000)/\∀r,r∈a.af->jx a.ai.length r
instance (a:ak):Decidable (cP a):=by unfold cP;infer_instance
theorem Tp(a:bI)(c b:Int):yQ LC a c b=c6 (c5 (c<=a.eF/\a.eF<=a.fk/\a.fk<=b)):=by
 unfold yQ;exact fm (fm rfl)
theorem de{d:Type}{b:Bool}{c a:d}:(bif (!b) then c else a)=bif b then a else c:=by cases b <;> rfl
theorem fh{p q:Prop}[Decidable p][Decidable q]{b:Option Bool}(c:b=c6 (decide q)):(bif (!decide p) then c6 true else b)=c6 (c5 (¬p\/q)):=by
 by_cases a:p
 ·rw[decide_eq_true a,Bool.not_true,cond_false,c]
  congr 1
  exact decide_eq_decide.2 ⟨.inr,λe=>e.resolve_left (λd=>d a)⟩
 ·rw[decide_eq_false a,Bool.not_false,cond_true,decide_eq_true (.inl a)]
theorem lA{p:Prop}[Decidable p]:c6 (!decide p)=c6 (c5 (¬p)):=by rw[decide_not]
theorem VM(a:ak):∃j:Int,zG LC a=c6 j/\(j=0↔cP a):=by
 unfold zG;rw[ew rfl,aa]
 by_cases h0:64<(a.ai.length:Int)\/128<(a.af.length:Int)
 ·rw[aC h0];exact⟨2,rfl,⟨λb=>absurd b (by decide),λb=>by have g:=b.1;have A:=b.2.1;omega⟩⟩
 rw[aG h0];have y:bO (λe=>yL LC a e) 0=c6 (if ∀i,i<a.ai.length->(λi:Nat=>match a.ai[i]? with |some p=>c5 (p.eU< -10000\/10000<p.eU) |none=>false) i=false then .inr () else .inl ()):=by
  refine oD _ _ () (λi c=>?_) ?_
  ·unfold yL;rw[aC,bn,d1 c,aa,ew rfl,aa,aJ]
   by_cases f:a.ai[i].eU< -10000\/10000<a.ai[i].eU
   ·rw[decide_eq_true f];simp only[d1 c,decide_eq_true f,cond_true]
   ·rw[decide_eq_false f];simp only[d1 c,decide_eq_false f,cond_false]
  ·unfold yL;rw[aG]
 rw[show LC.loop (λe=>yL LC a e) 0=_ from y,aa]
 by_cases g:∀p,p∈a.ai->-10000<=p.eU/\p.eU<=10000
 ·rw[if_pos (λi c=>by
   dsimp only;rw[d1 c];have:=g _ (gb c);exact decide_eq_false (by omega))]
  rw[Sum.elim_inr];have u:bO (λe=>vX LC a e) 0=c6 (Kp (jv (λi=>match a.af[i]? with
   |some r=>if ¬(0<=r.an/\r.an<a.ai.length/\0<=r.To/\r.To<a.ai.length/\r.an≠r.To) then c6 (4:Int) else if jx a.ai.length r then c7 else c6 1
   |none=>c7) 0 a.af.length) ()):=by
   refine Hf _ _ () (λi c=>?_) ?_
   ·unfold vX;rw[aC,bn,d1 c,aa,ew (ew (ew (ew rfl))),aa];dsimp only;generalize a.af[i]=r
    by_cases k:0<=r.an/\r.an<a.ai.length/\0<=r.To/\r.To<a.ai.length/\r.an≠r.To
    ·rw[aG,if_neg (λb=>b k),ew (ew (ew rfl)),aa]
     by_cases q:1<=r.Length/\r.Length<=100000/\1<=r.bT/\r.bT<=1000
     ·rw[aG,Tp,Tp,aa,aa,lA,fh rfl,aa]
      by_cases h:jx a.ai.length r
      ·rw[if_pos h,aG (by have v:=h.2.2.1;have d:=h.2.2.2;omega),aJ];rfl
      ·rw[if_neg h,aC (by
        by_cases t:1<=r.Rest.eF/\r.Rest.eF<=r.Rest.fk/\r.Rest.fk<=262144
        ·exact .inr λz=>h ⟨k,q,t,z⟩
        ·exact .inl t)];rfl
     ·rw[aC,if_neg (λb=>q b.2.1)];rfl
    ·rw[aC,if_pos k];rfl
   ·unfold vX;rw[aG]
  rw[show LC.loop (λe=>vX LC a e) 0=_ from u,aa];cases m:jv (λi=>match a.af[i]? with
   |some r=>if ¬(0<=r.an/\r.an<a.ai.length/\0<=r.To/\r.To<a.ai.length/\r.an≠r.To) then c6 (4:Int) else if jx a.ai.length r then c7 else c6 1
   |none=>c7) 0 a.af.length with
  |some j=>
   obtain⟨s,_,v,d,_⟩:=yO m;have o:s<a.af.length:=by omega
   rw[d1 o] at d;dsimp only at d;have n:j≠0/\¬jx a.ai.length a.af[s]:=by
    split at d
    ·rename_i l;injection d with d
     exact⟨by omega,λb=>l b.1⟩
    ·split at d
     ·cases d
     ·rename_i l;injection d with d
      exact⟨by omega,l⟩
   exact⟨j,rfl,⟨λb=>absurd b n.1,λb=>absurd (b.2.2.2 _ (gb o)) n.2⟩⟩
  |none=>
   refine⟨0,rfl,⟨λ_=>⟨by omega,by omega,g,λr w=>?_⟩,λ_=>rfl⟩⟩
   obtain⟨i,c,rfl⟩:=g6.1 w;have:=(xk.1 m) i (dv _) (by omega);rw[d1 c] at this;dsimp only at this
   split at this
   ·cases this
   ·split at this
    ·assumption
    ·cases this
 ·rw[if_neg (λf=>g λp x=>by
   obtain⟨i,c,rfl⟩:=g6.1 x;have:=f i c;dsimp only at this;rw[d1 c] at this;have:=of_decide_eq_false this;omega)]
  exact⟨1,rfl,⟨λb=>absurd b (by decide),λb=>absurd b.2.2.1 g⟩⟩
theorem ko(a:ak):ij LC a=c6 (c5 (cP a)):=by
 obtain⟨d,c,b⟩:=VM a;unfold ij;rw[c,aa]
 congr 1
 exact decide_eq_decide.2 b
def Sm{b:Type}(a:List b):Prop:=a.length<=1000000
theorem pr{e:Type}{b:Nat}{a:List e}(d:b<=100)(c:Sm a):bj b [] a=c6 a:=by
 rw[pN]
 ·rfl
 ·have f:a.length<=1000000:=c;have:a.length*b<=1000000*100:=Nat.mul_le_mul f d;simp only[List.length_nil,g8];omega
theorem dm{c:Type}{b:Nat}{a:List c}{d:c}(e:b<=100)(f:a.length<=2000000):bj b a [d]=c6 (a++[d]):=by
 refine pN ?_
 have:(a.length+1)*b<=2000001*100:=Nat.mul_le_mul (by omega) e;simp only[List.length_cons,List.length_nil,g8];omega
theorem bV{a:List Int}(b:Sm a):cc LC a=c6 a:=pr (by decide) b
theorem mV{a:List bP}(b:Sm a):kF LC a=c6 a:=pr (by decide) b
theorem nk{a:List aZ}(b:Sm a):kQ LC a=c6 a:=pr (by decide) b
theorem Ep{a:List bC}(b:Sm a):rf LC a=c6 a:=pr (by decide) b
theorem zS{a:List bI}(b:Sm a):q9 LC a=c6 a:=pr (by decide) b
theorem wE{a:List cy}(b:Sm a):pI LC a=c6 a:=pr (by decide) b
theorem jg{b:Type}{a done rest:List b}{c:b}(d:a=done++c::rest):aj a (done.length:Int)=c6 c:=by
 subst d;rw[bn,d8 (d6 _),Nat.sub_self]
 rfl
theorem jm{b e h:Type}{f:e->Option (e⊕h)}(a:List b)(c:List b->Int->e)(d:List b->h)
 (k:∀(done:List b) (j:b) (n:List b),a=done++j::n->f (c done (done.length:Int))=c6 (.inl (c (done++[j]) ((done.length:Int)+1)))) (m:f (c a (a.length:Int))=c6 (.inr (d a))):bO f (c [] 0)=c6 (d a):=by
 have:=nV (f:=f) a.length (λi=>c (a.take i) (i:Int)) (d a) (λi l=>?_) (by simpa using m)
 ·simpa using this
 ·have g:=k (a.take i) a[i] (a.drop (i+1)) (by rw[<-List.drop_eq_getElem_cons l,h5]);have o:(a.take i).length=i:=by rw[d2];omega
  rw[o,List.take_append_getElem] at g;exact g
theorem iy{b:Type}{a done d:List b}{e:b}(c:a=done++e::d):(done.length:Int)<(a.length:Int):=by
 subst c;rw[d9,List.length_cons];omega
theorem ks{b:Type}{a done e:List b}{c:b}(d:a=done++c::e):c∈a:=by subst d;simp
theorem MZ(c:Int):∀a,(mM c a).Perm (c::a)
 |[]=>.refl _
 |b::a=>by
  unfold mM;cases c5 (c<=b) with
  |true=>exact .refl _
  |false=>exact((MZ c a).cons b).trans (.swap c b a)
theorem uK:∀a,(dQ a).Perm a
 |[]=>.refl _
 |b::a=>(MZ b (dQ a)).trans ((uK a).cons b)
theorem uP(a:List Int):(dQ a).length=a.length:=(uK a).length_eq
theorem zF{a:List Int}(b:Sm a):rl LC a=c6 (dQ a):=by
 unfold rl rC;have c:a.length<=1000000:=b;rw[show Nat.ble a.length 140737488355328=true from Nat.ble_eq_true_of_le (by omega)]
 rfl
theorem Iy{a:List Int}(b:Sm a):rG LC a=c6 (dQ a):=by
 unfold rG Kx IA;rw[pr (by decide) b,aa,aa,zF b,aa]
def lz(a:List Int):Prop:=cj 1 65535 (dQ a)
instance (a:List Int):Decidable (lz a):=by unfold lz;infer_instance
theorem KN{a:List Int}(b:Sm a):ym LC a=c6 (c5 (lz a)):=by
 unfold ym qK;have c:a.length<=1000000:=b;rw[aa,Iy b,aa,kw _ _ _ (by rw[uP];omega),aa]
 rfl
theorem O6{a:List Int}(b:Sm a):AI LC a=c6 (c5 (lz a)):=KN b
def lS(a:Nat)(r:aS):Prop:=r.ai.length≠0/\cj 0 ((a:Int) -1) r.ai/\(1<=r.dX/\r.dX<=600)/\(0<=r.dY/\r.dY<=10)/\0<=r.cR/\r.cR<=60
instance (a:Nat) (r:aS):Decidable (lS a r):=by unfold lS;infer_instance
def uG(a:ak)(b:List aS):Prop:=cP a/\b.length<=32/\∀r,r∈b->lS a.ai.length r
instance (a:ak) (b:List aS):Decidable (uG a b):=by unfold uG;infer_instance
theorem X7{d:ak}{r:aS}(g:d.ai.length<=64)(f:r.ai.length<=4611686018427387904):wN LC r d=c6 (!c5 (lS d.ai.length r)):=by
 unfold wN;rw[aJ,kw _ _ _ f,aa,cF,aa,cF,aa,cF,aa,lA,fh (fh (fh rfl)),ew rfl,lA]
 congr 1
 apply decide_eq_decide.2
 unfold lS
 by_cases e:(r.ai.length:Int)=0
 ·exact⟨λ_ a=>a.1 (by omega),λ_=>.inl e⟩
 ·refine⟨λa c=>?_,λa=>.inr ?_⟩
  ·rcases a with a |a |a |a |a
   ·exact e a
   ·exact a c.2.1
   ·exact a c.2.2.1
   ·exact a c.2.2.2.1
   ·exact a c.2.2.2.2
  ·refine ei λb=>a ?_
   simp only[not_or,f5] at b;exact⟨by omega,b.1,b.2.1,b.2.2.1,b.2.2.2⟩
theorem ot{c:Type}{p:c->Prop}[DecidablePred p]{b:List c}:(!b.any λa=>!c5 (p a))=c5 (∀a,a∈b->p a):=by
 rw[Bool.eq_iff_iff,decide_eq_true_iff];simp
abbrev Fit{b:Type}(a:List b):Prop:=a.length<=4611686018427387904
theorem Pm(a:ak)(l:List aS)(i:∀r,r∈l->Fit r.ai):wI LC a l=c6 (c5 (uG a l)):=by
 unfold wI;rw[ko,aa]
 by_cases c:cP a
 ·rw[aC c]
  by_cases e:(l.length:Int)<=32
  ·rw[aC e];have h:El LC l a=c6 (l.any λr=>!c5 (lS a.ai.length r)):=by
    unfold El Fh;have:=fF (l:=l) (P:=λr=>wN LC r a) (p:=λr=>!c5 (lS a.ai.length r)) (f:=λd=>Ha LC l a d) (by omega) (λr g=>X7 c.1 (i r g)) (λd=>rfl);rw[show(LC.loop (λd=>Ha LC l a d) 0).bind _=_ from this,aa,gm]
   rw[h,aa,ot]
   congr 1
   exact decide_eq_decide.2 ⟨λb=>⟨c,by omega,b⟩,λb=>b.2.2⟩
  ·rw[aG e,decide_eq_false (λb=>e (by have:=b.2.1;omega))]
 ·rw[aG c,decide_eq_false (λb=>c b.1)]
def jo(a:ak)(p:Int):Int:=match a.ai[p.toNat]? with |some b=>b.eU |none=>0
def fy(a:ak)(r:aZ)(b:Bool):Int:=if b then -(jo a r.To -jo a r.an) else jo a r.To -jo a r.an
def wt(b:ak)(r:aZ)(a:Bool)(d e c:Int):Int:=
 if r.eN=true\/r.jy=false then -1 else(10*r.Length+(if r.Length<10*fy b r a then d else if r.Length< -10*fy b r a then e else c) -1)/ (if r.Length<10*fy b r a then d else if r.Length< -10*fy b r a then e else c)
theorem Ph{a:ak}(f:cP a){i:Nat}{r:aZ}(j:a.af[i]? =c6 r)(b:Bool)(p:kD)(g:(1<=p.up/\p.up<=100)/\(1<=p.down/\p.down<=100)/\1<=p.level/\p.level<=100):
 xu LC a (i:Int) b p=c6 (wt a r b p.up p.down p.level):=by
 obtain⟨⟨w,H,A,G,C⟩,⟨E,B,D,I⟩,_⟩:=f.2.2.2 r (fC j);unfold xu;rw[bn,j,aa];unfold wt;have z:(bif r.eN then c6 true else c6 (!r.jy))=c6 (c5 (r.eN=true\/r.jy=false)):=by cases r.eN <;> cases r.jy <;> rfl
 rw[z,aa]
 by_cases e:r.eN=true\/r.jy=false
 ·rw[aC e,if_pos e]
 rw[aG e,if_neg e];have y:aj a.ai r.To=c6 (a.ai[r.To.toNat]'(by omega)):=qC A (by omega);have q:aj a.ai r.an=c6 (a.ai[r.an.toNat]'(by omega)):=qC w (by omega);have h:jo a r.To=(a.ai[r.To.toNat]'(by omega)).eU:=by unfold jo;rw[d1 (by omega)]
 have k:jo a r.an=(a.ai[r.an.toNat]'(by omega)).eU:=by unfold jo;rw[d1 (by omega)]
 have x:=f.2.2.1 _ (gb (show r.To.toNat<a.ai.length by omega));have s:=f.2.2.1 _ (gb (show r.an.toNat<a.ai.length by omega));rw[y,aa,q,aa, <-h, <-k];rw[<-h] at x;rw[<-k] at s;have m:(bif b then c6 (c3 c4 (0 -c3 c4 (jo a r.To -jo a r.an))) else c6 (c3 c4 (jo a r.To -jo a r.an)))=c6 (fy a r b):=by
  unfold fy;rw[aJ (n:=jo a r.To -jo a r.an),aJ (n:=0 - (jo a r.To -jo a r.an))];cases b
  ·rfl
  ·simp only[cond_true,if_true];congr 1;omega
 have F: -20000<=fy a r b/\fy a r b<=20000:=by unfold fy;split <;> omega
 rw[m,aa,aJ (n:=10*fy a r b),aJ (n:=-10*fy a r b)];have u:(bif c5 (r.Length<10*fy a r b) then c6 p.up else(bif c5 (r.Length< -10*fy a r b) then c6 p.down else c6 p.level).bind λo=>c6 o)=c6 (if r.Length<10*fy a r b then p.up else if r.Length< -10*fy a r b then p.down else p.level):=by
  by_cases c:r.Length<10*fy a r b
  ·rw[aC c,if_pos c]
  ·rw[aG c,if_neg c]
   by_cases d:r.Length< -10*fy a r b
   ·rw[aC d,if_pos d];rfl
   ·rw[aG d,if_neg d];rfl
 rw[u,aa];have t:1<=(if r.Length<10*fy a r b then p.up else if r.Length< -10*fy a r b then p.down else p.level)/\(if r.Length<10*fy a r b then p.up else if r.Length< -10*fy a r b then p.down else p.level)<=100:=by
  split
  ·exact g.1
  ·split
   ·exact g.2.1
   ·exact g.2.2
 generalize (if r.Length<10*fy a r b then p.up else if r.Length< -10*fy a r b then p.down else p.level)=v at t⊢;rw[aJ (n:=10*r.Length),aJ (n:=10*r.Length+v),aJ (n:=10*r.Length+v -1),Ek (by omega),aa];have l:(10*r.Length+v -1).tdiv v=(10*r.Length+v -1)/v:=Int.tdiv_eq_ediv_of_nonneg (by omega);have h0:0<=(10*r.Length+v -1)/v:=Int.ediv_nonneg (by omega) (by omega);have c:(10*r.Length+v -1)/v<=10*r.Length+v -1:=Int.ediv_le_self _ (by omega);rw[l,aJ]
theorem aoC{a:ak}{r:aZ}{b:Bool}{d e c:Int}(h:1<=r.Length/\r.Length<=100000)(f:(1<=d/\d<=100)/\(1<=e/\e<=100)/\1<=c/\c<=100):wt a r b d e c= -1\/(1<=wt a r b d e c/\wt a r b d e c<=1000099):=by
 unfold wt
 split
 ·exact .inl rfl
 ·right
  have g:1<=(if r.Length<10*fy a r b then d else if r.Length< -10*fy a r b then e else c)/\(if r.Length<10*fy a r b then d else if r.Length< -10*fy a r b then e else c)<=100:=by
   split
   ·exact f.1
   ·split
    ·exact f.2.1
    ·exact f.2.2
  generalize (if r.Length<10*fy a r b then d else if r.Length< -10*fy a r b then e else c)=v at g⊢;have i:(10*r.Length+v -1)/v<=10*r.Length+v -1:=Int.ediv_le_self _ (by omega);refine⟨?_,by omega⟩
  refine Int.le_ediv_of_mul_le (by omega) ?_
  omega
def wT(a:ak)(i:Int)(b:Bool)(e c d:Int):Int:=if cP a/\0<=i then(match a.af[i.toNat]? with |some r=>wt a r b e c d |none=>-1) else -1
theorem rF(a:ak)(i:Int)(b:Bool){u d l:Int}(e:(1<=u/\u<=100)/\(1<=d/\d<=100)/\1<=l/\l<=100):wT a i b u d l= -1\/(1<=wT a i b u d l/\wT a i b u d l<=1000099):=by
 unfold wT
 split
 ·rename_i c
  split
  ·rename_i r f;have:=(c.1.2.2.2 r (fC f)).2.1;exact aoC ⟨this.1,this.2.1⟩ e
  ·exact .inl rfl
 ·exact .inl rfl
theorem Oz(a:ak)(i:Int):((ij LC a).bind λb=>bif (!b) then c6 true else bif c5 (i<0) then c6 true else c6 (c5 ((a.af.length:Int)<=i)))=c6 (c5 (¬cP a\/i<0\/(a.af.length:Int)<=i)):=by
 rw[ko,aa,fh (ew rfl)]
theorem Cv(c:ak)(i:Int)(b:Bool):rO LC c i b=c6 (wT c i b 6 9 12):=by
 unfold rO;rw[Oz,aa];unfold wT
 by_cases a:¬cP c\/i<0\/(c.af.length:Int)<=i
 ·rw[aC a]
  split
  ·rename_i d;have j:(c.af.length:Int)<=i:=by
    rcases a with a |a |a
    ·exact absurd d.1 a
    ·omega
    ·exact a
   rw[fe (by omega)]
  ·rfl
 ·rw[aG a];have e:cP c:=ei λh=>a (.inl h)
  have f:i.toNat<c.af.length:=by
   have:¬(c.af.length:Int)<=i:=λd=>a (.inr (.inr d))
   have:¬i<0:=λd=>a (.inr (.inl d))
   omega
  have h0:¬i<0:=λd=>a (.inr (.inl d))
  rw[if_pos ⟨e,by omega⟩,d1 f];unfold FX G5;have g:i=((i.toNat:Nat):Int):=by omega
  rw[aa]
  conv=>lhs;rw[g]
  rw[Ph e (d1 f) b _ (by decide)]
  rfl
theorem AF(c:ak)(i:Int)(b:Bool):nK LC c i b=c6 (wT c i b 2 3 4):=by
 unfold nK;rw[Oz,aa];unfold wT
 by_cases a:¬cP c\/i<0\/(c.af.length:Int)<=i
 ·rw[aC a]
  split
  ·rename_i d;have j:(c.af.length:Int)<=i:=by
    rcases a with a |a |a
    ·exact absurd d.1 a
    ·omega
    ·exact a
   rw[fe (by omega)]
  ·rfl
 ·rw[aG a];have e:cP c:=ei λh=>a (.inl h)
  have f:i.toNat<c.af.length:=by
   have:¬(c.af.length:Int)<=i:=λd=>a (.inr (.inr d))
   have:¬i<0:=λd=>a (.inr (.inl d))
   omega
  have h0:¬i<0:=λd=>a (.inr (.inl d))
  rw[if_pos ⟨e,by omega⟩,d1 f];unfold Fx;have g:i=((i.toNat:Nat):Int):=by omega
  rw[aa]
  conv=>lhs;rw[g]
  rw[Ph e (d1 f) b _ (by decide)]
  rfl
def mQ(a:ak)(i p:Int):Int:=
 if 0<=i then(match a.af[i.toNat]? with |some r=>if p=r.an then wT a i false 6 9 12 else if p=r.To then wT a i true 6 9 12 else -1 |none=>-1) else -1
theorem Tt(a:ak)(i p:Int)(f:a.af.length<=4611686018427387904):yM LC a i p=c6 (mQ a i p):=by
 unfold yM mQ;rw[aJ,cF,aa,de]
 by_cases b:0<=i/\i<=(a.af.length:Int) -1
 ·have e:i.toNat<a.af.length:=by omega
  have g:aj a.af i=c6 a.af[i.toNat]:=qC b.1 (by omega);rw[aC b,g,aa,aa,if_pos b.1,d1 e];dsimp only
  by_cases d:p=a.af[i.toNat].an
  ·rw[aC d,if_pos d,Cv,aa]
  ·rw[aG d,if_neg d]
   by_cases c:p=a.af[i.toNat].To
   ·rw[aC c,if_pos c,Cv,aa]
   ·rw[aG c,if_neg c]
 ·rw[aG b]
  by_cases h0:0<=i
  ·rw[if_pos h0,fe (by omega)]
  ·rw[if_neg h0]
def sq(b:ak)(a:bC):Prop:=(0<=a.Place/\a.Place<=(b.ai.length:Int) -1)/\(if a.Road= -1 then a.Left=0 else 0<=mQ b a.Road a.Place/\1<=a.Left/\a.Left<=2147483648)
instance (b:ak) (a:bC):Decidable (sq b a):=by unfold sq;infer_instance
theorem Vs{b:ak}(a:bC)(d:cP b):BS LC b a=c6 (c5 (sq b a)):=by
 have f:=d.1;have e:=d.2.1;unfold BS sq;rw[aJ,cF,aa,de,Tt _ _ _ (by omega),aa,cF,aa,fm (p:=0<=mQ b a.Road a.Place) rfl]
 by_cases c:a.Road= -1
 ·simp only[if_pos c];rw[aC c];exact fm rfl
 ·simp only[if_neg c];rw[aG c];exact fm rfl
def sj(a:aB)(i:Nat):Prop:=∃r c b d,a.aQ[i]? =c6 r/\a.cn[i]? =c6 c/\a.cf[i]? =c6 b/\a.bp[i]? =c6 d/\(-1<=c/\c<=65535)/\(-1<=b/\b<=a.Time)/\(c= -1↔b= -1)/\d.length=a.aN.length/\∀e,e∈d->0<=e/\e<=r.dY
def fw(a:aB):Prop:=uG a.ao a.aQ/\(1<=a.aN.length/\a.aN.length<=12)/\a.aw.length=a.aN.length/\lz a.aw/\(0<=a.Time/\a.Time<=2147483648)/\a.cn.length=a.aQ.length/\a.cf.length=a.aQ.length/\a.bp.length=a.aQ.length/\
 (∀i,i<a.aQ.length->sj a i)/\∀b,b∈a.aN->sq a.ao b
noncomputable instance (a:aB) (i:Nat):Decidable (sj a i):=Classical.propDecidable _
noncomputable instance (a:aB):Decidable (fw a):=Classical.propDecidable _
theorem abJ{l:List Int}{b:aB}{i:Nat}{r:aS}(d:b.aQ[i]? =c6 r)(e:Fit l):BW LC l b (i:Int)=c6 (l.any λa=>!c5 (0<=a/\a<=r.dY)):=by
 unfold BW Iq;have:=fF (l:=l) (P:=λa=>Ao LC a b (i:Int)) (p:=λa=>!c5 (0<=a/\a<=r.dY)) (f:=λc=>Kl LC l b (i:Int) c) e (λa g=>by
  unfold Ao;rw[bn,d,aa,cF,aa]) (λc=>rfl)
 rw[show(LC.loop (λc=>Kl LC l b (i:Int) c) 0).bind _=_ from this,aa,gm]
theorem ajZ{l:List bC}{a:aB}(d:cP a.ao)(g:Fit l):zH LC l a=c6 (l.any λe=>!c5 (sq a.ao e)):=by
 unfold zH Gd;have:=fF (l:=l) (P:=λb=>DB LC b a) (p:=λb=>!c5 (sq a.ao b)) (f:=λc=>Gl LC l a c) g (λb h=>by
  unfold DB;rw[Vs _ d,aa]) (λc=>rfl)
 rw[show(LC.loop (λc=>Gl LC l a c) 0).bind _=_ from this,aa,gm]
theorem HA{c:Type}{p:c->Prop}[DecidablePred p]{b:List c}:(b.any λa=>!c5 (p a))=c5 (¬∀a,a∈b->p a):=by
 rw[<-Bool.not_not (b.any _),ot,decide_not]
theorem xf(c:aB)(J:∀r,r∈c.aQ->Fit r.ai):pV LC c=c6 (c5 (fw c)):=by
 unfold pV;rw[Pm _ _ J,aa,cF,aa]
 by_cases g:uG c.ao c.aQ
 rotate_left
 ·rw[decide_eq_false g];simp only[Bool.not_false,cond_true,aa];rw[decide_eq_false (λa=>g a.1)]
 by_cases u:1<=(c.aN.length:Int)/\(c.aN.length:Int)<=12
 rotate_left
 ·rw[decide_eq_true g,decide_eq_false u];simp only[Bool.not_false,Bool.not_true,cond_true,cond_false,aa];rw[decide_eq_false (λa=>u (by have:=a.2.1;omega))]
 by_cases y:(c.aw.length:Int)=(c.aN.length:Int)
 rotate_left
 ·rw[decide_eq_true g,decide_eq_true u];simp only[Bool.not_true,cond_false];rw[aC y,aa];simp only[cond_true];rw[decide_eq_false (λa=>y (by have:=a.2.2.1;omega))]
 rw[KN (by show c.aw.length<=1000000;omega),aa,cF,aa,ew (ew rfl),fh rfl,fh rfl,ew rfl,fh rfl,fh rfl,aa]
 by_cases z:lz c.aw/\(0<=c.Time/\c.Time<=2147483648)/\(c.cn.length:Int)=c.aQ.length/\(c.cf.length:Int)=c.aQ.length/\(c.bp.length:Int)=c.aQ.length
 rotate_left
 ·rw[aC (by
   refine .inr (.inr (.inr (ei λe=>z ?_)))
   simp only[not_or,f5] at e;exact⟨e.1,e.2.1,e.2.2.1,e.2.2.2.1,e.2.2.2.2⟩)]
  rw[decide_eq_false (λa=>z (by obtain⟨_,_,_,m,s,G,F,E,_⟩:=a;exact⟨m,s,by omega,by omega,by omega⟩))]
 obtain⟨m,s,G,F,E⟩:=z;rw[aG (by
  intro a;rcases a with a |a |a |a |a |a |a |a
  ·exact a g
  ·exact a u
  ·exact a y
  ·exact a m
  ·exact a s
  ·exact a G
  ·exact a F
  ·exact a E)]
 have M:=g.2.1;have I:bO (λA=>xm LC c A) 0=c6 (if ∀i,i<c.aQ.length->(λi:Nat=>c5 (¬sj c i)) i=false then .inr () else .inl ()):=by
  refine oD _ _ () (λi l=>?_) ?_
  ·obtain⟨r,B⟩:∃r,c.aQ[i]? =c6 r:=⟨_,d1 l⟩;obtain⟨d,C⟩:∃d,c.cn[i]? =c6 d:=⟨_,d1 (by omega)⟩;obtain⟨b,x⟩:∃b,c.cf[i]? =c6 b:=⟨_,d1 (by omega)⟩;obtain⟨f,D⟩:∃f,c.bp[i]? =c6 f:=⟨_,d1 (by omega)⟩;have j:sj c i↔((-1<=d/\d<=65535)/\(-1<=b/\b<=c.Time)/\(d= -1↔b= -1)/\f.length=c.aN.length/\∀h,h∈f->0<=h/\h<=r.dY):=by
    constructor
    ·rintro⟨L,N,P,O,v,n,p,o,w⟩;rw[B] at v;rw[C] at n;rw[x] at p;rw[D] at o;injection v with v;injection n with n;injection p with p;injection o with o
     subst v n p o;exact w
    ·exact λa=>⟨r,d,b,f,B,C,x,D,a⟩
   unfold xm;rw[aC,bn,C,aa,cF,aa,bn,x,aa,cF,aa,aa,aa,bn,D,aa,aa];have w:(bif (c5 (d= -1) != c5 (b= -1)) then c6 true else c6 (c5 ((f.length:Int)≠(c.aN.length:Int))))=c6 (c5 (¬(d= -1↔b= -1)\/(f.length:Int)≠(c.aN.length:Int))):=by
    by_cases H:d= -1 <;> by_cases k:b= -1 <;> simp[H,k]
   rw[w,fh rfl,fh rfl,aa,aJ]
   by_cases q:(-1<=d/\d<=65535)/\(-1<=b/\b<=c.Time)/\(d= -1↔b= -1)/\f.length=c.aN.length
   ·rw[aG (by
     rintro(a |a |a |a)
     ·exact a q.1
     ·exact a q.2.1
     ·exact a q.2.2.1
     ·exact a (by have:=q.2.2.2;omega)),abJ B (by have:=q.2.2.2;show f.length<=_;omega),aa,HA]
    by_cases k:∀h,h∈f->0<=h/\h<=r.dY
    ·rw[decide_eq_false (λa=>a k),decide_eq_false (λa=>a (j.2 ⟨q.1,q.2.1,q.2.2.1,q.2.2.2,k⟩))];rfl
    ·rw[decide_eq_true k,decide_eq_true (show ¬sj c i from λa=>k (j.1 a).2.2.2.2)];rfl
   ·rw[aC (by
     refine ei λe=>q ?_
     simp only[not_or,f5] at e;exact⟨e.1,e.2.1,e.2.2.1,by have:=e.2.2.2;omega⟩),decide_eq_true (show ¬sj c i from λa=>q ⟨(j.1 a).1,(j.1 a).2.1,(j.1 a).2.2.1,(j.1 a).2.2.2.1⟩)]
    rfl
  ·unfold xm;rw[aG]
 rw[show LC.loop (λA=>xm LC c A) 0=_ from I,aa]
 by_cases t:∀i,i<c.aQ.length->sj c i
 ·rw[if_pos (λi l=>decide_eq_false (λa=>a (t i l))),Sum.elim_inr,ajZ g.1 (by show c.aN.length<=_;omega),aa,ot]
  congr 1
  exact decide_eq_decide.2 ⟨λa=>⟨g,by omega,by omega,m,s,by omega,by omega,by omega,t,a⟩,λa=>a.2.2.2.2.2.2.2.2.2⟩
 ·rw[if_neg (λK=>t λi l=>by have:=of_decide_eq_false (K i l);exact Classical.byContradiction this),Sum.elim_inl,decide_eq_false (λa=>t a.2.2.2.2.2.2.2.2.1)]
end Go.X.T
