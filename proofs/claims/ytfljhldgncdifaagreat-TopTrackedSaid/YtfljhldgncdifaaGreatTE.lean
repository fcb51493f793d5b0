/- For TopTracked, part 5. -/
import Derived.Test.YtfljhldgncdifaaGreatTD
import Derived.Lib.AppendZerosOnto
import Derived.Lib.AppendZeros
import Derived.Lib.Walk
import Derived.Laws.Externs
import Derived.Laws.NewBlocks
import Derived.Deep.RegionLaw
import Derived.Shelf.Sort.Plain
import Derived.Shelf.Slices.In.SortNone
import Derived.Ground.Names2Prog
import Derived.Lib.Overlaps
import Derived.WalkKit
import Derived.Test.YtfljhldgncdifaaGreatProg
set_option linter.defProp false
set_option linter.unusedVariables false
set_option linter.unusedSimpArgs false
set_option maxHeartbeats 2000000
set_option maxRecDepth 100000
set_option maxHeartbeats 4000000
set_option maxHeartbeats 0
set_option maxRecDepth 1000000
open Go.IntKind renaming wrap → c3, i64 → c4, wrap_i64 → h8, signed → u0, wrap → yl, bits → yn, u64 → E3, u8 → Kr
open Decidable renaming decide → c5, byContradiction → gb, not_not → hD
open Option renaming some → c6, none → c7, bind_some → ef, bind_eq_some_iff → m1, map → tt
open Go.Proofs.Tryz renaming prog → dd, func147 → ee, func86 → ez, underlying53 → hB, func143 → j4, f163 → kh, f171 → m3, func46 → o6, func340 → pc, func244 → q2, func217 → q6, func221 → q7, func153 → q8, func160 → qa, func116 → qb, underlying3 → qq, f143 → r3, func44 → s5, func49 → s6, f34 → tx, ntmps340 → vl, ntmps244 → wa, func145 → x9, func274 → xv, func273 → xx, func100 → y0, func300 → y1, func248 → y2, func228 → y3, func240 → y4, func284 → y5, func175 → y6, func299 → y7, func301 → y8, func256 → y9, func166 → ya, func113 → yk, func45 → yy, func78 → z7, func34 → z8, func84 → A3, func73 → A4
open List renaming getElem?_eq_getElem → dk, length_take → dt, getElem?_eq_some_iff → e4, length_drop → e5, getElem?_append_right → e6, length_append → ea, getElem?_append_left → ev, mem_singleton → eH, mem_of_getElem? → fe, getElem?_take → gv, getElem?_take_of_lt → h5, length_map → hq, mem_cons → hI, eq_nil_of_length_eq_zero → hM, getElem?_drop → hP, getElem?_eq_none → hQ, getElem?_map → hS, mem_of_mem_take → ie, mem_of_mem_drop → ih, mem_iff_getElem → j1, mem_map → j2, not_mem_nil → j5, getElem_mem → j6, mem_append → j9, pairwise_cons → k0, size_toArray → k7, take_append_drop → kd, append_nil → l1, append_assoc → l3, length_cons → m4, drop_eq_nil_of_le → mb, take_of_length_le → n1, length → o3, map → o4, getElem?_range → oi, Pairwise → oj, take_left' → sa, length_nil → ta, take_take → tj, take → x0, drop → x1, append → z6
open Nat renaming le_refl → dv, zero_le → ei, beq → ey, mul_le_mul_right → hY, zero_add → j3, min_eq_left → j8, add_mul → l4, ble_eq_true_of_le → ng, min_def → o2, eq_zero_or_pos → p0, le_trans → q4, sub_self → q5, one_pos → r5, mul_one → rb, strongRecOn → sp, mul_le_mul → vd, ble → x2, le_of_eq → x6
open Go.Builtin renaming zeroCells → dT, copy_ → h7, firstCells → p6, append_ → s8
open Array renaming length_toList → e0, getElem?_toList → eE, getD_eq_getD_getElem? → ft, getElem?_setIfInBounds_self_of_lt → gx, getElem?_eq_getElem → h9, size_append → k6, getElem?_modify → kc, getElem?_push → o9
open Go.Result renaming andThen_ok → ec, andThen → k8, ok → wb
open Int renaming le_refl → ej, le_trans → hz, mul_le_mul_of_nonneg_right → kl, toNat_natCast → la, ediv_le_self → r4
open Go.Sem renaming run_bind → eo, run_pure → h6
open Go.Value renaming agg → ga, int → hK, slice → s3
open Go.World renaming cell?_setCells_out → gy, alloc_heap_new → hU, cell?_setCells_in → m2, putObj_heap_other → m5, frozen?_setCells → mx, cell?_alloc_past → my, frozen? → vw, setCell → w3, cell? → z1
open Go.RowKit.Below renaming heap_alloc → hL
open Go.Instr renaming checkKey → hX, findNow → km, findKey → m0, lookup → ma, mapUpdate → s7
open Classical renaming byContradiction → j7, propDecidable → m6
open Go.Sort renaming putCells → l0, putRow → o1, ahead → p4, onCells → x3
open Go.Addr renaming add_lit → l2
open Sum renaming inr → n0, inl → o8, elim_inr → yv
open Go.Lib renaming wpList_append_run → n2
open Bool renaming not_false → o7, not_true → oq, false_eq_true → oS, eq_iff_iff → sT
open Go.Region renaming wanted → oo
open Go.Fence renaming wide → p7
open Go.Act renaming eval → q3, put → x5
open Go.Extern.SlicesOverlaps renaming overlaps → r0
open Option.some renaming inj → sn
open Go.Oper renaming wp → tc
namespace Go.X.T
open Go Go.Aml Go.Bml Go.X Go.RowKit Go.Proofs
def YQ(a:World)(e b:Obj):(a.alloc e).putObj a.heap.size b=a.alloc b:=by
 unfold World.putObj World.alloc;have:(a.heap.push e).setIfInBounds a.heap.size b=a.heap.push b:=by
  apply Array.ext_getElem?
  intro i;rw[Array.getElem?_setIfInBounds,o9,o9]
  by_cases c:a.heap.size=i
  .subst c;simp
  .rw[if_neg c,if_neg (λd=>c d.symm),if_neg (λd=>c d.symm)]
 rw[this]
def LK(b:World)(a:Obj):(b.alloc a).heap[b.heap.size]?=c6 a:=hU b a
def PG{d:Program}(a:World)(b:Array MapEntry)(i:Nat):(getObj a.heap.size).run d (a.alloc (.map b i))= .ok (.map b i) (a.alloc (.map b i)):=by
 have c:=LK a (.map b i);simp only[getObj,Sem.run,c]
def ag2{f:Program}(a:World)(b c:Array MapEntry)(i d:Nat):(setObj a.heap.size (.map c d)).run f (a.alloc (.map b i))= .ok () (a.alloc (.map c d)):=by
 have g:=LK a (.map b i);have e:=YQ a (.map b i) (.map c d);simp only[setObj,Sem.run,g];exact congrArg (wb ()) e
def aaO{P:Program}{w0:World}{t kt et:TypeId}{es:Array MapEntry}{i:Nat}{k:Int}{v:Value}(f:P.underlying t=c6 (.map kt et))(a:P.underlying kt=c6 (.int .i64))(d:km (.int .i64) (.int .i64 k) es.toList 0=c6 c7):
 (s7 t (.map (c6 w0.heap.size)) (.int .i64 k) v).run P (w0.alloc (.map es i))= .ok () (w0.alloc (.map (es.push ⟨.int .i64 k,v,i⟩) (i+1))):=by
 have b:(hX false (9999+1) kt (.int .i64 k)).run P (w0.alloc (.map es i))= .ok () (w0.alloc (.map es i)):=by
  unfold hX;simp only[eo,run_underlying a,ec,h6]
 have c:(m0 kt (.int .i64 k) es.toList).run P (w0.alloc (.map es i))= .ok c7 (w0.alloc (.map es i)):=by
  unfold m0;simp only[eo,run_underlying a,ec,d,h6]
 unfold s7;simp only[eo,run_underlying f,ec,PG];have e:(hX false 10000 kt (.int .i64 k)).run P (w0.alloc (.map es i))= .ok () (w0.alloc (.map es i)):=b;rw[e];simp only[ec,c,eo,ag2]
def PB(z:Value):Option (Nat×Value)->Value
 |some p=>p.2
 |none=>z
def anN{P:Program}{w0:World}{t kt et:TypeId}{es:Array MapEntry}{i:Nat}{k:Int}{r:Option (Nat×Value)}{z:Value}(g:P.underlying t=c6 (.map kt et))(a:P.underlying kt=c6 (.int .i64))(f:dV P et=c6 z)(e:km (.int .i64) (.int .i64 k) es.toList 0=c6 r):
 (ma t (.map (c6 w0.heap.size)) (.int .i64 k) false).run P (w0.alloc (.map es i))= .ok (PB z r) (w0.alloc (.map es i)):=by
 have c:∀b,(hX b 10000 kt (.int .i64 k)).run P (w0.alloc (.map es i))= .ok () (w0.alloc (.map es i)):=λb=>by
  show(hX b (9999+1) kt (.int .i64 k)).run P _=_
  unfold hX;simp only[eo,run_underlying a,ec,h6]
 have d:(m0 kt (.int .i64 k) es.toList).run P (w0.alloc (.map es i))= .ok r (w0.alloc (.map es i)):=by
  unfold m0;simp only[eo,run_underlying a,ec,e,h6]
 unfold ma;simp only[eo,run_underlying g,ec,PG,h6,c,d];cases r with
 |none=>simp only[eo,Ey f,ec,h6,oS,if_false];rfl
 |some p=>simp only[eo,ec,h6,oS,if_false];rfl
def nv:Nat->Array MapEntry
 |0=>#[]
 |i+1=>(nv i).push ⟨.int .i64 ((i:Int)+1),.func (.func (103+i)) #[] #[],i⟩
def uj{b:Program}{e:Array Oper}{f:Exit->Act->World->Prop}{a:Oper}{h:List Oper}{c:Act}{d g:World}{v:Value}(j:a.guard=c7)(i:(execOp c.eval a).run b d= .ok (.value v) g)(k:wpList b e f h (c.put a.dst v) g):wpList b e f (a::h) c d:=
 wpList_plain j λm l=>by
  unfold tc;rw[i];exact l _ _ k
def lr{b:Program}{e:Array Oper}{f:Exit->Act->World->Prop}{a:Oper}{h:List Oper}{c:Act}{d g:World}(j:a.guard=c7)(i:(execOp c.eval a).run b d= .ok .skip g)(k:wpList b e f h (c.put a.dst undef) g):wpList b e f (a::h) c d:=
 wpList_plain j λm l=>by
  unfold tc;rw[i];exact l _ _ k
def kZ{a:Act}{w0:World}{k:Int}{f:Nat}{d:TypeId}{h:String}{l:Array Edge}(i:Nat)(m:a.eval (.tmp 3)= .map (c6 w0.heap.size))(j:k=(i:Int)+1:=by rfl)(c:f=103+i:=by rfl)(g:km (.int .i64) (.int .i64 ((i:Int)+1)) (nv i).toList 0=c6 c7:=by rfl):
 (execOp a.eval ⟨c7,.insert 209 (.tmp 3) (.const (.int .i64 k)) (.func f),d,h,l,c7⟩).run dd (w0.alloc (.map (nv i) i))= .ok .skip (w0.alloc (.map (nv (i+1)) (i+1))):=by
 subst j;subst c;have e:a.eval (.const (.int .i64 ((i:Int)+1)))= .int .i64 ((i:Int)+1):=rfl;have b:a.eval (.func (103+i))= .func (.func (103+i)) #[] #[]:=rfl;have:=aaO (P:=dd) (w0:=w0) (t:=209) (kt:=3) (et:=134) (es:=nv i) (i:=i) (k:=(i:Int)+1) (v:=.func (.func (103+i)) #[] #[]) (by kernel_rfl) (by kernel_rfl) g;simp only[execOp,m,e,b,eo,this,ec,h6]
 rfl
def afd{b:Act}{d a:World}{c:Int}{v:Value}{e:TypeId}{i:String}{j:Array Edge}(h:b.eval (.tmp 4)= .map (c6 d.heap.size))(g:b.eval (.tmp 5)= .int .i64 c)(f:(ma 209 (.map (c6 d.heap.size)) (.int .i64 c) false).run dd a= .ok v a):
 (execOp b.eval ⟨c6 6,.lookup 209 (.tmp 4) (.tmp 5) false,e,i,j,c7⟩).run dd a= .ok (.value v) a:=by
 simp only[execOp,h,g];simp[f]
def apG(a:Int):∃r,km (.int .i64) (.int .i64 a) (nv 13).toList 0=c6 r/\PB .nilFunc r=(match lK a with |none=>.nilFunc |some f=>.func (.func f) #[] #[]):=by
 by_cases e:1<=a/\a<=13
 .have:a=1\/a=2\/a=3\/a=4\/a=5\/a=6\/a=7\/a=8\/a=9\/a=10\/a=11\/a=12\/a=13:=by omega
  rcases this with rfl |rfl |rfl |rfl |rfl |rfl |rfl |rfl |rfl |rfl |rfl |rfl |rfl <;> exact⟨_,rfl,rfl⟩
 .have g:∀d:Int,1<=d->d<=13->(a==d)=false:=λd b c=>by
   rw[beq_eq_false_iff_ne];intro h;exact e ⟨by omega,by omega⟩
  refine⟨c7,?_,?_⟩
  .simp[nv,km,Instr.sameNow,g]
  .have:lK a=c7:=by
    unfold lK
    by_cases b:1<=a
    .have c:¬a<=13:=λc=>e ⟨b,c⟩
     rw[decide_eq_true b,decide_eq_false c]
     rfl
    .rw[decide_eq_false b]
     rfl
   rw[this]
   rfl
def amx{a:Act}{e b:World}{d:Int}{v:Value}{p l:TypeId}{r n:String}{i j:Array Edge}{g:Array Oper}{c:Ending->World->Prop}(s:a.eval (.tmp 4)= .map (c6 e.heap.size))(q:a.eval (.tmp 5)= .int .i64 d)(t:a.tmps.size=7)(h:a.defers=[])
 (m:(ma 209 (.map (c6 e.heap.size)) (.int .i64 d) false).run dd b= .ok v b) (o:c (.returned v) b):
 wpList dd g (Exit.then (Code.ret.wp dd (bodyPost dd Tryz.f45 c)) (bodyPost dd Tryz.f45 c)) [⟨c6 6,.lookup 209 (.tmp 4) (.tmp 5) false,p,r,i,c7⟩,⟨c6 2,.assign (.tmp 6),l,n,j,c7⟩] a b:=by
 refine uj rfl (afd s q m) ?_
 have f:(a.put (c6 6) v).eval (.tmp 6)=v:=by
  show(a.tmps.setIfInBounds 6 v).getD 6 undef=v
  rw[ft,gx (by omega)]
  rfl
 refine uj (v:=v) rfl (by
  show wb (Next.value ((a.put (c6 6) v).eval (.tmp 6))) b=_
  rw[f]) ?_
 refine wpList_nil (wp_ret ⟨h,v,?_,o⟩)
 rw[results_tmp rfl];have k:(((a.put (c6 6) v).put (c6 2) v).tmps).getD 2 undef=v:=by
  show((a.tmps.setIfInBounds 6 v).setIfInBounds 2 v).getD 2 undef=v
  rw[ft,gx (by simp;omega)]
  rfl
 exact congrArg (λz=>wb z b) k
def K88(j:Lp):FT (FZ j):=by
 refine⟨pA yy rfl rfl,λa l d g w vs y h v=>?_⟩
 have d:c6 (lK a)=c6 l:=d;injection d with d
 match vs,y with
 |[x],_=>
 have h0:=v 0;have A:x= .int .i64 a:=VR.fQ (g:=g) (w:=w) h0;subst A;refine calls_of_wp yy rfl ?_
 refine wp_seq (wp_region_lit (uj rfl rfl ?_))
 show Code.wp _ _ _ _ _
 refine wp_seq (wp_region_lit (uj rfl rfl ?_))
 refine lr rfl (kZ 0 rfl) ?_
 refine lr rfl (kZ 1 rfl) ?_
 refine lr rfl (kZ 2 rfl) ?_
 refine lr rfl (kZ 3 rfl) ?_
 refine lr rfl (kZ 4 rfl) ?_
 refine lr rfl (kZ 5 rfl) ?_
 refine lr rfl (kZ 6 rfl) ?_
 refine lr rfl (kZ 7 rfl) ?_
 refine lr rfl (kZ 8 rfl) ?_
 refine lr rfl (kZ 9 rfl) ?_
 refine lr rfl (kZ 10 rfl) ?_
 refine lr rfl (kZ 11 rfl) ?_
 refine lr rfl (kZ 12 rfl) ?_
 refine uj rfl rfl (uj rfl rfl ?_)
 obtain⟨r,s,u⟩:=apG a;have n:dV dd 134=c6 .nilFunc:=by kernel_rfl
 have m:=anN (P:=dd) (w0:=w) (t:=209) (kt:=3) (et:=134) (es:=nv 13) (i:=13) (k:=a) (by kernel_rfl) (by kernel_rfl) n s;rw[u] at m;refine amx rfl rfl rfl rfl m ?_
 have c:Below w.heap.size w (w.alloc (.map (nv 13) 13)):=(Below.refl _ w).alloc (dv _) _;have o:(cz BT (FZ j).par a).H=[]:=rfl;have p:(cz BT (FZ j).az l)=⟨[(0,.jC l)],[]⟩:=rfl;rw[o] at h⊢;rw[p];obtain⟨q,z⟩:=GStep.lF (w':=w.alloc (.map (nv 13) 13)) (GStep.refl 0 g (av BT []) w) h c.os c.tape c.output c.size (λb e=>c.block b (h.fb b e)) (λr b B e=>c.block b (h.qD e)) (λb e=>c.block b e);refine⟨_,g,rfl,z,q,?_⟩
 subst d;show VR g (av BT []) _ (pv BT (.jC (lK a))) _
 cases lK a with
 |none=>exact .aW .dB
 |some f=>exact .aW (.fn f [] [] [] [] rfl (by simp) rfl (by simp))
def aiC(i:Program)(f:FuncId)(h g j:Nat):Prop:=
 ∀(a:World) (c:Nat),c*j<=140737488355328->c<=140737488355328->Calls i f #[.slice c7 0 0,.int .i64 c] a λd e=>(d= .returned (.slice c7 0 0)/\e=a)\/∃b cells,d= .returned (.slice (c6 ⟨a.heap.size,0,c7⟩) 0 b)/\cells.size=b*g/\b<=maxLen/\e=a.drew.alloc (.cells cells h)
section
open Go.RowKit
def acK:(dd.info? 3).map (λi=>(i.zero,i.size,i.bytes))=c6 (c6 (hK .i64 0),1,8):=by kernel_rfl
def aaj(w:World):Calls dd 340 #[.slice c7 0 0,.int .i64 0] w λe w'=>e= .returned (.slice c7 0 0)/\w'=w:=by
 go_enter pc,vl
 go_wp2
 go_ret
 exact⟨rfl,rfl⟩
def ak2(w:World)(n:Nat)(h0:0<n)(hb:n*8<=140737488355328)(hb2:n<=140737488355328):Calls dd 340 #[.slice c7 0 0,.int .i64 n] w λe w'=>e= .returned (.slice (c6 ⟨w.heap.size,0,c7⟩) 0 (grownCap w n 0 3))/\w'=w.drew.alloc (.cells (dT ((hK .i64 0):Value).cells n++dT ((hK .i64 0):Value).cells (grownCap w n 0 3 -n)) 3):=by
 obtain⟨i0,hi0,hz0,hzs,hzb⟩:=info_parts acK;have hrz:∀ty,(s8 #[22,3] ty #[.slice c7 0 0,.int .i64 (n:Int)]).run dd w=_:=λty=>
  Lib.run_append_nil_zeros w 22 3 ty 3 i0 _ .i64 .i64 Tryz.underlying22 qq hi0 hz0 n h0 (by omega) (by omega) (by rw[hzb];omega)
 have hG:=grownCap_ge w n 0 3;have hG63:grownCap w n 0 3<=9223372036854775807:=grownCap_le_maxLen w n 0 3 (by unfold maxLen;omega);have hp:(0:Int)<(n:Int):=by omega
 generalize grownCap w n 0 3=G at hrz hG hG63⊢;have hG0:¬(G=0):=by omega
 go_enter pc,vl
 go_wp2_with (at_builtin;refine n2 _ rfl _ _ _ _ rfl _ _ rfl rfl _ _ (hrz _) ?_)
 go_ret
 exact⟨rfl,rfl⟩
def V0:aiC dd 340 3 1 8:=by
 intro a b d c;rcases p0 b with rfl |h0
 .exact(aaj a).mono λe g f=>.inl f
 .refine(ak2 a b h0 d c).mono ?_
  rintro e g ⟨rfl,rfl⟩;refine .inr ⟨_,_,rfl,?_,grownCap_le_maxLen a b 0 3 (by unfold maxLen;omega),rfl⟩
  have i:=grownCap_ge a b 0 3;have h:((hK .i64 0):Value).cells.size=1:=by decide
  simp only[k6,size_zeroCells,h];omega
def anw{g:Gh}{c:World}(l:bF g [] c)(f:Nat)(cells:Array Value)(h:Nat)(v:cells.size=h*1)(n:h<=maxLen):
 Bml.GStep 0 g [] c ⟨g.F,λr=>if r=0 then c6 (c.heap.size,h) else c7⟩ [⟨f,1,[],0⟩] (c.alloc (.cells cells f))/\bF ⟨g.F,λr=>if r=0 then c6 (c.heap.size,h) else c7⟩ [⟨f,1,[],0⟩] (c.alloc (.cells cells f)):=by
 refine⟨⟨rfl,rfl,rfl,by simp,λ_ a=>a,λb a=>hL c _ b (l.fb b a),λb a _=>hL c _ b a,λb a=>.inl a,λr b o a=>?_,λr m y d=>?_⟩,⟨λb a=>?_,λr p b C1 C2 k j=>?_,λr b o a=>?_,λr m d=>?_⟩⟩
 .dsimp only at a
  by_cases e:r=0
  .rw[if_pos e] at a;injection a with a
   injection a with a
   exact .inl (by omega)
  .rw[if_neg e] at a;cases a
 .omega
 .have:=l.fb b a;simp;omega
 .dsimp only at k j
  by_cases e:r=0
  .by_cases q:p=0
   .omega
   .rw[if_neg q] at j;cases j
  .rw[if_neg e] at k;cases k
 .dsimp only at a
  by_cases e:r=0
  .subst e;exact r5
  .rw[if_neg e] at a;cases a
 .match r,d with
  |0,d=>
   have d:c6 (⟨f,1,[],0⟩:aO)=c6 m:=d;injection d with d
   subst d;refine⟨r5,λi e s=>by simp at s,?_⟩
   simp only[if_true];exact⟨λt=>Nat.lt_irrefl _ (l.fb _ t),cells,hU c _,v,n,ei _,λi w x u=>by simp[abk] at u⟩
def aeg{by_:Nat}{n:Int}{y:List Int}(a:Ct by_ n=c6 y):∃d:Nat,n=(d:Int)/\d*by_<=140737488355328/\y=[]:=by
 unfold Ct at a;cases b:c5 ((0:Int)<=n) with
 |false=>rw[b] at a;cases a
 |true=>
  rw[b] at a;have h0:=of_decide_eq_true b;obtain⟨h,e,c⟩:=m1.1 a;obtain⟨i,f,g⟩:=SF e;injection c with c
  exact⟨n.toNat,by omega,f,c.symm⟩
def abI(d:Lp):FT (J7 d):=by
 refine⟨pA pc rfl rfl,λa y t g w vs z f e=>?_⟩
 obtain⟨n,x,u,j⟩:=aeg (by_:=8) (n:=a) (y:=y) t;have k:cz BT (J7 d).par a=⟨[(0,.bg),(1,.int .i64 a)],[]⟩:=rfl;rw[k] at f e⊢
 match vs,z with
 |[r,p],_=>
 have C:r= .slice c7 0 0:=VR.pF (g:=g) (w:=w) (H:=[]) (e 0);have q:p= .int .i64 a:=VR.fQ (g:=g) (w:=w) (H:=[]) (e 1);subst C q;have o:(cz BT (J7 d).az y)=⟨[(0,.fl 0 0)],[⟨0,0,.aap 3 y⟩]⟩:=rfl;rw[o];have h:=V0 w n u (by omega);rw[<-x] at h;refine h.mono ?_
 rintro D E (⟨rfl,rfl⟩ |⟨i,cells,rfl,A,l,rfl⟩)
 .obtain⟨c,b⟩:=f.T6 3 1 (by omega);subst j;refine⟨_,_,rfl,b,c.less (ei _),.fl 0 0 ⟨3,1,[],0⟩ _ rfl (dv _) rfl λ_=>⟨by simp,?_⟩⟩
  have:=Gh.kg g 0 c7;rw[show(av BT ([]:List (Ob BT.D))).length=0 from rfl,this];exact⟨rfl,rfl,c7,rfl⟩
 .obtain⟨s,B⟩:=Ez (m:=0) f;subst j;obtain⟨c,b⟩:=anw B 3 cells i A l;refine⟨_,_,rfl,b,s.trans c,.fl 0 0 ⟨3,1,[],0⟩ _ rfl (dv _) rfl λ_=>⟨by simp,?_⟩⟩
  exact⟨i,_,rfl,ei _,λv=>absurd rfl v,λ_=>⟨rfl,rfl⟩⟩
end
end Go.X.T
namespace Go.X.T
open Go Go.Aml Go.Bml Go.X Go.RowKit Go.Proofs
def FC(c:Int):∀a,(mM c a).Perm (c::a)
 |[]=>.refl _
 |b::a=>by
  unfold mM;cases c5 (c<=b) with
  |true=>exact .refl _
  |false=>exact((FC c a).cons b).trans (.swap c b a)
def Ji:∀a,(dQ a).Perm a
 |[]=>.refl _
 |b::a=>(FC b (dQ a)).trans ((Ji a).cons b)
def L7(f:Int):∀e,oj (λa h=>a<=h) e->oj (λa h=>a<=h) (mM f e)
 |[],_=>by simp[mM]
 |b::e,d=>by
  unfold mM;rw[k0] at d;cases i:c5 (f<=b) with
  |true=>
   have g:=of_decide_eq_true i;refine k0.2 ⟨λa c=>?_,k0.2 d⟩
   rcases hI.1 c with rfl |c
   .exact g
   .exact hz g (d.1 a c)
  |false=>
   have g:=of_decide_eq_false i;refine k0.2 ⟨λa c=>?_,L7 f e d.2⟩
   rcases hI.1 ((FC f e).mem_iff.1 c) with rfl |c
   .omega
   .exact d.1 a c
def Qe:∀a,oj (λd b=>d<=b) (dQ a)
 |[]=>.nil
 |c::a=>L7 c _ (Qe a)
def apt(e:List Int):(e.mergeSort λd a=>c5 (d<=a))=dQ e:=by
 refine List.Perm.eq_of_pairwise (le:=λd a=>d<=a) (λh b _ _ f g=>Int.le_antisymm f g) ?_ (Qe e) ((List.mergeSort_perm _ _).trans (Ji e).symm)
 refine(List.pairwise_mergeSort (le:=λd a=>c5 (d<=a)) (λh b i f g=>?_) (λh b=>?_) e).imp λc=>of_decide_eq_true c
 .exact decide_eq_true (hz (of_decide_eq_true f) (of_decide_eq_true g))
 .rcases Int.le_total h b with c |c
  .simp[c]
  .simp[c]
def ahq{l y:List Int}(a:rC l=c6 y):l.length<=140737488355328/\y=dQ l:=by
 unfold rC at a;cases b:x2 l.length 140737488355328 with
 |false=>rw[b] at a;cases a
 |true=>
  rw[b] at a;injection a with a
  exact⟨Nat.le_of_ble_eq_true b,a.symm⟩
def HB(a:List Int):(dQ a).length=a.length:=(Ji a).length_eq
def atV:Go.Shelf.Ren:=⟨λ|189=>225 |125=>278 |257=>277 |128=>319 |129=>320 |294=>310 |295=>311 |296=>312 |297=>313 |298=>314 |299=>315 |216=>316 |300=>317 |301=>318 |328=>331 |329=>332 |330=>333 |331=>334 |332=>335 |215=>307 |343=>341 |a=>a,λ|28=>22 |3=>3 |46=>181 |0=>0 |51=>347 |53=>179 |4=>4 |183=>379 |182=>378 |131=>323 |5=>5 |9=>9 |218=>390 |222=>304 |228=>398 |229=>298 |a=>a,λa=>a⟩
open Go.Proofs.Tryz in
def arf:Go.Proofs.Lays.n189 dd atV:=⟨by kernel_rfl,func278.trans (congrArg c6 (by kernel_rfl)),func319.trans (congrArg c6 (by kernel_rfl)),func320.trans (congrArg c6 (by kernel_rfl)),func225.trans (congrArg c6 (by kernel_rfl)),func307.trans (congrArg c6 (by kernel_rfl)),func316.trans (congrArg c6 (by kernel_rfl)),func277.trans (congrArg c6 (by kernel_rfl)),func310.trans (congrArg c6 (by kernel_rfl)),func311.trans (congrArg c6 (by kernel_rfl)),func312.trans (congrArg c6 (by kernel_rfl)),func313.trans (congrArg c6 (by kernel_rfl)),func314.trans (congrArg c6 (by kernel_rfl)),func315.trans (congrArg c6 (by kernel_rfl)),func317.trans (congrArg c6 (by kernel_rfl)),func318.trans (congrArg c6 (by kernel_rfl)),func331.trans (congrArg c6 (by kernel_rfl)),func332.trans (congrArg c6 (by kernel_rfl)),func333.trans (congrArg c6 (by kernel_rfl)),func334.trans (congrArg c6 (by kernel_rfl)),func335.trans (congrArg c6 (by kernel_rfl)),func341.trans (congrArg c6 (by kernel_rfl)),underlying0,isAgg0,sizeOf0,zeroValue0,underlying3,isAgg3,sizeOf3,zeroValue3,underlying4,isAgg4,sizeOf4,zeroValue4,underlying5,isAgg5,sizeOf5,zeroValue5,underlying9,isAgg9,sizeOf9,zeroValue9,underlying22,isAgg22,sizeOf22,zeroValue22,underlying181,isAgg181,sizeOf181,zeroValue181,underlying347,isAgg347,sizeOf347,zeroValue347,underlying179,isAgg179,sizeOf179,zeroValue179,underlying323,isAgg323,sizeOf323,zeroValue323,underlying378,isAgg378,sizeOf378,zeroValue378,underlying379,isAgg379,sizeOf379,zeroValue379,underlying390,isAgg390,sizeOf390,zeroValue390,underlying304,isAgg304,sizeOf304,zeroValue304,underlying398,isAgg398,sizeOf398,zeroValue398,underlying298,isAgg298,sizeOf298,zeroValue298⟩
def ajH{g:Gh}{c:World}{a:List Int}{b k m:Nat}{u:Array Obj}(D:bF g [⟨3,1,a.map (PV.int .i64),0⟩] c)(n:g.β 0=c6 (b,k)){w':World}(l:w'=Sort.grow (o1 (hK .i64) (p4 c m) b 0 (dQ a).toArray) u):
 ∃A,Bml.GStep 1 g [⟨3,1,a.map (PV.int .i64),0⟩] c A [⟨3,1,(dQ a).map (PV.int .i64),0⟩] w'/\bF A [⟨3,1,(dQ a).map (PV.int .i64),0⟩] w':=by
 have C:=(D.obj 0 _ rfl).mem;rw[n] at C;obtain⟨N,cells,y,z,K,w,R⟩:=C;have J:b<c.heap.size:=nN y;rw[hq] at w;have B:(o1 (hK .i64) (p4 c m) b 0 (dQ a).toArray).heap=c.heap.modify b (x3 (l0 (hK .i64) 0 (dQ a).toArray)):=rfl;have v:(o1 (hK .i64) (p4 c m) b 0 (dQ a).toArray).heap.size=c.heap.size:=by rw[B];simp
 have x:∀j,j<c.heap.size->w'.heap[j]?=(c.heap.modify b (x3 (l0 (hK .i64) 0 (dQ a).toArray)))[j]? :=λj q=>by
  rw[l,Sort.heap_grow_old _ u (by rw[v];exact q),B]
 have L:=bF.set (r:=0) (o':=⟨3,1,(dQ a).map (PV.int .i64),0⟩) (w':=w') (p:=c6 (b,k)) D rfl (by rw[l];rfl) (by rw[l];rfl) (by rw[l];rfl)
  (by rw[l];show c.heap.size<=((o1 (hK .i64) (p4 c m) b 0 (dQ a).toArray).heap++u).size;rw[k6,v];omega)
  (λj q H=>by
   rw[x j q,kc];rw[if_neg (λo=>H k (by rw[<-o];exact n))])
  (dv _) (λ_=>⟨rfl,by simp[HB],n.symm⟩) (λQ P s=>by injection s with s;injection s with h1 h2;subst h1;exact .inl ⟨k,n⟩) r5
  (λi o d=>by
   obtain⟨e,_,rfl⟩:=j2.1 (fe d)
   rfl) ?_
 .exact⟨_,L⟩
 .refine⟨l0 (hK .i64) 0 (dQ a).toArray cells,?_,?_,K,by simpa[HB] using w,λi F G h=>?_⟩
  .rw[x b J,kc,if_pos rfl,y]
   rfl
  .unfold l0;rw[Array.size_mapIdx,z]
  .obtain⟨o,d,M⟩:=gw h;obtain⟨e,f,rfl⟩:∃e,(dQ a)[i]?=c6 e/\PV.int .i64 e=o:=by
    rw[hS] at d;cases f:(dQ a)[i]? with
    |none=>rw[f] at d;cases d
    |some e=>rw[f] at d;injection d with d;exact⟨e,rfl,d⟩
   match F,M with
   |0,_=>
    have h:G=PV.int .i64 e:=by
     unfold abk at h;rw[d] at h;injection h with h
     exact h.symm
    subst h;have t:i<(dQ a).length:=(e4.1 f).1;have E:i<cells.size:=by
     have O:cells.size=k*1:=z;rw[HB] at t;omega
    refine⟨.int .i64 e,?_,rfl,.aW (.int _ _)⟩
    unfold l0;rw[Array.getElem?_mapIdx,rb,Nat.add_zero,h9 E];simp only[Option.map_some,ei,j3,true_and,k7,t,if_true,Nat.sub_zero];have I:(dQ a).toArray[i]! =e:=by
     rw[e4] at f;obtain⟨_,f⟩:=f;simp[t,f]
    rw[I]
def ak4(a:List Int){g:Gh}{c:World}{n:Value}(O:a.length<=140737488355328)(o:bF g [⟨3,1,a.map (PV.int .i64),0⟩] c)(h0:VR g [⟨3,1,a.map (PV.int .i64),0⟩] c (.fl 0 0) n):
 Calls dd 225 #[n] c λd e=>d= .returned (.tuple #[])/\∃j,Bml.GStep 1 g [⟨3,1,a.map (PV.int .i64),0⟩] c j [⟨3,1,(dQ a).map (PV.int .i64),0⟩] e/\bF j [⟨3,1,(dQ a).map (PV.int .i64),0⟩] e:=by
 have E:SL g ⟨3,1,a.map (PV.int .i64),0⟩ 0 0 a.length n:=by
  cases h0 with
  |aW p=>cases p
  |fl _ _ A _ h P I q=>
   have h:c6 (⟨3,1,a.map (PV.int .i64),0⟩:aO)=c6 A:=h;injection h with h
   subst h;have:=q rfl;have d:(⟨3,1,a.map (PV.int .i64),0⟩:aO).es.length=a.length:=hq _
   rwa [d] at this
 obtain⟨R,l⟩:=E;have t:∀(f:Option Addr) (cap:Nat),a.length=0->Calls dd 225 #[.slice f 0 cap] c λd e=>(d= .returned (.tuple #[])/\∃j,Bml.GStep 1 g [⟨3,1,a.map (PV.int .i64),0⟩] c j [⟨3,1,(dQ a).map (PV.int .i64),0⟩] e/\bF j [⟨3,1,(dQ a).map (PV.int .i64),0⟩] e):=λf cap p=>by
  have q:a=[]:=hM p;subst q;refine(Any.slices_Sort_int_none arf f cap c).mono ?_
  rintro d e ⟨rfl,rfl⟩;exact⟨rfl,g,Bml.GStep.refl _ _ _ _,o⟩
 cases m:g.β 0 with
 |none=>
  rw[m] at l;obtain⟨_,k,f,rfl⟩:=l;exact t f 0 k
 |some w=>
  obtain⟨b,N⟩:=w;rw[m] at l;obtain⟨cap,f,rfl,F,M,C⟩:=l;rcases p0 a.length with k |K
  .rw[k];exact t f cap k
  .obtain rfl:=(C rfl).1;have v:=(o.obj 0 _ rfl).mem;rw[m] at v;obtain⟨G,cells,r,Q,S,J,D⟩:=v;have B:Sort.Holds (hK .i64) c b 0 a.toArray:=λi s=>by
    rw[k7] at s;have z:abk (a.map (PV.int .i64)) i 0=c6 (.int .i64 a[i]):=by
     unfold abk;rw[hS,dk s]
     rfl
    obtain⟨L,u1,u2,u3⟩:=D i 0 _ z;have x:=VR.fQ u3;subst x;refine⟨?_,?_⟩
    .have y:a.toArray[i]! =a[i]:=by simp[s]
     rw[y,j3];unfold z1;rw[r];simpa using u1
    .unfold vw;rw[r];simp
   refine(Any.slices_Sort_int arf b 0 cap a c B (nN r) (by omega)).mono ?_
   rintro d e ⟨rfl,H,T,u⟩;rw[apt] at u;exact⟨rfl,ajH o m u⟩
def D5(b:Lp):FT (AW b):=by
 refine⟨pA Tryz.func225 rfl rfl,λa y k g t vs p d c=>?_⟩
 obtain⟨m,o⟩:=ahq (l:=a) (y:=y) k;have f:cz BT (AW b).par a=⟨[(0,.fl 0 0)],[⟨0,0,.aap 3 a⟩]⟩:=rfl;have h:cz BT (AW b).az y=⟨[],[⟨0,0,.aap 3 y⟩]⟩:=rfl;rw[f] at d c⊢;rw[h];subst o
 match vs,p with
 |[s],_=>
 refine(ak4 a m d (c 0)).mono ?_
 rintro u v ⟨rfl,q,j,e⟩;exact⟨_,q,rfl,e,j,.bu [] [] rfl λi r a n=>by simp at n⟩
end Go.X.T
namespace Go.Bml
open Go Go.RowKit
section
variable {P:Program}
def Ee(w:World)(n x B elem:TypeId)(f b d k r:Nat)(h:Addr)(o q j:Nat)(c:List Value)
 (u:P.underlying n=c6 (.slice elem)) (l:cH P elem=c6 f) (D:Nat.min o k=j) (C:c.length=j*f)
 (t:∀a v,c[a]?=c6 v->w.cell? (h.add a)=c6 v) (z:∀a,a<c.length->(w.cell? ⟨b,d+a,c7⟩).isSome=true) (A:∀a,a<c.length->w.frozen? ⟨b,d+a,c7⟩=false) (s:∀v∈c,v.oneCell'=true):
 (h7 #[n,x] B #[.slice (c6 ⟨b,d,c7⟩) k r,.slice (c6 h) o q]).run P w= .ok (goInt j) (w.setCells b d c):=by
 have m:=run_loadCells_list (P:=P) w h c t;have p:=run_storeCells_cells (P:=P) b d c 0 w (by simpa using z) (by simpa using A) s;rw[C] at m;cases e:P.info? elem with
 |none=>simp[cH,e] at l
 |some i=>
  have y:i.size=f:=by simpa[cH,e] using l
  simp[h7,run_underlying u,Builtin.lenOf,p6,sizeOf,typeInfo,e,y,D,m,p]
def MW(b:Nat)(vs:List Value)(a:Nat)(w:World)(e:∀d,d<vs.length->(w.cell? ⟨b,a+d,c7⟩).isSome=true)(c:Nat)(f:(w.cell? ⟨b,c,c7⟩).isSome=true):((w.setCells b a vs).cell? ⟨b,c,c7⟩).isSome=true:=by
 by_cases h:a<=c/\c<a+vs.length
 .have:=m2 b vs a w e (c -a) (by omega);rw[show a+(c -a)=c by omega] at this;rw[this];rfl
 .rw[gy b vs a w ⟨b,c,c7⟩ (λ_ _=>by show c<a\/a+vs.length<=c;omega)];exact f
def akt{w:World}{b o:Nat}{v:Value}{cells:Array Value}{c:TypeId}{a:Nat×Nat}(e:w.heap[b]?=c6 (.cells cells c a)):
 ∃d,(w.setCell ⟨b,o,c7⟩ v).heap[b]?=c6 (.cells d c a)/\d.size=cells.size:=by
 refine⟨cells.setIfInBounds o v,?_,by simp⟩
 unfold w3;dsimp only;rw[kc,if_pos rfl,e]
 rfl
def P2{b:Nat}{c:TypeId}{d:Nat×Nat}:∀(vs:List Value) (o:Nat) (w:World) (cells:Array Value),w.heap[b]?=c6 (.cells cells c d)->
 ∃e,(w.setCells b o vs).heap[b]?=c6 (.cells e c d)/\e.size=cells.size
 |[],_,_,cells,a=>⟨cells,a,rfl⟩
 |v::r,o,w,cells,a=>by
  obtain⟨l,h,k⟩:=akt (o:=o) (v:=v) a;obtain⟨j,i,f⟩:=P2 r (o+1) _ l h;exact⟨j,i,f.trans k⟩
def MQ{b:Nat}:∀(vs:List Value) (c:Nat) (w:World) (a:Nat),a≠b->(w.setCells b c vs).heap[a]?=w.heap[a]?
 |[],_,_,_,_=>rfl
 |v::r,c,w,a,d=>by
  rw[World.setCells,MQ r (c+1) _ a d];exact Below.heap_setCell w ⟨b,c,c7⟩ v a (by simpa using d)
def QW(b:Nat):∀(vs:List Value) (a:Nat) (w:World),(w.setCells b a vs).os=w.os/\(w.setCells b a vs).tape=w.tape/\(w.setCells b a vs).output=w.output/\(w.setCells b a vs).heap.size=w.heap.size
 |[],_,_=>⟨rfl,rfl,rfl,rfl⟩
 |v::r,a,w=>by
  obtain⟨c,d,f,e⟩:=QW b r (a+1) (w.setCell ⟨b,a,c7⟩ v);exact⟨c,d,f,e.trans (by simp[w3])⟩
def Yq{w:World}{b a:Nat}{e vs:List Value}(i:∀c d,e[c]?=c6 d->w.cell? ⟨b,c,c7⟩=c6 d)(o:a<=e.length)(l:∀c,c<vs.length->(w.cell? ⟨b,a+c,c7⟩).isSome=true):
 ∀c d,(e.take a++vs++e.drop (a+vs.length))[c]?=c6 d->(w.setCells b a vs).cell? ⟨b,c,c7⟩=c6 d:=by
 intro c d f;have j:(e.take a).length=a:=by simp;omega
 by_cases h:c<a
 .rw[l3,ev (by omega),h5 h] at f;rw[gy b vs a w _ (λ_ _=>.inl h)];exact i c d f
 .by_cases n:c<a+vs.length
  .rw[ev (by simp;omega),e6 (by omega),j] at f;obtain⟨k,rfl⟩:=e4.1 f;have:=m2 b vs a w l (c -a) k;rw[show a+(c -a)=c by omega] at this;exact this
  .have m:(e.take a++vs).length=a+vs.length:=by rw[ea,j]
   rw[e6 (by omega),m,hP,show a+vs.length+(c - (a+vs.length))=c by omega] at f;rw[gy b vs a w _ (λ_ _=>.inr (by show a+vs.length<=c;omega))];exact i c d f
def oe{w:World}{b a:Nat}{cells:Array Value}{d:TypeId}{c:Nat×Nat}(e:w.heap[b]?=c6 (.cells cells d c)):w.cell? ⟨b,a,c7⟩=cells[a]? :=by
 unfold z1;rw[e]
 rfl
def FM{w:World}{b c:Nat}{cells:Array Value}{a:TypeId}(d:w.heap[b]?=c6 (.cells cells a (0,0))):w.frozen? ⟨b,c,c7⟩=false:=by
 unfold vw;rw[d];simp
def ON{w:World}{b:Nat}{cells:Array Value}{a:TypeId}(c:w.heap[b]?=c6 (.cells cells a (0,0))):w.shape? b=c6 (a,cells.size):=by
 unfold World.shape?;rw[c]
structure nq (E k:Nat) (w w':World) (b C B C':Nat) (us:List Value):Prop where
 os:w'.os=w.os
 tape:w'.tape=w.tape
 output:w'.output=w.output
 size:w.heap.size<=w'.heap.size
 E9:∀x,x<w.heap.size->x≠b->w'.heap[x]?=w.heap[x]?
 place:(B=b/\C'=C)\/w.heap.size<=B
 block:∃cells,w'.heap[B]?=c6 (.cells cells E (0,0))/\cells.size=C'*k
 room:C'<=maxLen
 fits:us.length<=C'*k
 holds:∀j u,us[j]?=c6 u->w'.cell? ⟨B,j,c7⟩=c6 u
def nq.set{E k:Nat}{w c:World}{b C B d o:Nat}{a vs:List Value}(h:nq E k w c b C B d a)(n:o<=a.length)(K:o+vs.length<=d*k)(F:(a.take o++vs++a.drop (o+vs.length)).length<=d*k):
 nq E k w (c.setCells B o vs) b C B d (a.take o++vs++a.drop (o+vs.length)):=by
 obtain⟨cells,l,m⟩:=h.block;have A:∀e,e<vs.length->(c.cell? ⟨B,o+e,c7⟩).isSome=true:=λe L=>by
  rw[oe l,h9 (by omega)]
  rfl
 obtain⟨u,t,s,I⟩:=QW B vs o c;obtain⟨J,G,y⟩:=P2 vs o c cells l;refine⟨u.trans h.os,t.trans h.tape,s.trans h.output,by rw[I];exact h.size,λx D j=>?_,h.place,⟨J,G,y.trans m⟩,h.room,F,Yq h.holds n A⟩
 rw[MQ vs o c x (by rcases h.place with⟨p,_⟩ |p;rw[p];exact j;omega)];exact h.E9 x D j
def nq.drew{E k:Nat}{w a:World}{b C B d:Nat}{c:List Value}(h:nq E k w a b C B d c):nq E k w a.drew b C B d c:=⟨h.os,h.tape,h.output,h.size,h.E9,h.place,h.block,h.room,h.fits,h.holds⟩
def Xa{e d:Nat}{w:World}{b a m:Nat}{cells:Array Value}(f:w.heap[b]?=c6 (.cells cells e (0,0)))(i:cells.size=a*d)(h:a<=maxLen)(k:m<=a*d):nq e d w w b a b a (cells.toList.take m):=by
 refine⟨rfl,rfl,rfl,dv _,λ_ _ _=>rfl,.inl ⟨rfl,rfl⟩,⟨cells,f,i⟩,h,by rw[dt];omega,λj l c=>?_⟩
 rw[oe f, <-eE];rw[gv] at c
 split at c
 .exact c
 .cases c
def ak9{E d:Nat}{w:World}{b C c m:Nat}{row:Array Value}(i:row.size=c*d)(e:c<=maxLen)(l:m<=c*d):nq E d w (w.alloc (.cells row E)) b C w.heap.size c (row.toList.take m):=by
 refine⟨rfl,rfl,rfl,by simp,λf h _=>hL w _ f h,.inr (dv _),⟨row,heap_alloc_new w _,i⟩,e,by rw[dt];omega,λj k a=>?_⟩
 rw[oe (heap_alloc_new w _), <-eE];rw[gv] at a
 split at a
 .exact a
 .cases a
def ac9{d:Type}{b vs:List d}{a c:Nat}(h:a+c<=b.length)(e:vs.length=c):
 (b.take (a+c)++b.drop a++b.drop (a+c+(b.drop a).length)).take a++vs++(b.take (a+c)++b.drop a++b.drop (a+c+(b.drop a).length)).drop (a+vs.length)=b.take a++vs++b.drop a:=by
 have h0:b.drop (a+c+(b.drop a).length)=[]:=mb (by rw[e5];omega);have f:(b.take (a+c)).length=a+c:=by rw[dt];omega
 rw[h0,l1,e,List.take_append_of_le_length (by omega),tj,j8 (by omega),List.drop_left' f]
def anz{f:Type}{b c vs:List f}{a d:Nat}(k:a<=c.length)(h:vs.length=d)(j:b.length=c.length+d)(i:b.take a=c.take a):
 (b.take a++vs++b.drop (a+vs.length)).take (a+d)++c.drop a++(b.take a++vs++b.drop (a+vs.length)).drop (a+d+(c.drop a).length)=c.take a++vs++c.drop a:=by
 have e:(b.take a++vs).length=a+d:=by rw[ea,dt,h];omega
 have h0:(b.take a++vs++b.drop (a+vs.length)).drop (a+d+(c.drop a).length)=[]:=mb (by rw[ea,e,e5,e5];omega);rw[h0,l1,sa e,i]
def No(P:Program)(f:FuncId)(j a p:Nat):Prop:=
 ∀(w:World) (b c d i l h:Nat) (cells e:Array Value),b≠l->w.heap[b]?=c6 (.cells cells j (0,0))->cells.size=d*a->w.heap[l]?=c6 (.cells e j (0,0))->e.size=h*a->1<=h->i<c->c<=d->d<=maxLen->h<=maxLen->(c+1)*p<=140737488355328->(c+1)*a<=140737488355328->
  (∀k∈cells.toList.take (c*a),k.oneCell'=true)->(∀k∈e.toList.take a,k.oneCell'=true)->
  Calls P f #[.slice (c6 ⟨b,0,c7⟩) c d,.int .i64 i,.slice (c6 ⟨l,0,c7⟩) 1 h] w λo q=>∃n m,o= .returned (.slice (c6 ⟨n,0,c7⟩) (c+1) m)/\
   nq j a w q b d n m ((cells.toList.take (c*a)).take (i*a)++e.toList.take a++(cells.toList.take (c*a)).drop (i*a))
end
section
variable {g:Gh}{H:List aO}{w:World}
def gI.take{sz:Nat}{es:List PV}{d:List Value}(h:gI g H w sz es d)(o:∀e,e∈es->e.cells.length=sz)(m:Nat)(k:m<=es.length):gI g H w sz (es.take m) (d.take (m*sz)):=by
 refine⟨?_,λi j c a=>?_⟩
 .rw[dt,dt,h.1,j8 k,j8 (hY _ k)]
 .obtain⟨e,he,y⟩:=gw a;have hi:=(e4.1 he).1;rw[dt] at hi;have hi:i<m/\i<es.length:=by omega
  have s:abk es i j=c6 c:=by
   unfold abk at a⊢
   rwa [h5 hi.1] at a
  rw[h5 hi.1] at he;have x:=o e (fe he);obtain⟨t,l,n,u⟩:=h.2 i j c s;refine⟨t,?_,n,u⟩
  have:(i+1)*sz<=m*sz:=hY _ hi.1;rw[l4,Nat.one_mul] at this;rw[h5 (by omega)];exact l
def gI.drop{sz:Nat}{es:List PV}{d:List Value}(h:gI g H w sz es d)(m:Nat):gI g H w sz (es.drop m) (d.drop (m*sz)):=by
 refine⟨?_,λi e c a=>?_⟩
 .rw[e5,e5,h.1,Nat.sub_mul]
 .have l:abk es (m+i) e=c6 c:=by
   unfold abk at a⊢
   rwa [hP] at a
  obtain⟨n,k,j,o⟩:=h.2 _ e c l;refine⟨n,?_,j,o⟩
  rw[hP, <-Nat.add_assoc, <-l4];exact k
def gI.aX{sz:Nat}{es l:List PV}{t vs:List Value}(h:gI g H w sz es t)(s:gI g H w sz l vs)(u:∀e,e∈es->e.cells.length=sz):gI g H w sz (es++l) (t++vs):=by
 refine⟨by rw[ea,ea,h.1,s.1,l4],λi a c d=>?_⟩
 by_cases hi:i<es.length
 .have m:abk es i a=c6 c:=by
   unfold abk at d⊢
   rwa [ev hi] at d
  obtain⟨n,j,k,o⟩:=h.2 i a c m;exact⟨n,by rw[ev (e4.1 j).1];exact j,k,o⟩
 .have m:abk l (i -es.length) a=c6 c:=by
   unfold abk at d⊢
   rwa [e6 (by omega)] at d
  obtain⟨n,j,k,o⟩:=s.2 _ a c m;refine⟨n,?_,k,o⟩
  have e:i*sz=es.length*sz+(i -es.length)*sz:=by rw[<-l4];congr 1;omega
  rw[e6 (by rw[h.1,e];omega),h.1,e,show es.length*sz+(i -es.length)*sz+a -es.length*sz=(i -es.length)*sz+a by omega];exact j
def qT.row{r b C:Nat}{a:aO}(F:bF g H w)(o:H[r]?=c6 a)(y:g.β r=c6 (b,C)):
 ∃cells,w.heap[b]?=c6 (.cells cells a.ty (0,0))/\cells.size=C*a.sz/\C<=maxLen/\a.es.length<=C/\gI g H w a.sz a.es (cells.toList.take (a.es.length*a.sz))/\∀d∈cells.toList.take (a.es.length*a.sz),d.oneCell'=true:=by
 obtain⟨a1,l,j⟩:=F.obj r a o;rw[y] at j;obtain⟨_,cells,t,h,D,n,E⟩:=j;have x:(cells.toList.take (a.es.length*a.sz)).length=a.es.length*a.sz:=by
  rw[dt,e0,h,j8 (hY _ n)]
 have k:gI g H w a.sz a.es (cells.toList.take (a.es.length*a.sz)):=by
  refine⟨x,λi s c m=>?_⟩
  obtain⟨d,u,A,B⟩:=E i s c m;refine⟨d,?_,A,B⟩
  obtain⟨e,he,I⟩:=gw m;have G:=l i e he;have hi:=(e4.1 he).1;have:(i+1)*a.sz<=a.es.length*a.sz:=hY _ hi;rw[l4,Nat.one_mul] at this;rw[h5 (by omega),eE];exact u
 exact⟨cells,t,h,D,n,k,k.one a1 l⟩
end
def Yz{P:Program}(w:World){a:Oper}{b:Act}{j:Act->World->Prop}{l:Exit->Act->World->Prop}(f e:Operand)(c d:TypeId)
 (n:a.op= .call {callee:=.builtin .copy,args:=#[f,e],argTypes:=#[c,d]}) (v k:Value) (o:b.eval f=v) (p:b.eval e=k) {h:Value} {i:World}
 (q:(h7 #[c,d] a.type #[v,k]).run P w= .ok h i) (m:j (b.put a.dst h) i):a.wp P b w j l:=by
 unfold tc execOp;simp only[n,resolve,invoke,builtin,eo,h6,ec,List.map_toArray,List.map_cons,List.map_nil,o,p,q];exact m
def Kj{P:Program}(w:World){ops:Array Oper}{l:List Oper}{a:Oper}{b:Act}{i:Exit->Act->World->Prop}(r:a.guard=c7)(f e:Operand)(c d:TypeId)
 (o:a.op= .call {callee:=.builtin .copy,args:=#[f,e],argTypes:=#[c,d]}) (v h:Value) (p:b.eval f=v) (q:b.eval e=h) {j:Value} {k:World}
 (m:(h7 #[c,d] a.type #[v,h]).run P w= .ok j k) (n:wpList P ops i l (b.put a.dst j) k):wpList P ops i (a::l) b w:=
 wpList_plain r λ_ s=>Yz w f e c d o v h p q m (s _ _ n)
def Mz{P:Program}{ops:Array Oper}{a:Oper}{b:Act}{w:World}{d:Act->World->Prop}{p:Exit->Act->World->Prop}{r:Prop}
 (o:a.guard=c7) (c j:Operand) (h f:TypeId) (n:a.op=Op.call {callee:=Callee.builtin Builtin.copy,args:=#[c,j],argTypes:=#[h,f]})
 (v e:Value) (l:b.eval c=v) (s:b.eval j=e) {i:Value} {k:World} (t:(h7 #[h,f] a.type #[v,e]).run P w= .ok i k) (m:d (b.put a.dst i) k):
 if oo a (yielded ops b.tmps)=true then tc P a b w d p else r:=by
 have q:oo a (yielded ops b.tmps)=true:=by simp[oo,o]
 rw[if_pos q];unfold tc;simp[execOp,n,resolve,invoke,builtin,l,s,t,k8];exact m
def Xg{g:Gh}{f:List aO}{w m:World}{q b l j h k d v:Nat}{y c:List PV}{o:List Value}(R:bF g f w)(n:f[q]?=c6 ⟨k,d,y,v⟩)(t:g.β q=c6 (b,l))(B:0<d)
 (e:nq k d w m b l j h o) (O:gI g f w d c o) (J:∀a,a∈c->a.cells.length=d) (x:c.length<=h):
 GStep f.length g f w (g.push q (c6 (j,h))) (f.set q ⟨k,d,c,v+1⟩) m/\bF (g.push q (c6 (j,h))) (f.set q ⟨k,d,c,v+1⟩) m/\
  SL (g.push q (c6 (j,h))) ⟨k,d,c,v+1⟩ q 0 c.length (.slice (c6 ⟨j,0,c7⟩) c.length h):=by
 have U:q<f.length:=(e4.1 n).1;obtain⟨cells,u,z⟩:=e.block;have s:=R.set (r:=q) (o':=⟨k,d,c,v+1⟩) (p:=c6 (j,h)) n e.os e.tape e.output e.size
  (λQ K D=>e.E9 Q K (λa=>D l (by rw[a];exact t))) (Nat.le_succ v) (λa=>absurd a (by show v+1≠v;omega))
  (λS C1 a=>by
   injection a with a
   injection a with e1 e2
   rcases e.place with⟨L,T⟩ |p
   .exact .inl ⟨l,by rw[<-e1,L];exact t⟩
   .exact .inr (by omega))
  B (λi a I=>J a (fe I))
  ⟨cells,u,z,e.room,x,λi A C E=>by
   obtain⟨F,G,M,N⟩:=O.2 i A C E;have:=e.holds _ _ G;rw[oe u] at this;exact⟨F,this,M,N⟩⟩
 refine⟨s.1,s.2,by simp,?_⟩
 rw[Gh.kg];exact⟨h,_,rfl,x,λ_=>by simp,λ_=>⟨rfl,rfl⟩⟩
def Nu{g:Gh}{i:List aO}{w:World}{q v:Nat}{a:aO}{h:Value}(f:VR g i w (.fl q v) h)(k:i[q]?=c6 a)(p:a.aF=v)(h0:0<a.es.length):
 ∃b e,g.β q=c6 (b,e)/\h= .slice (c6 ⟨b,0,c7⟩) a.es.length e:=by
 have n:SL g a q 0 a.es.length h:=by
  cases f with
  |aW f=>cases f
  |fl _ _ u _ c t m r=>
   rw[k] at c;injection c with c
   subst c;exact r p.symm
 obtain⟨m,d⟩:=n;cases j:g.β q with
 |none=>rw[j] at d;omega
 |some l=>
  obtain⟨b,e⟩:=l;rw[j] at d;obtain⟨cap,x,o,_,_,s⟩:=d;obtain⟨rfl,rfl⟩:=s rfl;exact⟨b,cap,rfl,o⟩
def aeQ{P:Program}{f:FuncId}{c a u:Nat}(V:No P f c a u)(z:0<a){g:Gh}{w:World}{w0 w1:Nat}{es:List PV}{e:PV}{i:Nat}(ac:i<es.length)
 (j:bF g [⟨c,a,es,w0⟩,⟨c,a,[e],w1⟩] w) (af:(es.length+1)*u<=140737488355328) (Z:(es.length+1)*a<=140737488355328) {C I:Value} (ab:VR g [⟨c,a,es,w0⟩,⟨c,a,[e],w1⟩] w (.fl 0 w0) C) (T:VR g [⟨c,a,es,w0⟩,⟨c,a,[e],w1⟩] w (.fl 1 w1) I):
 Calls P f #[C,.int .i64 i,I] w λF m=>∃v s,F= .returned v/\bF s [⟨c,a,es.take i++[e]++es.drop i,w0+1⟩,⟨c,a,[e],w1⟩] m/\GStep 2 g [⟨c,a,es,w0⟩,⟨c,a,[e],w1⟩] w s [⟨c,a,es.take i++[e]++es.drop i,w0+1⟩,⟨c,a,[e],w1⟩] m/\
  VR s [⟨c,a,es.take i++[e]++es.drop i,w0+1⟩,⟨c,a,[e],w1⟩] m (.fl 0 (w0+1)) v:=by
 have h0:([⟨c,a,es,w0⟩,⟨c,a,[e],w1⟩]:List aO)[0]?=c6 ⟨c,a,es,w0⟩:=rfl;have n:([⟨c,a,es,w0⟩,⟨c,a,[e],w1⟩]:List aO)[1]?=c6 ⟨c,a,[e],w1⟩:=rfl;obtain⟨b,G,q,rfl⟩:=Nu ab h0 rfl (by show 0<es.length;omega);obtain⟨U,S,J,rfl⟩:=Nu T n rfl (by show 0<[e].length;simp);obtain⟨cells,K,O,R,D,r,x⟩:=qT.row j h0 q;obtain⟨B,y,N,t,A,p,o⟩:=qT.row j n J;dsimp only at K O R D r x y N t A p o;rw[show[e].length*a=a by simp] at p o;have k:∀h,h∈es->h.cells.length=a:=λh d=>by
  obtain⟨ae,ag,rfl⟩:=List.getElem_of_mem d;exact(j.obj 0 _ h0).width ae _ (dk ag)
 have Q:e.cells.length=a:=(j.obj 1 _ n).width 0 _ rfl;refine(V w b es.length G i U S cells B (λaa=>absurd (j.inj 0 1 b G S q (by rw[aa];exact J)) (by decide)) K O y N (by simpa using A) ac D R t af Z x o).mono ?_
 rintro F m ⟨ai,X,rfl,L⟩;have E:gI g [⟨c,a,es,w0⟩,⟨c,a,[e],w1⟩] w a (es.take i++[e]++es.drop i) ((cells.toList.take (es.length*a)).take (i*a)++B.toList.take a++(cells.toList.take (es.length*a)).drop (i*a)):=by
  refine((r.take k i (by omega)).aX p (λh d=>k h (ie d))).aX (r.drop i) (λh d=>?_)
  rcases j9.1 d with d |d
  .exact k h (ie d)
  .rw[eH.1 d];exact Q
 have l:(es.take i++[e]++es.drop i).length=es.length+1:=by simp;omega
 have Y:es.length+1<=X:=by
  have:=L.fits;rw[E.1,l] at this;exact Nat.le_of_mul_le_mul_right this z
 have ad:∀h,h∈es.take i++[e]++es.drop i->h.cells.length=a:=λh d=>by
  rcases j9.1 d with d |d
  .rcases j9.1 d with d |d
   .exact k h (ie d)
   .rw[eH.1 d];exact Q
  .exact k h (ih d)
 obtain⟨W,ah,M⟩:=Xg j h0 q z L E ad (by rw[l];exact Y);refine⟨_,_,rfl,ah,W,.fl 0 (w0+1) ⟨c,a,es.take i++[e]++es.drop i,w0+1⟩ _ rfl (dv _) rfl λ_=>?_⟩
 rw[l] at M;rw[l];exact M
end Go.Bml
namespace Go.X.T
open Go Go.Aml Go.Bml Go.RowKit Go.Proofs
section
open Go.RowKit
def ai7(w:World)(b n C i vb vC:Nat)(cells vcells:Array Value)(hne:b≠vb)(h1:w.heap[b]?=c6 (.cells cells 75 (0,0)))(h2:cells.size=C*9)(h3:w.heap[vb]?=c6 (.cells vcells 75 (0,0)))(h4:vcells.size=vC*9)(hv1:1<=vC)(hi:i<n)(hC:C<=maxLen)
 (hroom:n+1<=C) (c1:∀u∈cells.toList.take (n*9),u.oneCell'=true) (c2:∀u∈vcells.toList.take 9,u.oneCell'=true):
 Calls dd 244 #[.slice (c6 ⟨b,0,c7⟩) n C,.int .i64 i,.slice (c6 ⟨vb,0,c7⟩) 1 vC] w λe w'=>e= .returned (.slice (c6 ⟨b,0,c7⟩) (n+1) C)/\
  w'=(w.drew.setCells b (((i+1)*9)) ((cells.toList.take (n*9)).drop ((i*9)))).setCells b ((i*9)) (vcells.toList.take 9):=by
 have hC63:C<=9223372036854775807:=hC;obtain⟨cs,hcs⟩:∃cs,cs=cells.toList.take (n*9):=⟨_,rfl⟩;obtain⟨vs,hvs⟩:∃vs,vs=vcells.toList.take 9:=⟨_,rfl⟩;have hcl:cs.length=n*9:=by rw[hcs,dt,e0,h2];omega
 have hvl:vs.length=9:=by rw[hvs,dt,e0,h4];omega
 have eZ:∀j v,cs[j]?=c6 v->w.cell? ⟨b,j,c7⟩=c6 v:=λj v hj=>by
  rw[oe h1, <-eE];rw[hcs,gv] at hj
  split at hj
  .exact hj
  .cases hj
 have hrv:∀j v,vs[j]?=c6 v->w.cell? ⟨vb,j,c7⟩=c6 v:=λj v hj=>by
  rw[oe h3, <-eE];rw[hvs,gv] at hj
  split at hj
  .exact hj
  .cases hj
 have hsp:∀j,j<(n+1)*9->(w.cell? ⟨b,j,c7⟩).isSome=true:=λj hj=>by
  rw[oe h1,h9 (by omega)];rfl
 have hfz:∀j,w.frozen? ⟨b,j,c7⟩=false:=λj=>FM h1
 rw[<-hcs] at c1⊢;rw[<-hvs] at c2⊢;have hz2:¬((i:Int)=(n:Int)):=by omega
 have hov:∀lb cb,(callFunc 297 #[.slice (c6 ⟨vb,0,c7⟩) 1 vC,.slice (c6 ⟨b,(i+1)*9,c7⟩) lb cb]).run dd w= .ok (.value (.bool false)) w:=λlb cb=>by
  rw[run_callFunc_extern Tryz.func297 (by kernel_rfl) (by kernel_rfl) (by kernel_rfl) (e:=r0 #[53,53] #[4]) (by kernel_rfl),
   Lib.run_overlaps_apart w 53 4 75 hB 9 Tryz.sizeOf75 ⟨vb,0,c7⟩ ⟨b,(i+1)*9,c7⟩ 1 vC lb cb (λh=>hne h.symm) 75 75 _ _ (ON h3) (ON h1) (by omega) (FM h3) (FM h3)]
  rfl
 have hdl:(cs.drop ((i*9))).length=(n -i)*9:=by rw[e5,hcl];omega
 have mixed:dd.follows .mixedOrders=true:=by kernel_rfl
 have hw1:c3 c4 ((i:Int)+1)=(i:Int)+1:=by rw[h8];omega
 have hw2:c3 c4 ((n:Int)+1)=(n:Int)+1:=by rw[h8];omega
 have hb1:(0:Int)<=(i:Int)+1:=by omega
 have hin:i<=n:=by omega
 have htn:((i:Int)+1).toNat=i+1:=by omega
 have htn2:((n:Int)+1).toNat=n+1:=by omega
 have hb2:¬(C=i+1):=by omega
 have hb3:(i:Int)<=(n:Int)+1:=by omega
 have hb4:¬(C=i):=by omega
 have hb5:¬((C:Int)<(n:Int)+1):=by omega
 have hcp1:∀ty dc sc,(h7 #[53,53] ty #[.slice (c6 ⟨b,(i+1)*9,c7⟩) (n -i) dc,.slice (c6 ⟨b,i*9,c7⟩) (n+1 -i) sc]).run dd w.drew= .ok (goInt (n -i:Nat)) (w.drew.setCells b (((i+1)*9)) (cs.drop ((i*9)))):=λty dc sc=>
  Ee w.drew _ _ ty 75 9 b (((i+1)*9)) (n -i) dc ⟨b,i*9,c7⟩ (n+1 -i) sc (n -i) (cs.drop ((i*9))) hB rfl (by simp only[o2];split <;> omega) hdl
   (λj v hj=>by rw[l2];exact eZ ((i*9)+j) v (by rwa [hP] at hj))
   (λj hj=>hsp _ (by rw[hdl] at hj;omega)) (λj hj=>hfz _) (λv hv=>c1 v (ih hv))
 obtain⟨W1,hW1⟩:∃W1,W1=w.drew.setCells b (((i+1)*9)) (cs.drop ((i*9))):=⟨_,rfl⟩;have hsp1:∀k,k<(n+1)*9->(W1.cell? ⟨b,k,c7⟩).isSome=true:=λk hk=>by
  rw[hW1];exact MW b (cs.drop ((i*9))) (((i+1)*9)) w.drew (λj hj=>hsp _ (by rw[hdl] at hj;omega)) k (hsp k hk)
 have hcp2:∀(W:World),(∀x,W.cell? x=W1.cell? x)->(∀x,W.frozen? x=W1.frozen? x)->∀ty dc,(h7 #[53,53] ty #[.slice (c6 ⟨b,i*9,c7⟩) (n+1 -i) dc,.slice (c6 ⟨vb,0,c7⟩) 1 vC]).run dd W= .ok (goInt (1:Nat)) (W.setCells b ((i*9)) vs):=λW hWc hWf ty dc=>
  Ee W _ _ ty 75 9 b ((i*9)) (n+1 -i) dc ⟨vb,0,c7⟩ 1 vC 1 vs hB rfl (by simp only[o2];split <;> omega) (by rw[hvl])
   (λj v hj=>by
    rw[l2,hWc,hW1,gy b _ _ _ _ (λh _=>absurd h.symm hne),j3];exact hrv j v hj)
   (λj hj=>by rw[hWc];exact hsp1 _ (by omega)) (λj hj=>by rw[hWf,hW1,mx];exact hfz _) c2
 rw[<-hW1] at hcp1;clear hcs hvs
 go_enter q2,wa
 go_wp2_with (simp only[hov])
 go_region_law (refine Mz rfl _ _ 53 53 rfl _ _ (by simp[q3,x5]) (by simp[q3,x5]) (hcp1 _ _ _) ?_)
 go_wp2_with (at_builtin;refine Kj _ rfl _ _ 53 53 rfl _ _ rfl rfl (hcp2 _ (λ_=>rfl) (λ_=>rfl) _ _) ?_)
 go_ret
 first |exact⟨rfl,rfl⟩ |exact⟨rfl,by rw[hW1]⟩
def ac5:(dd.info? 75).map (λi=>(i.zero,i.size,i.bytes))=c6 (c6 (ga #[.int .i64 0,.int .i64 0,.int .i64 0,.int .i64 0,.int .i64 0,.bool false,.bool false,.int .i64 0,.int .i64 0]),9,64):=by kernel_rfl
def ah2(w:World)(b n C i vb vC:Nat)(cells vcells:Array Value)(h1:w.heap[b]?=c6 (.cells cells 75 (0,0)))(h2:cells.size=C*9)(h3:w.heap[vb]?=c6 (.cells vcells 75 (0,0)))(h4:vcells.size=vC*9)(hv1:1<=vC)(hi:i<n)(hC:C<=maxLen)
 (hnc:n<=C) (hroom:C<n+1) (hbig:(n+1)*64<=140737488355328) (c1:∀u∈cells.toList.take (n*9),u.oneCell'=true) (c2:∀u∈vcells.toList.take 9,u.oneCell'=true):
 Calls dd 244 #[.slice (c6 ⟨b,0,c7⟩) n C,.int .i64 i,.slice (c6 ⟨vb,0,c7⟩) 1 vC] w λe w'=>e= .returned (.slice (c6 ⟨w.heap.size,0,c7⟩) (n+1) (grownCap w (n+1) C 75))/\
  w'=(((w.alloc (.cells (((cells.toList.take (n*9)).take (i*9)).toArray++dT ((ga #[.int .i64 0,.int .i64 0,.int .i64 0,.int .i64 0,.int .i64 0,.bool false,.bool false,.int .i64 0,.int .i64 0]):Value).cells (n+1 -i)++dT ((ga #[.int .i64 0,.int .i64 0,.int .i64 0,.int .i64 0,.int .i64 0,.bool false,.bool false,.int .i64 0,.int .i64 0]):Value).cells (grownCap w (n+1) C 75 - (n+1))) 75)).drew.setCells w.heap.size (i*9) (vcells.toList.take 9)).drew).setCells w.heap.size ((i+1)*9) ((cells.toList.take (n*9)).drop (i*9)):=by
 have hC63:C<=9223372036854775807:=hC;obtain⟨cs,hcs⟩:∃cs,cs=cells.toList.take (n*9):=⟨_,rfl⟩;obtain⟨vs,hvs⟩:∃vs,vs=vcells.toList.take 9:=⟨_,rfl⟩;have hcl:cs.length=n*9:=by rw[hcs,dt,e0,h2];omega
 have hvl:vs.length=9:=by rw[hvs,dt,e0,h4];omega
 have eZ:∀j v,cs[j]?=c6 v->w.cell? ⟨b,j,c7⟩=c6 v:=λj v hj=>by
  rw[oe h1, <-eE];rw[hcs,gv] at hj
  split at hj
  .exact hj
  .cases hj
 have hrv:∀j v,vs[j]?=c6 v->w.cell? ⟨vb,j,c7⟩=c6 v:=λj v hj=>by
  rw[oe h3, <-eE];rw[hvs,gv] at hj
  split at hj
  .exact hj
  .cases hj
 rw[<-hcs] at c1⊢;rw[<-hvs] at c2⊢;obtain⟨i0,hi0,hz0,hzs,hzb⟩:=info_parts ac5;have hz2:¬((i:Int)=(n:Int)):=by omega
 have hz3:(C:Int)<(n:Int)+1:=by omega
 have hbw:b<w.heap.size:=nN h1;have hvw:vb<w.heap.size:=nN h3;have hkk:(n:Int)+1 - (i:Int)=((n+1 -i:Nat):Int):=by omega
 have hik:i+(n+1 -i)=n+1:=by omega
 have hold:(p6 i0.size i (.slice (c6 ⟨b,0,c7⟩) i C)).run dd w.drew= .ok (cs.take (i*9)).toArray w.drew:=by
  rw[hzs];exact run_firstCells_some w.drew 9 i ⟨b,0,c7⟩ i C (cs.take (i*9)) (by rw[dt];omega) (λj v hj=>by
   rw[l2,j3];rw[gv] at hj
   split at hj
   .exact eZ j v hj
   .cases hj)
 have hrz:∀ty,(s8 #[53,3] ty #[.slice (c6 ⟨b,0,c7⟩) i C,.int .i64 ((n:Int)+1 - (i:Int))]).run dd w=
  .ok (.slice (c6 ⟨w.heap.size,0,c7⟩) (n+1) (grownCap w (n+1) C 75)) (w.drew.alloc (.cells ((cs.take (i*9)).toArray++dT ((ga #[.int .i64 0,.int .i64 0,.int .i64 0,.int .i64 0,.int .i64 0,.bool false,.bool false,.int .i64 0,.int .i64 0]):Value).cells (n+1 -i)++dT ((ga #[.int .i64 0,.int .i64 0,.int .i64 0,.int .i64 0,.int .i64 0,.bool false,.bool false,.int .i64 0,.int .i64 0]):Value).cells (grownCap w (n+1) C 75 - (n+1))) 75)):=λty=>by
  have h:=Lib.run_append_grow_zeros w 53 3 ty 75 i0 _ .i64 .i64 hB qq hi0 hz0 (c6 ⟨b,0,c7⟩) i C (cs.take (i*9)) hold (n+1 -i) (by omega) (by omega) (by omega) (by omega) (by rw[hzb];omega) (by rw[hzb,hik];exact growslice_fits hroom hbig);rw[hik] at h;rw[hkk];exact h
 obtain⟨G,hG⟩:∃G,G=grownCap w (n+1) C 75:=⟨_,rfl⟩;obtain⟨ROW,hROW⟩:∃ROW:Array Value,ROW=(cs.take (i*9)).toArray++dT ((ga #[.int .i64 0,.int .i64 0,.int .i64 0,.int .i64 0,.int .i64 0,.bool false,.bool false,.int .i64 0,.int .i64 0]):Value).cells (n+1 -i)++dT ((ga #[.int .i64 0,.int .i64 0,.int .i64 0,.int .i64 0,.int .i64 0,.bool false,.bool false,.int .i64 0,.int .i64 0]):Value).cells (G - (n+1)):=⟨_,rfl⟩;rw[<-hG] at hrz⊢;rw[<-hROW] at hrz⊢;have hzc:((ga #[.int .i64 0,.int .i64 0,.int .i64 0,.int .i64 0,.int .i64 0,.bool false,.bool false,.int .i64 0,.int .i64 0]):Value).cells.size=9:=by decide
 have hRl:(n+1)*9<=ROW.size:=by
  rw[hROW];simp only[k6,size_zeroCells,hzc,k7,dt,hcl];omega
 obtain⟨W1,hW1⟩:∃W1,W1=w.drew.alloc (.cells ROW 75):=⟨_,rfl⟩;rw[<-hW1] at hrz;have hN:∀j,j<(n+1)*9->(W1.cell? ⟨w.heap.size,j,c7⟩).isSome=true:=λj hj=>by
  rw[hW1,World.cell?_alloc_at (w:=w.drew) ROW _ w.heap.size j rfl,h9 (by omega)];rfl
 have hNf:∀j,W1.frozen? ⟨w.heap.size,j,c7⟩=false:=λj=>by rw[hW1];exact World.frozen?_alloc_at (w:=w.drew) ROW _ w.heap.size j rfl
 have hOb:∀j v,w.cell? ⟨b,j,c7⟩=c6 v->W1.cell? ⟨b,j,c7⟩=c6 v:=λj v h=>by rw[hW1,my (w:=w.drew) _ b j hbw];exact h
 have hOv:∀j v,w.cell? ⟨vb,j,c7⟩=c6 v->W1.cell? ⟨vb,j,c7⟩=c6 v:=λj v h=>by rw[hW1,my (w:=w.drew) _ vb j hvw];exact h
 have hcpA:∀(W:World),(∀x,W.cell? x=W1.cell? x)->(∀x,W.frozen? x=W1.frozen? x)->∀ty dc,(h7 #[53,53] ty #[.slice (c6 ⟨w.heap.size,i*9,c7⟩) (n+1 -i) dc,.slice (c6 ⟨vb,0,c7⟩) 1 vC]).run dd W= .ok (goInt (1:Nat)) (W.setCells w.heap.size (i*9) vs):=λW hWc hWf ty dc=>
  Ee W _ _ ty 75 9 w.heap.size (i*9) (n+1 -i) dc ⟨vb,0,c7⟩ 1 vC 1 vs hB rfl (by simp only[o2];split <;> omega) (by rw[hvl])
   (λj v hj=>by rw[l2,hWc,j3];exact hOv _ v (hrv j v hj))
   (λj hj=>by rw[hWc];exact hN _ (by omega)) (λj hj=>by rw[hWf];exact hNf _) c2
 have hGn:n+1<=G:=by rw[hG];exact grownCap_ge w _ _ _
 have hG63:G<=9223372036854775807:=by
  have:=grownCap_le_maxLen w (n+1) C 75 (by unfold maxLen;omega);rw[<-hG] at this;unfold maxLen at this;omega
 have hGi:¬(G=i):=by omega
 have hGim:¬(G=i+1):=by omega
 have hci:¬(C=i):=by omega
 have hbN:b≠w.heap.size:=by omega
 have hdl:(cs.drop (i*9)).length=(n -i)*9:=by rw[e5,hcl];omega
 have hcpB:∀(W:World),(∀x,W.cell? x=(W1.setCells w.heap.size (i*9) vs).cell? x)->(∀x,W.frozen? x=(W1.setCells w.heap.size (i*9) vs).frozen? x)->∀ty dc sc,(h7 #[53,53] ty #[.slice (c6 ⟨w.heap.size,(i+1)*9,c7⟩) (n -i) dc,.slice (c6 ⟨b,i*9,c7⟩) (n -i) sc]).run dd W= .ok (goInt (n -i:Nat)) (W.setCells w.heap.size ((i+1)*9) (cs.drop (i*9))):=λW hWc hWf ty dc sc=>
  Ee W _ _ ty 75 9 w.heap.size ((i+1)*9) (n -i) dc ⟨b,i*9,c7⟩ (n -i) sc (n -i) (cs.drop (i*9)) hB rfl (by simp only[o2];split <;> omega) hdl
   (λj v hj=>by
    rw[l2,hWc,gy _ _ _ _ _ (λh _=>absurd h hbN)];exact hOb _ v (eZ ((i*9)+j) v (by rwa [hP] at hj)))
   (λj hj=>by rw[hWc];exact MW w.heap.size vs (i*9) W1 (λt ht=>hN _ (by omega)) _ (hN _ (by rw[hdl] at hj;omega)))
   (λj hj=>by rw[hWf,mx];exact hNf _) (λv hv=>c1 v (ih hv))
 subst hW1;have hE1:∀x,((w.alloc (.cells ROW 75)).drew).cell? x=(w.drew.alloc (.cells ROW 75)).cell? x:=λx=>rfl
 have hE2:∀x,((w.alloc (.cells ROW 75)).drew).frozen? x=(w.drew.alloc (.cells ROW 75)).frozen? x:=λx=>rfl
 have hF1:∀x,(((w.alloc (.cells ROW 75)).drew.setCells w.heap.size (i*9) vs).drew).cell? x=((w.drew.alloc (.cells ROW 75)).setCells w.heap.size (i*9) vs).cell? x:=λx=>rfl
 have hF2:∀x,(((w.alloc (.cells ROW 75)).drew.setCells w.heap.size (i*9) vs).drew).frozen? x=((w.drew.alloc (.cells ROW 75)).setCells w.heap.size (i*9) vs).frozen? x:=λx=>rfl
 have mixed:dd.follows .mixedOrders=true:=by kernel_rfl
 have hw1:c3 c4 ((i:Int)+1)=(i:Int)+1:=by rw[h8];omega
 have hw2:c3 c4 ((n:Int)+1)=(n:Int)+1:=by rw[h8];omega
 have hw3:c3 c4 ((n:Int)+1 - (i:Int))=(n:Int)+1 - (i:Int):=by rw[h8];omega
 have hb1:(0:Int)<=(i:Int)+1:=by omega
 have hin:i<=n:=by omega
 have htn:((i:Int)+1).toNat=i+1:=by omega
 have hb3:(i:Int)<=(n:Int):=by omega
 clear hkk hik hold hROW hG hRl hcs hvs
 go_enter q2,wa
 go_wp2_with (first
  |(at_builtin;refine n2 _ rfl _ _ _ _ rfl _ _ rfl rfl _ _ (hrz _) ?_)
  |(at_builtin;refine Kj _ rfl _ _ 53 53 rfl _ _ rfl rfl (hcpA _ hE1 hE2 _ _) ?_)
  |(at_builtin;refine Kj _ rfl _ _ 53 53 rfl _ _ rfl rfl (hcpB _ (λ_=>rfl) (λ_=>rfl) _ _ _) ?_))
 go_region_law (refine Mz rfl _ _ 53 53 rfl (.slice (c6 ⟨w.heap.size,(i+1)*9,c7⟩) (n -i) (G - (i+1))) (.slice (c6 ⟨b,i*9,c7⟩) (n -i) (C -i)) (by simp[q3,x5]) (by simp[q3,x5]) (hcpB _ hF1 hF2 3 (G - (i+1)) (C -i)) ?_)
 go_wp2
 go_ret
 exact⟨rfl,rfl⟩
def aot:No dd 244 75 9 64:=by
 intro w b a C i q B cells d G l h v n s u F j O I P x y;have Q:(cells.toList.take (a*9)).length=a*9:=by rw[dt,e0,h];omega
 have r:(d.toList.take 9).length=9:=by rw[dt,e0,n];omega
 by_cases L:a+1<=C
 .refine(ai7 w b a C i q B cells d G l h v n s u j L x y).mono ?_
  rintro J M ⟨rfl,rfl⟩;refine⟨b,C,rfl,?_⟩
  have g:=(Xa (m:=a*9) l h j (by omega)).drew;have k:=g.set (o:=i*9+9) (vs:=(cells.toList.take (a*9)).drop (i*9)) (by omega) (by rw[e5];omega) (by simp only[ea,dt,e5,e0];omega);have c:=k.set (o:=i*9) (vs:=d.toList.take 9) (by simp only[ea,dt,e5,e0];omega) (by omega) (by simp only[ea,dt,e5,e0];omega);rw[ac9 (by omega) r] at c;have e:((i+1)*9)=i*9+9:=by omega
  have p:(i*9)=i*9:=by omega
  first
   |(rw[e,p];exact c)
   |(rw[e];exact c)
   |simpa only[rb] using c
 .refine(ah2 w b a C i q B cells d l h v n s u j F (by omega) I x y).mono ?_
  rintro J M ⟨rfl,rfl⟩;refine⟨_,_,rfl,?_⟩
  have D:=grownCap_ge w (a+1) C 75;have A:=grownCap_le_maxLen w (a+1) C 75 (by unfold maxLen;omega);generalize grownCap w (a+1) C 75=f at D A⊢;have K:((ga #[.int .i64 0,.int .i64 0,.int .i64 0,.int .i64 0,.int .i64 0,.bool false,.bool false,.int .i64 0,.int .i64 0]):Value).cells.size=9:=by decide
  have z:((((cells.toList.take (a*9)).take (i*9)).toArray++dT ((ga #[.int .i64 0,.int .i64 0,.int .i64 0,.int .i64 0,.int .i64 0,.bool false,.bool false,.int .i64 0,.int .i64 0]):Value).cells (a+1 -i)++dT ((ga #[.int .i64 0,.int .i64 0,.int .i64 0,.int .i64 0,.int .i64 0,.bool false,.bool false,.int .i64 0,.int .i64 0]):Value).cells (f - (a+1)))).size=f*9:=by
   simp only[k6,size_zeroCells,K,k7,dt,e0];omega
  have g:=(ak9 (w:=w) (b:=b) (C:=C) (m:=(a+1)*9) (E:=75) z A (by omega)).drew;have H:(((((cells.toList.take (a*9)).take (i*9)).toArray++dT ((ga #[.int .i64 0,.int .i64 0,.int .i64 0,.int .i64 0,.int .i64 0,.bool false,.bool false,.int .i64 0,.int .i64 0]):Value).cells (a+1 -i)++dT ((ga #[.int .i64 0,.int .i64 0,.int .i64 0,.int .i64 0,.int .i64 0,.bool false,.bool false,.int .i64 0,.int .i64 0]):Value).cells (f - (a+1)))).toList.take ((a+1)*9)).length=(a+1)*9:=by
   rw[dt,e0,z];omega
  have t:(((((cells.toList.take (a*9)).take (i*9)).toArray++dT ((ga #[.int .i64 0,.int .i64 0,.int .i64 0,.int .i64 0,.int .i64 0,.bool false,.bool false,.int .i64 0,.int .i64 0]):Value).cells (a+1 -i)++dT ((ga #[.int .i64 0,.int .i64 0,.int .i64 0,.int .i64 0,.int .i64 0,.bool false,.bool false,.int .i64 0,.int .i64 0]):Value).cells (f - (a+1)))).toList.take ((a+1)*9)).take (i*9)=(cells.toList.take (a*9)).take (i*9):=by
   rw[tj,j8 (by omega)];simp only[Array.toList_append,l3];exact sa (by rw[dt];omega)
  generalize (((((cells.toList.take (a*9)).take (i*9)).toArray++dT ((ga #[.int .i64 0,.int .i64 0,.int .i64 0,.int .i64 0,.int .i64 0,.bool false,.bool false,.int .i64 0,.int .i64 0]):Value).cells (a+1 -i)++dT ((ga #[.int .i64 0,.int .i64 0,.int .i64 0,.int .i64 0,.int .i64 0,.bool false,.bool false,.int .i64 0,.int .i64 0]):Value).cells (f - (a+1)))).toList.take ((a+1)*9))=N at g H t;have k:=(g.set (o:=(i*9)) (vs:=d.toList.take 9) (by omega) (by omega) (by simp only[ea,dt,e5];omega)).drew;have c:=k.set (o:=(i*9)+9) (vs:=(cells.toList.take (a*9)).drop (i*9)) (by simp only[ea,dt,e5,e0];omega) (by rw[e5];omega) (by simp only[ea,dt,e5,e0];omega);rw[anz (by omega) r (by omega) t] at c;have e:((i+1)*9)=(i*9)+9:=by omega
  have p:i*9=(i*9):=by omega
  first
   |(rw[e,p];exact c)
   |(rw[e];exact c)
   |simpa only[rb] using c
end
end Go.X.T
namespace Go.X.T
open Go Go.Aml Go.Bml Go.X Go.RowKit Go.Proofs
def FI(e:Nat){b:Type}(a d:List b)(c:Int):Option (List b):=
 (eG a c (a.length:Int)).bind λ_=>bif c5 ((d.length:Int)=0) then c6 a else bif c5 (c=(a.length:Int)) then(bj e a d).bind λr=>c6 r else c7
def AU(b:Lp):aq BT:=⟨244,3,0,(wW b).par,(wW b).az,λa=>FI 64 a.1 a.2.1 a.2.2⟩
def Yp(a:Lp)(b:bi BT.D (AU a).par.bX):gl a BT dd [] (AU a) [.tmp 6] ((Tryz.f244.body).getD .skip) [] b=(AU a).F b:=by kernel_rfl
def OA(a:Lp):FT (AU a):=FA (hs:=[]) mixed dM f0 q2 rfl rfl rfl rfl (by kernel_rfl) rfl rfl (Yp a)
def aix{d:Type}{e:Nat}{l:List d}{i:Int}{xs y:List d}(a:B2 e l i xs=c6 y):∃(b:d) (c:Nat),xs=[b]/\i=(c:Int)/\c<=l.length/\(l.length+1)*e<=140737488355328/\y=l.take c++[b]++l.drop c:=by
 unfold B2 at a
 split at a
 .rename_i f;obtain⟨m,k,g⟩:=f;obtain⟨r,h,a⟩:=m1.1 a;injection a with a
  obtain⟨j,_⟩:=AN h
  match xs,g with
  |[b],_=>exact⟨b,i.toNat,rfl,by omega,by omega,by simpa using j,a.symm⟩
 .cases a
def afY{c e:Type}(f:c->e)(a:List c)(d:c)(b:Nat):(a.map f).take b++[f d]++(a.map f).drop b=(a.take b++[d]++a.drop b).map f:=by simp[List.map_take,List.map_drop]
def adX{b:Type}(a:List b)(c:b):a.take a.length++[c]++a.drop a.length=z6 a [c]:=by simp
def aiO{d:Type}{c:Nat}{a:List d}{b:d}(g:(a.length+1)*c<=140737488355328):FI c a [b] (a.length:Int)=c6 (a++[b]):=by
 unfold FI;have e:eG a (a.length:Int) (a.length:Int)=c6 []:=by
  unfold eG;simp
 have f:bj c a [b]=c6 (a++[b]):=by
  unfold bj;simp[g]
 rw[e];simp[f]
def ail(c:Lp):FT (wW c):=by
 refine⟨(OA c).Q6,λf y r g w vs x n d=>?_⟩
 obtain⟨e,b,q,t,m,j,u⟩:=aix (l:=f.1) (xs:=f.2.1) (i:=f.2.2) (y:=y) r;obtain⟨a,T,S⟩:=f;dsimp only at q t m j u r;subst q t u
 by_cases J:b<o3 a
 .have A:cz BT (wW c).par (a,[e],(b:Int))=⟨[(0,.fl 0 0),(1,.int .i64 (b:Int)),(2,.fl 1 0)],[⟨0,0,.aap 75 a⟩,⟨0,0,.aap 75 [e]⟩]⟩:=rfl
  erw [A] at n d⊢
  match vs,x with
  |[O,C,R],_=>
  have D:C= .int .i64 (b:Int):=VR.fQ (g:=g) (w:=w) (d 1);subst D;have k:(o4 (BT.ty 75).enc a).length=o3 a:=hq _;have K:=aeQ aot (by decide) (g:=g) (w:=w) (w0:=0) (w1:=0) (es:=o4 (BT.ty 75).enc a) (e:=(BT.ty 75).enc e) (i:=b) (Nat.lt_of_lt_of_eq J k.symm) n (q4 (x6 (congrArg (λz=>(z+1)*64) k)) j) (q4 (x6 (congrArg (λz=>(z+1)*_) k)) (by omega)) (d 0) (d 2);refine K.mono ?_
  rintro P N ⟨v,L,rfl,s,p,o⟩;have B:(o4 (BT.ty 75).enc a).take b++[(BT.ty 75).enc e]++(o4 (BT.ty 75).enc a).drop b=o4 (BT.ty 75).enc (x0 b a++[e]++x1 b a):=afY _ a e b;rw[B] at s p o;have F:take BT 0 (wW c).az ⟨[(0,.fl 0 1)],[⟨1,1,.aap 75 (x0 b a++[e]++x1 b a)⟩,⟨0,0,.aap 75 [e]⟩]⟩ c6=c6 (x0 b a++[e]++x1 b a):=rfl;obtain⟨Q,h,H,G,I,E⟩:=EK dM F (g:=L) (w:=N) s;injection h with h
  subst h;exact⟨v,H,rfl,G,(p.less (ei _)).trans I,E 0 v o⟩
 .have m:b=o3 a:=by omega
  subst m;have M:=adX a e
  erw [M]
  exact(OA c).calls (a,[e],(o3 a:Int)) (z6 a [e]) (aiO j) g w vs x n d
def QD0:bY:=⟨[(0,[4],.aap 3 22),(0,[6],.aap 3 22),(0,[7],.aap 3 22)],[(0,.g [.v 27,.v 28,.v 3,.v 31,.r 0,.v 32,.r 1,.r 2,.ns])]⟩
def YL:bY:=⟨[(0,[4],.aap 3 22),(0,[6],.aap 3 22),(0,[7],.aap 3 22),(0,[8],.refs 22 [4]),(0,[8,0],.aap 3 22)],[(0,.g [.v 27,.v 28,.v 3,.v 31,.r 0,.v 32,.r 1,.r 2,.r 3])]⟩
def V1:bY:=⟨[(0,[4],.aap 3 22),(0,[6],.aap 3 22),(0,[7],.aap 3 22),(0,[8],.refs 22 [4,5]),(0,[8,0],.aap 3 22),(0,[8,1],.aap 3 22)],[(0,.g [.v 27,.v 28,.v 3,.v 31,.r 0,.v 32,.r 1,.r 2,.r 3])]⟩
def QD3:bY:=⟨[(0,[4],.aap 3 22),(0,[6],.aap 3 22),(0,[7],.aap 3 22),(0,[8],.refs 22 [4,5,6]),(0,[8,0],.aap 3 22),(0,[8,1],.aap 3 22),(0,[8,2],.aap 3 22)],[(0,.g [.v 27,.v 28,.v 3,.v 31,.r 0,.v 32,.r 1,.r 2,.r 3])]⟩
def pW(a:Lp):aq BT:=⟨143,1,0,⟨[],[(0,.v 35)]⟩,QD0,λb=>we a b⟩
def tR(a:Lp):aq BT:=⟨143,1,0,⟨[],[(0,.v 35)]⟩,YL,λb=>uR a b⟩
def qd(a:Lp):aq BT:=⟨143,1,0,⟨[],[(0,.v 35)]⟩,V1,λb=>pO a b⟩
def nX(a:Lp):aq BT:=⟨143,1,0,⟨[],[(0,.v 35)]⟩,QD3,λb=>nM a b⟩
def HD:List (Nat×Hn):=[(506,⟨[],[(2,⟨[(2,true,.box 35 [.v 27,.v 28,.v 3,.v 31,.r 3,.v 32,.v 22,.v 22,.v 33])],[],[]⟩)],c6 ⟨[(2,true,.box 35 [.v 27,.v 28,.v 3,.v 31,.r 3,.r 4,.v 22,.v 22,.v 33])],[(100002,[5],.aap 120 32)],[(31,.v 3)]⟩⟩),(64818,⟨[2],[],c7⟩),(64819,⟨[3],[],c7⟩),(4090,⟨[4],[],c7⟩)]
def GD(a:Lp):List (aq BT):=[RL a,Mq a,Pv a,OB a,PI a]
def gd(a:Lp):∀b,b∈GD a->FT b:=fc (oh a) (fc (sP a) (fc (Md a) (fc (oH a) (fc (iY a) f0))))
def RD0(a:Lp)(e:ak)(c:Int)(p:List bC)(b:List Int)(d:List aS)(g f:List Int):gl a BT dd (GD a) (pW a) [.cell 2 35] ((r3.body).getD .skip) HD (aB.mk e c p b d g f [])=we a (aB.mk e c p b d g f []):=by kernel_rfl
def Vm(a:Lp)(f:ak)(c:Int)(p:List bC)(b:List Int)(d:List aS)(h g e:List Int):gl a BT dd (GD a) (tR a) [.cell 2 35] ((r3.body).getD .skip) HD (aB.mk f c p b d h g [e])=uR a (aB.mk f c p b d h g [e]):=by kernel_rfl
def RD2(a:Lp)(g:ak)(c:Int)(p:List bC)(b:List Int)(e:List aS)(i h f d:List Int):gl a BT dd (GD a) (qd a) [.cell 2 35] ((r3.body).getD .skip) HD (aB.mk g c p b e i h [f,d])=pO a (aB.mk g c p b e i h [f,d]):=by kernel_rfl
def YZ(a:Lp)(h:ak)(c:Int)(p:List bC)(b:List Int)(e:List aS)(j i g d f:List Int):gl a BT dd (GD a) (nX a) [.cell 2 35] ((r3.body).getD .skip) HD (aB.mk h c p b e j i [g,d,f])=nM a (aB.mk h c p b e j i [g,d,f]):=by kernel_rfl
def HC(b:Lp):FT (pW b):=EB mixed dM (gd b) (hs:=HD) (rs:=[.cell 2 35]) j4 rfl rfl rfl rfl (by kernel_rfl) rfl rfl λh k a=>by
 obtain⟨i,d,p,c,f,j,e,g⟩:=h
 match g,a with
 |[],a=>exact(RD0 b i d p c f j e).trans a
 |_::_,a=>cases a
def SP(b:Lp):FT (tR b):=EB mixed dM (gd b) (hs:=HD) (rs:=[.cell 2 35]) j4 rfl rfl rfl rfl (by kernel_rfl) rfl rfl λh l a=>by
 obtain⟨j,d,p,c,f,k,e,g⟩:=h
 match g,a with
 |[i],a=>exact(Vm b j d p c f k e i).trans a
 |[],a=>cases a
 |_::_::_,a=>cases a
def GB(b:Lp):FT (qd b):=EB mixed dM (gd b) (hs:=HD) (rs:=[.cell 2 35]) j4 rfl rfl rfl rfl (by kernel_rfl) rfl rfl λi m a=>by
 obtain⟨k,d,p,c,f,l,g,h⟩:=i
 match h,a with
 |[j,e],a=>exact(RD2 b k d p c f l g j e).trans a
 |[],a=>cases a
 |[_],a=>cases a
 |_::_::_::_,a=>cases a
def EH(b:Lp):FT (nX b):=EB mixed dM (gd b) (hs:=HD) (rs:=[.cell 2 35]) j4 rfl rfl rfl rfl (by kernel_rfl) rfl rfl λj n a=>by
 obtain⟨l,d,p,c,f,m,h,i⟩:=j
 match i,a with
 |[k,e,g],a=>exact(YZ b l d p c f m h k e g).trans a
 |[],a=>cases a
 |[_],a=>cases a
 |[_,_],a=>cases a
 |_::_::_::_::_,a=>cases a
def HS:List (Nat×Hn):=[(506,⟨[4],[],c7⟩)]
def RS0(a:Lp)(f:ak)(c:Int)(p:List bC)(b:List Int)(d:List aS)(h g:List Int)(e i:Int):gl a BT dd [pW a,lT a] (mG a) [.cell 6 35,.tmp 7] ((m3.body).getD .skip) HS (aB.mk f c p b d h g [],e,i)=oX a (aB.mk f c p b d h g []) e i:=by kernel_rfl
def Yt(a:Lp)(g:ak)(c:Int)(p:List bC)(b:List Int)(d:List aS)(i h:List Int)(f:List Int)(e j:Int):gl a BT dd [tR a,lT a] (mG a) [.cell 6 35,.tmp 7] ((m3.body).getD .skip) HS (aB.mk g c p b d i h [f],e,j)=oX a (aB.mk g c p b d i h [f]) e j:=by kernel_rfl
def RS2(a:Lp)(h:ak)(c:Int)(p:List bC)(b:List Int)(e:List aS)(j i:List Int)(g d:List Int)(f k:Int):gl a BT dd [qd a,lT a] (mG a) [.cell 6 35,.tmp 7] ((m3.body).getD .skip) HS (aB.mk h c p b e j i [g,d],f,k)=oX a (aB.mk h c p b e j i [g,d]) f k:=by kernel_rfl
def RS3(a:Lp)(i:ak)(c:Int)(p:List bC)(b:List Int)(e:List aS)(k j:List Int)(h d f:List Int)(g l:Int):gl a BT dd [nX a,lT a] (mG a) [.cell 6 35,.tmp 7] ((m3.body).getD .skip) HS (aB.mk i c p b e k j [h,d,f],g,l)=oX a (aB.mk i c p b e k j [h,d,f]) g l:=by kernel_rfl
def RS4(a:Lp)(k:ak)(d:Int)(p:List bC)(b:List Int)(f:List aS)(m l:List Int)(j e g c:List Int)(h:List (List Int))(i n:Int):gl a BT dd [pW a,lT a] (mG a) [.cell 6 35,.tmp 7] ((m3.body).getD .skip) HS (aB.mk k d p b f m l (j::e::g::c::h),i,n)=oX a (aB.mk k d p b f m l (j::e::g::c::h)) i n:=by kernel_rfl
def KS(a:Lp)(i:FT (lT a)):FT (mG a):=by
 have u:∀(n:bi BT.D (mG a).par.bX) (q:bi BT.D (mG a).az.bX),(mG a).F n=c6 q->∃t:List (aq BT),(∀s,s∈t->FT s)/\gl a BT dd t (mG a) [.cell 6 35,.tmp 7] ((m3.body).getD .skip) HS n=c6 q:=by
  intro n q b;obtain⟨⟨m,l,p,e,h,d,f,o⟩,j,k⟩:=n
  match o,b with
  |[],b=>exact⟨[pW a,lT a],fc (HC a) (fc i f0),(RS0 a m l p e h d f j k).trans b⟩
  |[c],b=>exact⟨[tR a,lT a],fc (SP a) (fc i f0),(Yt a m l p e h d f c j k).trans b⟩
  |[c,g],b=>exact⟨[qd a,lT a],fc (GB a) (fc i f0),(RS2 a m l p e h d f c g j k).trans b⟩
  |[c,g,r],b=>exact⟨[nX a,lT a],fc (EH a) (fc i f0),(RS3 a m l p e h d f c g r j k).trans b⟩
  |c::g::r::v::o,b=>exact⟨[pW a,lT a],fc (HC a) (fc i f0),(RS4 a m l p e h d f c g r v o j k).trans b⟩
 exact aed mixed dM (hs:=HS) (rs:=[.cell 6 35,.tmp 7]) Tryz.func171 rfl rfl rfl rfl (by kernel_rfl) rfl rfl u
def qZ:List (Nat×Hn):=[(60,⟨[],[(0,⟨[],[],[(57,.v 4)]⟩)],c7⟩),(508,⟨[],[(0,⟨[],[],[(80,.v 4)]⟩)],c7⟩),(509,⟨[],[(0,⟨[],[],[(13,.v 3)]⟩)],c7⟩),(16771484,⟨[],[(0,⟨[],[],[(145,.v 4)]⟩)],c7⟩)]
def GL(a:Lp)(b:aq BT):List (aq BT):=[b,Kf a,C5 a,Fz a,AW a]
def M7:List (Nat×Hn):=qZ++[(16378,⟨[],[(3,⟨[(8,true,.box 101 [.v 3,.v 3,.v 3,.r 9])],[(100008,[3],.aap 3 22)],[]⟩)],c6 ⟨[(8,true,.box 101 [.v 3,.v 3,.v 3,.r 9])],[(100008,[3],.aap 3 22)],[(110,.v 3)]⟩⟩)]
def WN(a:Lp)(f:ak)(c:Int)(p:List bC)(b:List Int)(d:List aS)(h g:List Int)(i e:Int):gl a BT dd (GL a (pW a)) (nD a) [.cell 8 35,.cell 9 101,.tmp 10] ((kh.body).getD .skip) M7 (aB.mk f c p b d h g [],(0:Int),i,e)=jO a (aB.mk f c p b d h g []) 0 i e:=by kernel_rfl
def Od:List (Nat×Hn):=qZ++[(16378,⟨[],[(1,⟨[(1,true,.box 35 [.v 27,.v 28,.v 3,.v 31,.v 22,.v 32,.v 22,.v 22,.v 33]),(2,true,.box 101 [.v 3,.v 3,.v 3,.v 22]),(8,false,.dead),(10,false,.dead)],[],[(10,.v 67)]⟩),(3,⟨[(8,true,.aap 3 22),(10,true,.box 101 [.v 3,.v 3,.v 3,.r 11])],[(100010,[3],.aap 3 22)],[]⟩)],c6 ⟨[(8,true,.aap 3 22),(10,true,.box 101 [.v 3,.v 3,.v 3,.r 11])],[(100010,[3],.aap 3 22)],[(110,.v 3)]⟩⟩)]
def ahC(a:Lp)(g:ak)(c:Int)(p:List bC)(b:List Int)(d:List aS)(i h:List Int)(f:List Int)(j e:Int):gl a BT dd (GL a (tR a)) (nD a) [.cell 8 35,.cell 9 101,.tmp 10] ((kh.body).getD .skip) Od (aB.mk g c p b d i h [f],(0:Int),j,e)=jO a (aB.mk g c p b d i h [f]) 0 j e:=by kernel_rfl
def Po:List (Nat×Hn):=qZ++[(16378,⟨[],[(1,⟨[(1,true,.box 35 [.v 27,.v 28,.v 3,.v 31,.v 22,.v 32,.v 22,.v 22,.v 33]),(2,true,.box 101 [.v 3,.v 3,.v 3,.v 22]),(8,false,.dead),(11,false,.dead)],[],[(10,.v 67)]⟩),(3,⟨[(8,true,.aap 3 22),(11,true,.box 101 [.v 3,.v 3,.v 3,.r 12])],[(100011,[3],.aap 3 22)],[]⟩)],c6 ⟨[(8,true,.aap 3 22),(11,true,.box 101 [.v 3,.v 3,.v 3,.r 12])],[(100011,[3],.aap 3 22)],[(110,.v 3)]⟩⟩)]
def akd(a:Lp)(h:ak)(c:Int)(p:List bC)(b:List Int)(e:List aS)(j i:List Int)(g d:List Int)(k f:Int):gl a BT dd (GL a (qd a)) (nD a) [.cell 8 35,.cell 9 101,.tmp 10] ((kh.body).getD .skip) Po (aB.mk h c p b e j i [g,d],(0:Int),k,f)=jO a (aB.mk h c p b e j i [g,d]) 0 k f:=by kernel_rfl
def Qs:List (Nat×Hn):=qZ++[(16378,⟨[],[(1,⟨[(1,true,.box 35 [.v 27,.v 28,.v 3,.v 31,.v 22,.v 32,.v 22,.v 22,.v 33]),(2,true,.box 101 [.v 3,.v 3,.v 3,.v 22]),(9,false,.dead),(11,false,.dead)],[],[(10,.v 67)]⟩),(3,⟨[(9,true,.aap 3 22),(11,true,.box 101 [.v 3,.v 3,.v 3,.r 12])],[(100011,[3],.aap 3 22)],[]⟩)],c6 ⟨[(9,true,.aap 3 22),(11,true,.box 101 [.v 3,.v 3,.v 3,.r 12])],[(100011,[3],.aap 3 22)],[(110,.v 3)]⟩⟩)]
def am3(a:Lp)(h:ak)(c:Int)(p:List bC)(b:List Int)(e:List aS)(j i:List Int)(g d:List Int)(k f:Int):gl a BT dd (GL a (qd a)) (nD a) [.cell 8 35,.cell 9 101,.tmp 10] ((kh.body).getD .skip) Qs (aB.mk h c p b e j i [g,d],(1:Int),k,f)=jO a (aB.mk h c p b e j i [g,d]) 1 k f:=by kernel_rfl
def LP:List (Nat×Hn):=qZ++[(16378,⟨[],[(1,⟨[(1,true,.box 35 [.v 27,.v 28,.v 3,.v 31,.v 22,.v 32,.v 22,.v 22,.v 33]),(2,true,.box 101 [.v 3,.v 3,.v 3,.v 22]),(8,false,.dead),(12,false,.dead)],[],[(10,.v 67)]⟩),(3,⟨[(8,true,.aap 3 22),(12,true,.box 101 [.v 3,.v 3,.v 3,.r 13])],[(100012,[3],.aap 3 22)],[]⟩)],c6 ⟨[(8,true,.aap 3 22),(12,true,.box 101 [.v 3,.v 3,.v 3,.r 13])],[(100012,[3],.aap 3 22)],[(110,.v 3)]⟩⟩)]
def apY(a:Lp)(i:ak)(c:Int)(p:List bC)(b:List Int)(e:List aS)(k j:List Int)(h d f:List Int)(l g:Int):gl a BT dd (GL a (nX a)) (nD a) [.cell 8 35,.cell 9 101,.tmp 10] ((kh.body).getD .skip) LP (aB.mk i c p b e k j [h,d,f],(0:Int),l,g)=jO a (aB.mk i c p b e k j [h,d,f]) 0 l g:=by kernel_rfl
def MX:List (Nat×Hn):=qZ++[(16378,⟨[],[(1,⟨[(1,true,.box 35 [.v 27,.v 28,.v 3,.v 31,.v 22,.v 32,.v 22,.v 22,.v 33]),(2,true,.box 101 [.v 3,.v 3,.v 3,.v 22]),(9,false,.dead),(12,false,.dead)],[],[(10,.v 67)]⟩),(3,⟨[(9,true,.aap 3 22),(12,true,.box 101 [.v 3,.v 3,.v 3,.r 13])],[(100012,[3],.aap 3 22)],[]⟩)],c6 ⟨[(9,true,.aap 3 22),(12,true,.box 101 [.v 3,.v 3,.v 3,.r 13])],[(100012,[3],.aap 3 22)],[(110,.v 3)]⟩⟩)]
def Wn(a:Lp)(i:ak)(c:Int)(p:List bC)(b:List Int)(e:List aS)(k j:List Int)(h d f:List Int)(l g:Int):gl a BT dd (GL a (nX a)) (nD a) [.cell 8 35,.cell 9 101,.tmp 10] ((kh.body).getD .skip) MX (aB.mk i c p b e k j [h,d,f],(1:Int),l,g)=jO a (aB.mk i c p b e k j [h,d,f]) 1 l g:=by kernel_rfl
def N5:List (Nat×Hn):=qZ++[(16378,⟨[],[(1,⟨[(1,true,.box 35 [.v 27,.v 28,.v 3,.v 31,.v 22,.v 32,.v 22,.v 22,.v 33]),(2,true,.box 101 [.v 3,.v 3,.v 3,.v 22]),(10,false,.dead),(12,false,.dead)],[],[(10,.v 67)]⟩),(3,⟨[(10,true,.aap 3 22),(12,true,.box 101 [.v 3,.v 3,.v 3,.r 13])],[(100012,[3],.aap 3 22)],[]⟩)],c6 ⟨[(10,true,.aap 3 22),(12,true,.box 101 [.v 3,.v 3,.v 3,.r 13])],[(100012,[3],.aap 3 22)],[(110,.v 3)]⟩⟩)]
def ZS(a:Lp)(i:ak)(c:Int)(p:List bC)(b:List Int)(e:List aS)(k j:List Int)(h d f:List Int)(l g:Int):gl a BT dd (GL a (nX a)) (nD a) [.cell 8 35,.cell 9 101,.tmp 10] ((kh.body).getD .skip) N5 (aB.mk i c p b e k j [h,d,f],(2:Int),l,g)=jO a (aB.mk i c p b e k j [h,d,f]) 2 l g:=by kernel_rfl
def ae3(a:Lp)(C:FT (Kf a))(D:FT (C5 a))(E:FT (Fz a)):FT (nD a):=by
 have n:∀r,FT r->∀z,z∈GL a r->FT z:=λr v=>fc v (fc C (fc D (fc E (fc (D5 a) f0))))
 have F:∀(x b:Int) (d:Option (aB×aT×Int)),x≠b->(bif c5 (x=b) then d else c7)=c7:=λx b d v=>by rw[decide_eq_false v];rfl
 have A:∀(m:ak) (l:Int) (p:List bC) (f:List Int) (h:List aS) (e g:List Int) (s:List (List Int)) (j k i:Int) (u:aB×aT×Int),jO a (aB.mk m l p f h e g s) j k i=c6 u->
  ∃(n:List (aq BT)) (B:List (Nat×Hn)),(∀r,r∈n->FT r)/\gl a BT dd n (nD a) [.cell 8 35,.cell 9 101,.tmp 10] ((kh.body).getD .skip) B (aB.mk m l p f h e g s,j,k,i)=c6 u:=by
  intro m l p f h e g s j k i u c
  match s,c with
  |[],c=>
   by_cases h0:(j:Int)=0
   .subst h0;exact⟨GL a (pW a),M7,n _ (HC a),(WN a m l p f h e g k i).trans c⟩
   .unfold jO at c;simp only[decide_eq_false h0,cond_false] at c;cases c
  |[o],c=>
   by_cases h0:(j:Int)=0
   .subst h0;exact⟨GL a (tR a),Od,n _ (SP a),(ahC a m l p f h e g o k i).trans c⟩
   .unfold jO at c;simp only[decide_eq_false h0,cond_false] at c;cases c
  |[o,q],c=>
   by_cases h0:(j:Int)=0
   .subst h0;exact⟨GL a (qd a),Po,n _ (GB a),(akd a m l p f h e g o q k i).trans c⟩
   by_cases t:(j:Int)=1
   .subst t;exact⟨GL a (qd a),Qs,n _ (GB a),(am3 a m l p f h e g o q k i).trans c⟩
   .unfold jO at c;simp only[decide_eq_false h0,decide_eq_false t,cond_false] at c;cases c
  |[o,q,w],c=>
   by_cases h0:(j:Int)=0
   .subst h0;exact⟨GL a (nX a),LP,n _ (EH a),(apY a m l p f h e g o q w k i).trans c⟩
   by_cases t:(j:Int)=1
   .subst t;exact⟨GL a (nX a),MX,n _ (EH a),(Wn a m l p f h e g o q w k i).trans c⟩
   by_cases y:(j:Int)=2
   .subst y;exact⟨GL a (nX a),N5,n _ (EH a),(ZS a m l p f h e g o q w k i).trans c⟩
   .unfold jO at c;simp only[decide_eq_false h0,decide_eq_false t,decide_eq_false y,cond_false] at c;cases c
  |o::q::w::G::s,c=>
   cases c
 exact afO mixed dM (rs:=[.cell 8 35,.cell 9 101,.tmp 10]) Tryz.func163 rfl rfl rfl rfl (by kernel_rfl) rfl rfl λd u v=>A d.1.ao d.1.aa0 d.1.aN d.1.aw d.1.aQ d.1.cn d.1.cf d.1.bp d.2.1 d.2.2.1 d.2.2.2 u v
end Go.X.T
namespace Go.X
open Go Go.Aml Go.Bml Go.RowKit
section
variable {P:Program}{B:Tb}{R:Type}{r:R}
def Pu(K:P.follows .mixedOrders=true)(L:cU P B){V:Lp}{O:List (aq B)}(M:∀J,J∈O->Fits P B J){s n N:Nat}{I:Code}{w:Exit->Act->World->Prop}{z:Nat->St B.D->Option R}:
 ∀(q:List (Code×List (Nat×Hn))) (b:St B.D),AS V B P O n q z b=c6 r->RB s q=true->n<=b.H.length->∀(g:Gh) (k:Act) (d:World),Rel g s (aU B b.E) (av B b.H) k d->
  (∀f t c a,z 0 f=c6 r->n<=f.H.length->Rel t s (aU B f.E) (av B f.H) c a->Bml.GStep n g (av B b.H) d t (av B f.H) a->I.wpIn p7 N P w c a)->
  (∀h c a,h≠ .normal->eI s n g (av B b.H) d (qP B z r) h c a->w h c a)->(IX q I).wpIn p7 N P w k d
 |[],b,E,_,u,g,k,d,G,v,_=>v b g k d E u G (Bml.GStep.refl _ _ _ _)
 |p::q,b,E,T,u,g,k,d,G,v,H=>by
  obtain⟨S,Y⟩:=fu T;refine wpIn_seq (wpIn_wide.2 (gO K L M p.1 1 _ _ _ E S u g k d G _ λh A y j=>?_))
  cases h with
  |normal=>
   obtain⟨_,_,l,⟨o,F,e,rfl,rfl⟩,m,i⟩:=j;have U:=q4 u F.len;exact Pu K L M q o e Y U l A y m (λf t c a Z W ab ac=>v f t c a Z W ab (i.trans ac)) λh c a X Q=>H h c a X (eI.trans i Q)
  |ret=>
   obtain⟨D,H1,l,⟨o,F,e,x,C⟩,m,i⟩:=j;exact H .ret A y (by simp) ⟨D,H1,l,⟨o,e,x,C⟩,m,i⟩
  |exit aa=>
   obtain⟨D,H1,l,⟨o,F,e,x,C⟩,m,i⟩:=j;exact H (.exit aa) A y (by simp) ⟨D,H1,l,⟨o,e,x,C⟩,m,i⟩
  |goto _=>obtain⟨_,_,_,e,_⟩:=j;exact e.elim
  |panic _=>exact j.elim
  |outgrown=>exact j.elim
def afv(J:P.follows .mixedOrders=true)(S:cU P B){D:List (aq B)}(Z:∀j,j∈D->Fits P B j){l m n q A:Nat}{L:List Nat}{c:List Oper}{b:St B.D}{y:St B.D->Option R}{g:Gh}{s:Act}{f:World}{Q:Exit->Act->World->Prop}
 (T:Rel g q (aU B b.E) (av B b.H) s f) (U:ops B P D L c (λM b=>bif m7 0 c then bif n4 c [] 0 (nf M []) then y b else c7 else c7) 0 c [] b=c6 r)
 (V:∀d,d∈c->fL q d.dst=true) (H:∀d,d∈c->∀j,d.op≠ .defer j) (W:∀p z v C,y p=c6 r->Rel C q (aU B p.E) (av B p.H) z v->Bml.GStep m g (av B b.H) f C (av B p.H) v->Q .normal z v):
 (Code.region A c.toArray true).wpIn (p7.inRound l) n P Q s f:=by
 obtain⟨ab,k,Y,e⟩:=qg S Z U;rw[l1] at e;obtain⟨I,e⟩:=a8 e;obtain⟨w,e⟩:=a8 e;rw[J8,l1,List.reverse_reverse] at w;have N:=LB (nn:=m) (Q:=λo u t=>o= .normal/\u=aU B k.E/\t=av B k.H) Y I w V ⟨rfl,rfl,rfl⟩ g s f T (eI q m g (av B b.H) f λo u t=>o= .normal/\u=aU B k.E/\t=av B k.H) (λ_ _ _ a=>a);have F:=Ck (l:=l) (n:=n) (λs f a=>a) (λi d x=>H d (by
  rw[List.getElem?_toArray] at x;exact fe x)) _ _ _ _ N
 refine wpIn_mono (wpIn_region_any J F) ?_
 intro o E G h;cases o with
 |normal=>
  obtain⟨aa,H3,K,⟨_,rfl,rfl⟩,X,O⟩:=h;exact W k E G K e X O
 |exit A=>obtain⟨_,_,_,⟨a,_⟩,_⟩:=h;cases a
 |ret=>obtain⟨_,_,_,⟨a,_⟩,_⟩:=h;cases a
 |goto l=>obtain⟨_,_,_,⟨a,_⟩,_⟩:=h;cases a
 |panic j=>exact h.elim
 |outgrown=>exact h.elim
end
end Go.X
namespace Go.X.T
open Go Go.Aml Go.Bml Go.X Go.RowKit Go.Proofs
def tU(c:Lp){R:Type}(d:aT×Int->Option R)(g:Int->Int->Int->List Int->Int->Option R)(a:fa):Option R:=
 bif c5 (a.abv≠9) then d (aT.mk 0 0 0 [],5) else
 (cp c a.kO 0 31).bind λl=>
 bif (!l) then d (aT.mk 0 0 0 [],40) else
 (bif c5 (((a.Data).length:Int)<9) then c6 true else(aj a.Data 8).bind λb=>c6 (c5 (((a.Data).length:Int)≠c3 c4 (9+c3 c4 (2*c3 c4 b))))).bind λbad=>
 bif bad then d (aT.mk 0 0 0 [],6) else
 (eG a.Data 0 2).bind λf=>(jQ c f).bind λi=>
 (eG a.Data 2 8).bind λj=>(jQ c j).bind λk=>
 (eG a.Data 9 ((a.Data).length:Int)).bind λh=>(vE c h 2).bind λe=>
 g a.kO (c3 c4 i) (c3 c4 k) e.1 e.2
def fK{c f:Type}{b:Option c}{d:c->Option f}{r:f}(e:b.bind d=c6 r):∃a,b=c6 a/\d a=c6 r:=by
 cases b with
 |none=>cases e
 |some a=>exact⟨a,rfl,e⟩
def aoS{h:Lp}{R:Type}{i:aT×Int->R}{o:Int->Int->Int->List Int->Int->Option (aT×Int)}{V:Int->Int->Int->List Int->Int->Option R}{c:fa}{r:aT×Int}(a:tU h c6 o c=c6 r):tU h (λj=>c6 (i j)) V c=c6 (i r)\/∃d e f n l,tU h (λj=>c6 (i j)) V c=V d e f n l/\o d e f n l=c6 r:=by
 unfold tU at a⊢;cases m:c5 (c.abv≠9) with
 |true=>rw[m] at a;exact .inl (congrArg (tt i) a)
 |false=>
  rw[m] at a;rw[cond_false] at a⊢;obtain⟨d,u,a⟩:=fK a;rw[u];show(bif !d then _ else _)=_\/_
  cases g:(!d) with
  |true=>rw[g] at a;exact .inl (congrArg (tt i) a)
  |false=>
   rw[g] at a;rw[cond_false] at a⊢;obtain⟨b,p,a⟩:=fK a;rw[p];show(bif b then _ else _)=_\/_
   cases b with
   |true=>exact .inl (congrArg (tt i) a)
   |false=>
    rw[cond_false] at a⊢;obtain⟨y,w,a⟩:=fK a;obtain⟨e,f0,a⟩:=fK a;obtain⟨x,t,a⟩:=fK a;obtain⟨f,s,a⟩:=fK a;obtain⟨z,v,a⟩:=fK a;obtain⟨k,q,a⟩:=fK a;refine .inr ⟨c.kO,c3 c4 e,c3 c4 f,k.1,k.2,?_,a⟩
    rw[w];simp only[ef,f0,t,s,v,q,g,cond_false]
def JA(a:Lp):∀(h d:List (List Int)) (b:List Int),gW a (h++d) b=(gW a h b).bind (gW a d)
 |[],d,b=>rfl
 |g::f,d,b=>by
  show((jQ a g).bind λe=>(bj 8 b [c3 c4 e]).bind λc=>gW a (f++d) c)=((jQ a g).bind λe=>(bj 8 b [c3 c4 e]).bind λc=>gW a f c).bind _
  cases jQ a g with
  |none=>rfl
  |some e=>
   show((bj 8 b [c3 c4 e]).bind λc=>gW a (f++d) c)=((bj 8 b [c3 c4 e]).bind λc=>gW a f c).bind _
   cases bj 8 b [c3 c4 e] with
   |none=>rfl
   |some i=>exact JA a f d i
def aiZ{c:Lp}{a:List (List Int)}{e:List Int}(d:gW c a []=c6 e)(b:Nat):∃f,gW c (a.take b) []=c6 f/\gW c (a.drop b) f=c6 e:=by
 rw[<-kd b a,JA] at d;exact fK d
def Ue{e:Lp}{c:List (List Int)}{b:Nat}{d g h:List Int}(i:c[b]?=c6 d)(k:gW e (c.take b) []=c6 g)(a:gW e (c.take (b+1)) []=c6 h):((jQ e d).bind λf=>bj 8 g [c3 c4 f])=c6 h:=by
 have j:c.take (b+1)=c.take b++[d]:=by rw[List.take_add_one,i];rfl
 rw[j,JA,k] at a;have a:((jQ e d).bind λf=>(bj 8 g [c3 c4 f]).bind λl=>c6 l)=c6 h:=a;obtain⟨f,n,a⟩:=fK a;obtain⟨o,m,a⟩:=fK a;rw[n];exact m.trans a
def Su:∀(e:List Int) (c:Nat),e.length=c*2->(lj e).length=c/\∀a,a<c->∃f b,(lj e)[a]?=c6 [f,b]/\e[a*2]?=c6 f/\e[a*2+1]?=c6 b
 |[],c,d=>by
  have:c=0:=by simp at d;omega
  subst this;exact⟨rfl,λa h=>absurd h (by omega)⟩
 |[f],c,d=>by simp at d;omega
 |f::b::i,c,d=>by
  obtain⟨g,rfl⟩:∃g,c=g+1:=⟨c -1,by simp at d;omega⟩;obtain⟨k,l⟩:=Su i g (by simp at d;omega);refine⟨by show(lj i).length+1=_;rw[k],λa h=>?_⟩
  cases a with
  |zero=>exact⟨f,b,rfl,rfl,rfl⟩
  |succ a=>
   obtain⟨o,n,p,j,m⟩:=l a (by omega);refine⟨o,n,p,?_,?_⟩
   .rw[show(a+1)*2=a*2+1+1 by omega];exact j
   .rw[show(a+1)*2+1=a*2+1+1+1 by omega];exact m
def W4{h:Lp}{f d e g:Int}{c:List Int}{r:aT×Int}(a:rA h f d e c g=c6 r):g=2/\∃k b v,c.length=k*2/\gW h (lj c) []=c6 b/\lQ h (aT.mk f d e b)=c6 v/\r=bif (!v) then(aT.mk 0 0 0 [],6) else(aT.mk f d e b,0):=by
 unfold rA at a
 by_cases i:g=2
 rotate_left
 .rw[decide_eq_false i] at a;cases a
 rw[decide_eq_true i,cond_true] at a
 by_cases j:c.length%2=0
 rotate_left
 .rw[decide_eq_false j] at a;cases a
 rw[decide_eq_true j,cond_true] at a;obtain⟨b,m,a⟩:=fK a;obtain⟨v,l,a⟩:=fK a;refine⟨i,c.length/2,b,v,by omega,m,l,?_⟩
 cases v
 .have a:c6 (aT.mk 0 0 0 [],(6:Int))=c6 r:=a;injection a with a
  exact a.symm
 .have a:c6 (aT.mk f d e b,(0:Int))=c6 r:=a;injection a with a
  exact a.symm
end Go.X.T
namespace Go.X.T
open Go Go.Aml Go.Bml Go.X Go.RowKit Go.Proofs
def iq:Code->Code | .seq b _=>b |a=>a
def eM:Code->Code | .seq _ b=>b |a=>a
def V3:Code->Code | .block _ (.rangeFunc _ _ _ (.block _ b))=>b |a=>a
def cas:Code->Code | .block _ (.rangeFunc _ _ b _)=>b |a=>a
def tS:Code->List Oper | .region _ a _=>a.toList |_=>[]
noncomputable def tq:Code:=(tx.body).getD .skip
noncomputable def xl:Code:=eM (eM (eM (eM (eM tq))))
noncomputable def DQ:Code:=iq (iq xl)
noncomputable def Dj:Code:=eM (iq xl)
noncomputable def sk:Code:=eM xl
noncomputable def D2:List (Code×List (Nat×Hn)):=[(iq tq,[]),(iq (eM tq),[]),(iq (eM (eM tq)),[]),(iq (eM (eM (eM tq))),[(2,⟨[],[(0,⟨[],[],[(31,.v 4)]⟩)],c7⟩)]),(iq (eM (eM (eM (eM tq)))),[])]
def LH:tx.body=c6 (IX D2 xl):=by kernel_rfl
def iV(a:Lp):List (aq BT):=[C5 a,JX a,Ks a,H7 a]
def sO(e:Nat)(a:fa)(f:List Int)(h d g b:Int)(c:TV BT.D)(i:List (Ob BT.D)):List (Ob BT.D):=[⟨1,1,.box 97 [.int .i64 a.kO,.int .i64 a.abv,.row 5 a.Data]⟩,⟨1,1,.box 101 [.int .i64 0,.int .i64 0,.int .i64 0,.bg]⟩,⟨e,1,.box 101 [.int .i64 h,.int .i64 d,.int .i64 g,c]⟩,⟨0,1,.box 95 [.row 5 f]⟩,⟨0,1,.box 3 [.int .i64 b]⟩]++i
def fO(d:Nat)(a:fa)(f c e:Int)(b:TV BT.D)(g:List (Ob BT.D)):List (Ob BT.D):=[⟨1,1,.box 97 [.int .i64 a.kO,.int .i64 a.abv,.row 5 a.Data]⟩,⟨1,1,.box 101 [.int .i64 0,.int .i64 0,.int .i64 0,.bg]⟩,⟨d,1,.box 101 [.int .i64 f,.int .i64 c,.int .i64 e,b]⟩]++g
noncomputable def PT(b:Lp):Nat->St BT.D->Option (bi BT.D (kq b).az.bX⊕(List (Ob BT.D)×TV BT.D×TV BT.D×TV BT.D)):=λc a=>
 bif ey c 0 then exec b BT dd (iV b) 0 [] DQ 1 (λc a=>bif ey c 0 then c6 (n0 (a.H,lk a.E 49,lk a.E 4,lk a.E 2)) else c7) a
 else bif x2 c 1 then(nh BT dd a 0 [.cell 2 101,.tmp 3] [] λd=>take BT 0 (kq b).az ⟨d,a.H⟩ c6).bind λe=>c6 (o8 e) else c7
def SR(a:Lp)(b:fa):AS a BT dd (iV a) 0 D2 (PT a) (cz BT (kq a).par b)=tU a (λh=>c6 (o8 h)) (λg d f e c=>c6 (n0 (sO 2 b e g d f c .bg [],.fn 139 [] [.ptr 3 1 0 0,.ptr 4 1 0 0],.ptr 2 1 0 0,.ptr 1 1 0 0))) b:=by kernel_rfl
noncomputable def lv:List Oper:=tS (V3 Dj)
noncomputable def sv:List Oper:=tS (cas Dj)
def Yw:Dj= .block 0 (.rangeFunc (.tmp 49) #[50] (.region 9 sv.toArray false) (.block 1 (.region 10 lv.toArray true))):=by kernel_rfl
def sD(a:List Int):En BT.D:=[(50,.row 5 a),(4,.ptr 2 1 0 0)]
def ru(a:List Int):En BT.D:=[(5,.row 5 a),(50,.row 5 a),(4,.ptr 2 1 0 0)]
def rdA(d:fa)(b:List Int)(f c e:Int)(a:TV BT.D):ops BT dd [] [] sv (λ_ g=>c6 g) 0 sv [] ⟨sD b,fO 2 d f c e a []⟩=c6 ⟨ru b,fO 2 d f c e a []⟩:=by kernel_rfl
def aer(e:fa)(b:List Int)(g c f:Int)(a:TV BT.D)(d:List Int):ops BT dd [] [] sv (λ_ h=>c6 h) 0 sv [] ⟨sD b,fO 2 e g c f a [⟨1,1,.aap 3 d⟩]⟩=c6 ⟨ru b,fO 2 e g c f a [⟨1,1,.aap 3 d⟩]⟩:=by kernel_rfl
def ajg(c:Lp)(d:fa)(a:List Int)(f b e:Int):ops BT dd (iV c) [] lv (λj h=>bif m7 0 lv then bif n4 lv [] 0 (nf j []) then c6 h.H else c7 else c7) 0 lv [] ⟨ru a,fO 2 d f b e .bg []⟩=(jQ c a).bind λg=>(bj 8 [] [c3 c4 g]).bind λi=>c6 (fO 3 d f b e (.fl 4 1) [⟨1,1,.aap 3 [c3 c4 g]⟩,⟨1,1,.aap 3 i⟩]):=by kernel_rfl
def ahg(c:Lp)(e:fa)(a:List Int)(g b f:Int)(d:List Int):ops BT dd (iV c) [] lv (λk i=>bif m7 0 lv then bif n4 lv [] 0 (nf k []) then c6 i.H else c7 else c7) 0 lv [] ⟨ru a,fO 2 e g b f (.fl 3 1) [⟨1,1,.aap 3 d⟩]⟩=(jQ c a).bind λh=>(bj 8 d [c3 c4 h]).bind λj=>c6 (fO 3 e g b f (.fl 3 2) [⟨2,2,.aap 3 j⟩,⟨1,1,.aap 3 [c3 c4 h]⟩]):=by kernel_rfl
def NX(q:Nat):Nat->Option Nat
 |0=>c6 0
 |1=>c6 1
 |2=>c6 2
 |3=>c6 q
 |_=>c7
def Fj{q i r:Nat}(a:NX q i=c6 r):(i<3/\r=i)\/(i=3/\r=q):=by
 match i,a with
 |0,a=>injection a with a;exact .inl ⟨by omega,a.symm⟩
 |1,a=>injection a with a;exact .inl ⟨by omega,a.symm⟩
 |2,a=>injection a with a;exact .inl ⟨by omega,a.symm⟩
 |3,a=>injection a with a;exact .inr ⟨rfl,a.symm⟩
def wQ{g:Gh}{l:World}{e v:List aO}{f:Nat->Option Nat}{t:Nat->Prop}(y:bF g e l){i b:Nat}{a:aO}(m:e[i]?=c6 a)(x:∀d,d∈a.es->cE 0 d)(q:f b=c6 i):0<a.sz/\(∀(i:Nat) (d:PV),a.es[i]?=c6 d->d.cells.length=a.sz)/\(f b=c7->a.es=[])/\
 ∀r,f b=c6 r->∃c,e[r]?=c6 c/\a.ty=c.ty/\a.sz=c.sz/\a.es.length=c.es.length/\∀i b j,abk a.es i b=c6 j->∃n,abk c.es i b=c6 n/\∀k,VR g e l n k->VR (dj g f t) v l j k:=by
 have s:=y.obj i a m;refine⟨s.pos,s.width,(λo=>by rw[q] at o;cases o),λr h=>?_⟩
 rw[q] at h;injection h with h
 subst h;refine⟨a,m,rfl,rfl,rfl,λi b j p=>⟨j,p,λk u=>?_⟩⟩
 exact .aW ((u.dH (nR x p)).mono (λ_ w=>.inl w) λ_ _=>rfl)
def Yy{g:Gh}{p:World}{A0 A1:aO}{H:List aO}{c0 c1 c2:PV}{t tr sz q v:Nat}{es:List PV}
 (h0:H[0]?=c6 A0) (n:H[1]?=c6 A1) (x:H[2]?=c6 ⟨t,4,[.agg [c0,c1,c2,.fl q v]],1⟩) (u:H[q]?=c6 ⟨tr,sz,es,v⟩) (M:3<=q)
 (f0:∀j,j∈A0.es->cE 0 j) (E:∀j,j∈A1.es->cE 0 j) (G:∀j,j∈es->cE 0 j) (fc:cE 0 c0/\cE 0 c1/\cE 0 c2) (s:bF g H p):
 ∃z,bF z [A0,A1,⟨t,4,[.agg [c0,c1,c2,.fl 3 1]],1⟩,⟨tr,sz,es,1⟩] p/\Bml.GStep 3 g H p z [A0,A1,⟨t,4,[.agg [c0,c1,c2,.fl 3 1]],1⟩,⟨tr,sz,es,1⟩] p:=by
 refine⟨dj g (NX q) (λ_=>False),bF.re s (λ_ f=>f.elim) (λi O r f D=>?_) (λi r f=>?_) (λi o a=>?_),GStep.re λi L J c=>?_⟩
 .rcases Fj f with⟨w,b⟩ |⟨w,b⟩ <;> rcases Fj D with⟨C,F⟩ |⟨C,F⟩ <;> omega
 .show i<4
  rcases Fj f with⟨w,b⟩ |⟨w,b⟩ <;> omega
 .match i,a with
  |0,a=>have a:c6 A0=c6 o:=a;injection a with a;subst a;exact wQ s h0 f0 rfl
  |1,a=>have a:c6 A1=c6 o:=a;injection a with a;subst a;exact wQ s n E rfl
  |3,a=>
   have a:c6 (⟨tr,sz,es,1⟩:aO)=c6 o:=a;injection a with a
   subst a;have B:=s.obj q _ u;refine⟨B.pos,B.width,(λf=>by cases f),λr h=>?_⟩
   have h:c6 q=c6 r:=h;injection h with h
   subst h;refine⟨_,u,rfl,rfl,rfl,λi y A d=>⟨A,d,λm k=>?_⟩⟩
   exact .aW ((k.dH (nR G d)).mono (λ_ l=>.inl l) λ_ _=>rfl)
  |2,a=>
   have a:c6 (⟨t,4,[.agg [c0,c1,c2,.fl 3 1]],1⟩:aO)=c6 o:=a;injection a with a
   subst a;refine⟨by show 0<4;omega,λi j e=>?_,(λf=>by cases f),λr h=>?_⟩
   .match i,e with
    |0,e=>injection e with e;subst e;rfl
   .have h:c6 2=c6 r:=h;injection h with h
    subst h;refine⟨_,x,rfl,rfl,rfl,λi y A d=>?_⟩
    obtain⟨j,e,K⟩:=gw d
    match i,e with
    |0,e=>
     injection e with e
     subst e
     match y,K with
     |0,_=>injection d with d;subst d;exact⟨c0,rfl,λm k=>.aW ((k.dH fc.1).mono (λ_ l=>.inl l) λ_ _=>rfl)⟩
     |1,_=>injection d with d;subst d;exact⟨c1,rfl,λm k=>.aW ((k.dH fc.2.1).mono (λ_ l=>.inl l) λ_ _=>rfl)⟩
     |2,_=>injection d with d;subst d;exact⟨c2,rfl,λm k=>.aW ((k.dH fc.2.2).mono (λ_ l=>.inl l) λ_ _=>rfl)⟩
     |3,_=>
      injection d with d
      subst d;refine⟨.fl q v,rfl,λm k=>?_⟩
      cases k with
      |aW f=>cases f
      |fl _ _ L _ c N n I=>
       rw[u] at c;injection c with c
       subst c;refine .fl 3 1 ⟨tr,sz,es,1⟩ m rfl (dv _) n λ_=>?_
       have:=I rfl;unfold SL at this⊢;exact this
 .match i,J with
  |0,_=>rw[h0] at c;injection c with c;subst c;exact⟨A0,rfl,dv _,λ_=>⟨rfl,rfl,rfl⟩⟩
  |1,_=>rw[n] at c;injection c with c;subst c;exact⟨A1,rfl,dv _,λ_=>⟨rfl,rfl,rfl⟩⟩
  |2,_=>rw[x] at c;injection c with c;subst c;exact⟨_,rfl,dv _,λ_=>⟨rfl,rfl,rfl⟩⟩
def EO:Nat->Option Nat
 |0=>c6 0
 |1=>c6 1
 |2=>c6 2
 |_=>c7
def B9{i r:Nat}(a:EO i=c6 r):i<3/\r=i:=by
 match i,a with
 |0,a=>injection a with a;exact⟨by omega,a.symm⟩
 |1,a=>injection a with a;exact⟨by omega,a.symm⟩
 |2,a=>injection a with a;exact⟨by omega,a.symm⟩
def ah7{g:Gh}{d:World}{A0 A1 A2 l k:aO}(f0:∀c,c∈A0.es->cE 0 c)(o:∀c,c∈A1.es->cE 0 c)(p:∀c,c∈A2.es->cE 0 c)(f:bF g [A0,A1,A2,l,k] d):
 bF (dj g EO λr=>r=3\/r=4) [A0,A1,A2] d/\Bml.GStep 3 g [A0,A1,A2,l,k] d (dj g EO λr=>r=3\/r=4) [A0,A1,A2] d:=by
 refine⟨bF.re f (λr e q m=>?_) (λi t r e n=>?_) (λi r e=>?_) (λi h a=>?_),GStep.re λi j s b=>?_⟩
 .have:=B9 m;omega
 .have:=B9 e;have:=B9 n;omega
 .exact(B9 e).1
 .match i,a with
  |0,a=>have a:c6 A0=c6 h:=a;injection a with a;subst a;exact wQ f rfl f0 rfl
  |1,a=>have a:c6 A1=c6 h:=a;injection a with a;subst a;exact wQ f rfl o rfl
  |2,a=>have a:c6 A2=c6 h:=a;injection a with a;subst a;exact wQ f rfl p rfl
 .match i,s with
  |0,_=>have b:c6 A0=c6 j:=b;injection b with b;subst b;exact⟨A0,rfl,dv _,λ_=>⟨rfl,rfl,rfl⟩⟩
  |1,_=>have b:c6 A1=c6 j:=b;injection b with b;subst b;exact⟨A1,rfl,dv _,λ_=>⟨rfl,rfl,rfl⟩⟩
  |2,_=>have b:c6 A2=c6 j:=b;injection b with b;subst b;exact⟨A2,rfl,dv _,λ_=>⟨rfl,rfl,rfl⟩⟩
def aew(j:Nat)(w:2<=j)(b h l g i f cap d:Nat)(k:Option Addr)(q:d*2<=140737488355328)(o:d*2<=cap)(s:0<d->k=c6 ⟨i,f,c7⟩):
 vy j dd 139 #[.pointer (c6 ⟨b,h,c7⟩),.pointer (c6 ⟨l,g,c7⟩)] ((List.range d).map λc=>.slice (c6 ⟨i,f+c*2,c7⟩) 2 2) (λa=>a.cell? ⟨b,h,c7⟩=c6 (.slice k (d*2) cap)/\a.cell? ⟨l,g,c7⟩=c6 (.int .i64 2)):=by
 intro t v a n r u h0;refine(ai5 j w t b h l g i f cap d k q v (λc a e=>⟨(n c a e).1,(n c a e).2,o,s⟩) r (λc a p e=>u c _ a ?_ e) a h0).mono λy x m=>⟨m.1,by rw[hq,List.length_range];exact m.2⟩
 rw[hS,oi p]
 rfl
def amL{n:Nat->Prop}{l:World}{g:List Int}{e m f cap:Nat}{j h:Int}(u:g[e*2]?=c6 j)(E:g[e*2+1]?=c6 h){s:Nat}{o:Option Addr}(p:VI n l (.vs 1 (g.map (PV.int .u8))) (.slice o s cap))(F:o=c6 ⟨m,f,c7⟩):VI n l (.vs 1 ([j,h].map (PV.int .u8))) (.slice (c6 ⟨m,f+e*2,c7⟩) 2 2):=by
 generalize y:g.map (PV.int .u8)=A at p;generalize B:s3 o s cap=z at p;cases p with
 |eX _ K cap=>
  have:g=[]:=List.map_eq_nil_iff.1 y;subst this;simp at u
 |vs _ _ J H cap u2 G D I x t v=>
  injection B with hz1 hz2 hz3
  rw[F] at hz1;injection hz1 with hz1
  injection hz1 with hz4 hz5
  subst hz4;subst hz5;have r:∀(i:Nat) (a:Int),g[i]?=c6 a->abk A i 0=c6 (.int .u8 a):=λi a c=>by
   rw[<-y];unfold abk;rw[hS,c]
   rfl
  have C:∀(i d:Nat) (a:PV),abk ([j,h].map (PV.int .u8)) i d=c6 a->d=0/\((i=0/\a= .int .u8 j)\/(i=1/\a= .int .u8 h)):=λi d a c=>by
   obtain⟨k,b,w⟩:=gw c
   match i,b with
   |0,b=>
    injection b with b
    subst b
    match d,w with
    |0,_=>injection c with c;exact⟨rfl,.inl ⟨rfl,c.symm⟩⟩
   |1,b=>
    injection b with b
    subst b
    match d,w with
    |0,_=>injection c with c;exact⟨rfl,.inr ⟨rfl,c.symm⟩⟩
  have q:∀(i d:Nat) (a:PV),abk ([j,h].map (PV.int .u8)) i d=c6 a->l.cell? ⟨m,f+e*2+(i*1+d),c7⟩=c6 (u2 (e*2+i) 0)/\(u2 (e*2+i) 0).oneCell'=true/\VI n l a (u2 (e*2+i) 0):=λi d a c=>by
   obtain⟨rfl,⟨rfl,rfl⟩ |⟨rfl,rfl⟩⟩:=C i d a c
   .have:=r _ _ u;refine⟨?_,t _ _ _ this,v _ _ _ this⟩
    have k:=x _ _ _ this;rw[show f+e*2+(0*1+0)=f+(e*2*1+0) by omega];exact k
   .have:=r _ _ E;refine⟨?_,t _ _ _ this,v _ _ _ this⟩
    have k:=x _ _ _ this;rw[show f+e*2+(1*1+0)=f+((e*2+1)*1+0) by omega];exact k
  refine .vs 1 ([j,h].map (PV.int .u8)) m (f+e*2) 2 (λi _=>u2 (e*2+i) 0) (dv _) D (λi k b=>?_) (λi d a c=>(q i d a c).1) (λi d a c=>(q i d a c).2.1) (λi d a c=>(q i d a c).2.2)
  match i,b with
  |0,b=>injection b with b;subst b;rfl
  |1,b=>injection b with b;subst b;rfl
def ccd:Code->Code | .cond _ b _=>b |a=>a
noncomputable def Yr:Code:=iq (iq sk)
noncomputable def r12:Code:=iq (ccd (eM (iq sk)))
noncomputable def r13:Code:=iq (eM sk)
noncomputable def jA:List Oper:=tS Yr
noncomputable def kE:List Oper:=tS r12
noncomputable def pj:List Oper:=tS r13
def ahb:xl= .seq (.seq DQ Dj) sk:=by kernel_rfl
def alU:sk= .seq (.seq (.region 11 jA.toArray false) (.cond (.tmp 61) (.seq (.region 12 kE.toArray false) .ret) .skip)) (.seq (.region 13 pj.toArray false) .ret):=by kernel_rfl
def tE:En BT.D:=[(4,.ptr 2 1 0 0),(2,.ptr 1 1 0 0)]
def iT(b:fa)(d a c:Int)(e:List Int):Nat->List (Ob BT.D)
 |0=>fO 2 b d a c .bg []
 |_+1=>fO 2 b d a c (.fl 3 1) [⟨1,1,.aap 3 e⟩]
def aaX(e:Lp)(f:fa)(d b c:Int):ops BT dd (iV e) [] jA (λ_ a=>c6 (a.H,lk a.E 61,lk a.E 4,lk a.E 2)) 0 jA [] ⟨tE,fO 2 f d b c .bg []⟩=(lQ e (aT.mk d b c [])).bind λv=>c6 (fO 2 f d b c .bg [],.bool (!v),.ptr 2 1 0 0,.ptr 1 1 0 0):=by kernel_rfl
def YK(f:Lp)(g:fa)(e b d:Int)(c:List Int):ops BT dd (iV f) [] jA (λ_ a=>c6 (a.H,lk a.E 61,lk a.E 4,lk a.E 2)) 0 jA [] ⟨tE,fO 2 g e b d (.fl 3 1) [⟨1,1,.aap 3 c⟩]⟩=(lQ f (aT.mk e b d c)).bind λv=>c6 (fO 2 g e b d (.fl 3 1) [⟨1,1,.aap 3 c⟩],.bool (!v),.ptr 2 1 0 0,.ptr 1 1 0 0):=by kernel_rfl
noncomputable def fin(b:Lp)(a:St BT.D):Option (bi BT.D (kq b).az.bX):=nh BT dd a 0 [.cell 2 101,.tmp 3] [] λc=>take BT 0 (kq b).az ⟨c,a.H⟩ c6
def aiP(a:Lp)(d:fa)(f c e:Int):ops BT dd (iV a) [] kE (λ_ b=>fin a b) 0 kE [] ⟨tE,fO 2 d f c e .bg []⟩=c6 (aT.mk 0 0 0 [],(6:Int)):=by kernel_rfl
def agF(a:Lp)(d:fa)(g c f:Int)(e:List Int):ops BT dd (iV a) [] kE (λ_ b=>fin a b) 0 kE [] ⟨tE,fO 2 d g c f (.fl 3 1) [⟨1,1,.aap 3 e⟩]⟩=c6 (aT.mk 0 0 0 [],(6:Int)):=by kernel_rfl
def alr(b:Lp)(f:fa)(d a c:Int):ops BT dd (iV b) [] pj (λ_ e=>fin b e) 0 pj [] ⟨tE,fO 2 f d a c .bg []⟩=c6 (aT.mk d a c [],(0:Int)):=by kernel_rfl
def ajs(b:Lp)(g:fa)(e a d:Int)(c:List Int):ops BT dd (iV b) [] pj (λ_ f=>fin b f) 0 pj [] ⟨tE,fO 2 g e a d (.fl 3 1) [⟨1,1,.aap 3 c⟩]⟩=c6 (aT.mk e a d c,(0:Int)):=by kernel_rfl
def Ou{q:Nat}(d:q≠4)(c:q≠2):(lk tE q:TV BT.D)= .any:=by
 have b:ey 4 q=false:=by cases a:ey 4 q with |false=>rfl |true=>exact absurd (beq_eq a).symm d
 have e:ey 2 q=false:=by cases a:ey 2 q with |false=>rfl |true=>exact absurd (beq_eq a).symm c
 simp only[tE,lk,b,e,cond_false]
def arY(a:fa):∀c,c∈(aY BT ⟨1,1,.box 97 [.int .i64 a.kO,.int .i64 a.abv,.row 5 a.Data]⟩).es->cE 0 c:=λc b=>by
 have b:c∈[PV.agg [.int .i64 a.kO,.int .i64 a.abv,.vs (BT.sz 5) (o4 (BT.ty 5).enc a.Data)]]:=b;rw[eH] at b;subst b;refine .agg _ λe d=>?_
 simp only[hI,j5,or_false] at d;rcases d with rfl |rfl |rfl
 .exact .int _ _
 .exact .int _ _
 .exact .vs _ _
def Qw:∀b,b∈(aY BT ⟨1,1,.box 101 [.int .i64 0,.int .i64 0,.int .i64 0,.bg]⟩).es->cE 0 b:=λb a=>by
 have a:b∈[PV.agg [.int .i64 0,.int .i64 0,.int .i64 0,.bg]]:=a;rw[eH] at a;subst a;refine .agg _ λd c=>?_
 simp only[hI,j5,or_false] at c;rcases c with rfl |rfl |rfl |rfl
 .exact .int _ _
 .exact .int _ _
 .exact .int _ _
 .exact .bg
def amN(f d e:Int):∀b,b∈(aY BT ⟨2,1,.box 101 [.int .i64 f,.int .i64 d,.int .i64 e,.bg]⟩).es->cE 0 b:=λb a=>by
 have a:b∈[PV.agg [.int .i64 f,.int .i64 d,.int .i64 e,.bg]]:=a;rw[eH] at a;subst a;refine .agg _ λg c=>?_
 simp only[hI,j5,or_false] at c;rcases c with rfl |rfl |rfl |rfl
 .exact .int _ _
 .exact .int _ _
 .exact .int _ _
 .exact .bg
def akj{g:Gh}{h:World}{a:fa}{d b c:Int}{e:List Int}{f:List (Ob BT.D)}{q v j r:Nat}{l:List (Ob BT.D)}(s:f=fO j a d b c (.fl q v) l)(n:nth f q=c6 ⟨r,v,.aap 3 e⟩)(u:3<=q)(w:bF g (av BT f) h)(k:Nat):
 ∃m,bF m (av BT (iT a d b c e (k+1))) h/\Bml.GStep 3 g (av BT f) h m (av BT (iT a d b c e (k+1))) h:=by
 subst s;have o:∀i,i∈e.map (BT.ty 3).enc->cE 0 i:=λi p=>by
  obtain⟨z,_,rfl⟩:=j2.1 p;exact dM.lt 3 z
 exact Yy (H:=av BT (fO j a d b c (.fl q v) l)) (A0:=aY BT ⟨1,1,.box 97 [.int .i64 a.kO,.int .i64 a.abv,.row 5 a.Data]⟩) (A1:=aY BT ⟨1,1,.box 101 [.int .i64 0,.int .i64 0,.int .i64 0,.bg]⟩) (t:=101) (c0:=.int .i64 d) (c1:=.int .i64 b) (c2:=.int .i64 c) (tr:=3) (sz:=BT.sz 3) (es:=e.map (BT.ty 3).enc) rfl rfl rfl (df n) u (arY a) Qw o ⟨.int _ _,.int _ _,.int _ _⟩ w
def GS{g:Gh}{h:List aO}{f:World}(o:bF g h f){r t:Nat}{c:PV}(l:h[r]?=c6 ⟨t,1,[.agg [c]],1⟩)(s:cE 0 c):∃b e d,g.β r=c6 (b,e)/\f.cell? ⟨b,0,c7⟩=c6 d/\VI g.F f c d:=by
 have n:=o.obj r _ l;have a:=n.mem;cases i:g.β r with
 |none=>rw[i] at a;cases a
 |some p=>
  obtain⟨b,e⟩:=p;rw[i] at a;obtain⟨_,cells,j,_,_,_,m⟩:=a;obtain⟨d,q,_,k⟩:=m 0 0 c rfl;refine⟨b,e,d,rfl,?_,k.dH s⟩
  rw[oe j];exact q
def JR{d:Program}{c:Sem Value}{b:World}{g:Deferred}{h:World}:(do let f<-c;pure (Next.value f):Sem Next).run d b≠ .ok (.defer g) h:=by
 simp only[eo];cases j:c.run d b with
 |ok v e=>intro a;simp[k8] at a
 |halt i e=>intro a;simp[k8] at a
def abg{d:Program}{c:Sem Unit}{b:World}{f:Deferred}{g:World}:(do c;pure Next.skip:Sem Next).run d b≠ .ok (.defer f) g:=by
 simp only[eo];cases i:c.run d b with
 |ok v e=>intro a;simp[k8] at a
 |halt h e=>intro a;simp[k8] at a
def JH(a:Oper):Bool:=match a.op with | .move _ | .assign _ | .load _ _ | .store _ _ _ | .unOp _ _ _ | .build _ _=>true | .call b=>(match b.callee with | .value (.func 78)=>true |_=>false) |_=>false
def ajK{e:Oper}(c:JH e=true):pK dd e:=by
 intro d j l n a;obtain⟨m,i,k,o,q,gd⟩:=e;cases i with
 |move g=>cases a
 |assign g=>cases a
 |load h d=>exact JR a
 |store h d g=>exact abg a
 |unOp d b f=>exact JR a
 |build d b=>exact JR a
 |call f=>
  obtain⟨callee,args,p⟩:=f;unfold JH at c;dsimp only at c
  split at c
  .simp only[execOp,resolve,Deferred.ofValue,q3,eo,h6,ec,invoke] at a;rw[pA z7 rfl rfl] at a;cases a
  .cases c
 |_=>cases c
def IT:∀b:List Oper,b.all JH=true->∀a,a∈b->pK dd a:=λb c a d=>ajK (List.all_eq_true.1 c a d)
def agI:∀a,a∈jA->pK dd a:=IT _ rfl
def alv:∀a,a∈kE->pK dd a:=IT _ rfl
def aqI:∀a,a∈pj->pK dd a:=IT _ rfl
def aoq{f:Lp}(H:∀J,J∈iV f->FT J){x:fa}{c a b:Int}{e:List Int}{v:Bool}{r:aT×Int}{N:Nat}(B:lQ f (aT.mk c a b e)=c6 v)(l:r=bif (!v) then(aT.mk 0 0 0 [],6) else(aT.mk c a b e,0))(h0:N=0->e=[])
 {g:Gh} {ac:Act} {w:World} {d:List Deferred} {M:Exit->Act->World->Prop} (Y:Rel g 64 (aU BT tE) (av BT (iT x c a b e N)) ac w)
 (R:∀p Q E S,fin f p=c6 r->Rel S 64 (aU BT p.E) (av BT p.H) Q E->Bml.GStep 3 g (av BT (iT x c a b e N)) w S (av BT p.H) E->M .ret (ji d Q) E):sk.wp dd M (ji d ac) w:=by
 rw[alU];have aa:ops BT dd (iV f) [] jA (λ_ i=>c6 (i.H,lk i.E 61,lk i.E 4,lk i.E 2)) 0 jA [] ⟨tE,iT x c a b e N⟩=c6 (iT x c a b e N,.bool (!v),.ptr 2 1 0 0,.ptr 1 1 0 0):=by
  cases N with
  |zero=>
   rw[h0 rfl] at B;refine(aaX f x c a b).trans ?_
   rw[B]
   rfl
  |succ N=>
   refine(YK f x c a b e).trans ?_
   rw[B]
   rfl
 have af:ops BT dd (iV f) [] kE (λ_ i=>fin f i) 0 kE [] ⟨tE,iT x c a b e N⟩=c6 (aT.mk 0 0 0 [],(6:Int)):=by
  cases N with
  |zero=>exact aiP f x c a b
  |succ N=>exact agF f x c a b e
 have Z:ops BT dd (iV f) [] pj (λ_ i=>fin f i) 0 pj [] ⟨tE,iT x c a b e N⟩=c6 (aT.mk c a b e,(0:Int)):=by
  cases N with
  |zero=>rw[h0 rfl];exact alr f x c a b
  |succ N=>exact ajs f x c a b e
 have X:∀j,j∈jA->fL 64 j.dst=true:=mL _ rfl;have W:∀j,j∈kE->fL 64 j.dst=true:=mL _ rfl;have ae:∀j,j∈pj->fL 64 j.dst=true:=mL _ rfl;refine wp_seq (wp_seq (Hv (m:=3) dM H Y aa X agI λs o K U k n u=>?_))
 injection k with k
 have L:s.H=iT x c a b e N:=congrArg (·.1) k;have V:lk s.E 61= .bool (!v):=congrArg (·.2.1) k;have ag:lk s.E 4= .ptr 2 1 0 0:=congrArg (·.2.2.1) k;have T:lk s.E 2= .ptr 1 1 0 0:=congrArg (·.2.2.2) k;have I:Rel U 64 (aU BT tE) (av BT (iT x c a b e N)) o K:=by
  rw[L] at n;refine⟨n.m,n.e.defers,n.e.size,λq=>?_⟩
  rw[ep];have h:=n.e.at_ q;rw[ep] at h
  by_cases P:q=4
  .subst P;rw[ag] at h;exact h
  by_cases O:q=2
  .subst O;rw[T] at h;exact h
  rw[Ou P O];exact .aW (.any _)
 rw[L] at u;have ad:(ji d o).eval (.tmp 61)= .bool (!v):=by
  have h:=n.e.at_ 61;rw[ep,V] at h;show o.tmps.getD 61 undef=_
  generalize o.tmps.getD 61 undef=z at h;cases h with |aW ab=>cases ab;rfl
 refine wp_cond ad ?_
 cases v with
 |false=>
  have l:r=(aT.mk 0 0 0 [],(6:Int)):=l;show((Code.seq (.region 12 kE.toArray false) .ret).wp dd _ (ji d o) K)
  refine wp_seq (Hv (m:=3) dM H I af W alv λy A C F D G t=>?_)
  exact wp_ret (R y A C F (by rw[l];exact D) G (u.trans t))
 |true=>
  have l:r=(aT.mk c a b e,(0:Int)):=l;refine wp_skip ?_
  refine wp_seq (Hv (m:=3) dM H I Z ae aqI λy A C F D G t=>?_)
  exact wp_ret (R y A C F (by rw[l];exact D) G (u.trans t))
def Ky{g:Lp}:∀{e:List (List Int)} {c b:List Int},gW g e c=c6 b->b.length=c.length+e.length/\(e≠[]->b.length*8<=140737488355328)
 |[],c,b,a=>by
  have a:c6 c=c6 b:=a;injection a with a
  subst a;exact⟨rfl,λa=>absurd rfl a⟩
 |k::e,c,b,a=>by
  have a:((jQ g k).bind λi=>(bj 8 c [c3 c4 i]).bind λb=>gW g e b)=c6 b:=a;obtain⟨i,_,a⟩:=fK a;obtain⟨m,d,a⟩:=fK a;obtain⟨f,j⟩:=Ky a;unfold bj at d
  split at d
  .rename_i h;injection d with d
   subst d;have l:(c++[c3 c4 i]).length=c.length+1:=by simp
   rw[l] at f;have h:(c.length+1)*8<=140737488355328:=h;refine⟨by rw[f,m4];omega,λ_=>?_⟩
   cases e with
   |nil=>rw[f];exact h
   |cons _ _=>exact j (by simp)
  .cases d
def Yb(l:Lp)(cd:FT (C5 l))(bS:FT (JX l))(cw:FT (Ks l))(ch:FT (H7 l)):FT (kq l):=by
 have aN:∀c,c∈iV l->FT c:=λc O=>by
  simp only[iV,hI,j5,or_false] at O;rcases O with rfl |rfl |rfl |rfl
  .exact cd
  .exact bS
  .exact cw
  .exact ch
 refine⟨pA z8 LH rfl,λx r aP g w args bD bJ aR=>?_⟩
 have cA:args.length=1:=bD;have aP:tU l c6 (rA l) x=c6 r:=aP;have bO:=Ot (nt:=64) bJ (by omega) aR;refine(callsIn_wide (n:=10)).1 (callsIn_of_wp_marks z8 LH trivial ?_ rfl)
 obtain⟨z,ci,bc⟩:∃z,AS l BT dd (iV l) 0 D2 (PT l) (cz BT (kq l).par x)=c6 z/\(z=o8 r\/∃a e h d k,z=n0 (sO 2 x d a e h k .bg [],.fn 139 [] [.ptr 3 1 0 0,.ptr 4 1 0 0],.ptr 2 1 0 0,.ptr 1 1 0 0)/\rA l a e h d k=c6 r):=by
  rcases aoS (i:=o8) (V:=λa e h d k=>c6 (n0 (sO 2 x d a e h k .bg [],TV.fn 139 [] [.ptr 3 1 0 0,.ptr 4 1 0 0],TV.ptr 2 1 0 0,TV.ptr 1 1 0 0))) aP with o |⟨a,e,h,d,k,C,H⟩
  .exact⟨_,(SR l x).trans o,.inl rfl⟩
  .exact⟨_,(SR l x).trans C,.inr ⟨a,e,h,d,k,rfl,H⟩⟩
 have bn:∀(L:St BT.D) (aa:Gh) (Q:Act) (M:World),fin l L=c6 r->Rel aa 64 (aU BT L.E) (av BT L.H) Q M->Bml.GStep 0 g (av BT (cz BT (kq l).par x).H) w aa (av BT L.H) M->
  ∃v,(results tx Q.tmps).run dd M= .ok v M/\∃be W,Ending.returned v= .returned be/\bF W (av BT (cz BT (kq l).az r).H) M/\Bml.GStep 0 g (av BT (cz BT (kq l).par x).H) w W (av BT (cz BT (kq l).az r).H) M/\VR W (av BT (cz BT (kq l).az r).H) M (pv BT (kR (cz BT (kq l).az r).E)) be:=λL aa Q M C H ag=>by
  obtain⟨v,al,Y,B,aS,aM⟩:=Xn (c:=kq l) (fn:=tx) (rs:=[.cell 2 101,.tmp 3]) dM rfl rfl C H;exact⟨v,Y,v,al,rfl,B,ag.trans aS,aM⟩
 refine Pu mixed dM aN D2 _ ci rfl (ei _) g _ w bO (λa0 W ad w' J cu b1 aH=>?_) (λF ad w' bW au=>?_)
 rotate_left
 .
  cases F with
  |ret=>
   obtain⟨cE,H1,aa,⟨L,aA,rfl,rfl⟩,bt,aV⟩:=au;have aA:(fin l L).bind (λaB=>c6 (o8 aB))=c6 z:=aA;obtain⟨aB,ba,am⟩:=fK aA;injection am with am
   have bQ:aB=r:=by
    rcases bc with o |⟨a,e,h,d,k,o,_⟩
    .rw[o] at am;injection am
    .rw[o] at am;cases am
   rw[bQ] at ba;show LeavesInM _ _ _ _ _ _ ad.defers .returning w'
   rw[bt.e.defers];exact bn L aa ad w' ba bt aV
  |normal=>exact absurd rfl bW
  |exit cJ=>obtain⟨_,_,_,⟨_,aA,_⟩,_⟩:=au;cases aA
  |goto _=>obtain⟨_,_,_,J,_⟩:=au;exact J.elim
  |panic _=>exact au.elim
  |outgrown=>exact au.elim
 .have J:exec l BT dd (iV l) 0 [] DQ 1 (λF R=>bif ey F 0 then c6 (n0 (R.H,lk R.E 49,lk R.E 4,lk R.E 2)) else c7) a0=c6 z:=J;rw[ahb];refine wpIn_seq (wpIn_seq (wpIn_wide.2 (gO mixed dM aN DQ 1 _ _ _ J (by kernel_rfl) cu W ad w' b1 _ λF E u ae=>?_)))
  cases F with
  |normal=>
   obtain⟨_,_,al,⟨S,_,G,rfl,rfl⟩,ai,a9⟩:=ae;have G:c6 (n0 (S.H,lk S.E 49,lk S.E 4,lk S.E 2))=c6 z:=G;injection G with G
   obtain⟨a,e,h,d,k,cc,ct⟩:∃a e h d k,z=n0 (sO 2 x d a e h k .bg [],.fn 139 [] [.ptr 3 1 0 0,.ptr 4 1 0 0],.ptr 2 1 0 0,.ptr 1 1 0 0)/\rA l a e h d k=c6 r:=by
    rcases bc with o |o
    .rw[o] at G;cases G
    .exact o
   rw[cc] at G;injection G with G
   have aE:S.H=sO 2 x d a e h k .bg []:=congrArg (·.1) G;have bC:lk S.E 49= .fn 139 [] [.ptr 3 1 0 0,.ptr 4 1 0 0]:=congrArg (·.2.1) G;have aq:lk S.E 4= .ptr 2 1 0 0:=congrArg (·.2.2.1) G;have H:lk S.E 2= .ptr 1 1 0 0:=congrArg (·.2.2.2) G;obtain⟨cl,N,cg,v,zP,aJ,bT,cm⟩:=W4 ct;subst cl;obtain⟨a7,cs⟩:=Su d N zP;have bq:=ai.e.defers;have a3:=ai.e.size;have X:=ai.m;rw[aE] at X a9;obtain⟨aG,C3,u3,bv,bK,aw⟩:=GS (r:=3) (t:=95) (c:=.vs (BT.sz 5) (d.map (BT.ty 5).enc)) X rfl (.vs _ _);obtain⟨ah,C4,u4,bp,b0,bY⟩:=GS (r:=4) (t:=3) (c:=.int .i64 2) X rfl (.int _ _);cases bY
   have aw:VI al.F u (.vs 1 (d.map (PV.int .u8))) u3:=aw;obtain⟨U,aD,ao,cap,rfl,cj,bl⟩:∃U aD ao cap,u3= .slice U (N*2) cap/\N*2<=cap/\(0<N->U=c6 ⟨aD,ao,c7⟩):=by
    have aj:(d.map (PV.int .u8)).length=N*2:=by rw[hq];exact zP
    generalize d.map (PV.int .u8)=cx at aw aj;cases aw with
    |eX _ U cap=>exact⟨U,0,0,cap,by rw[<-aj];rfl,by rw[<-aj];exact ei _,λo=>by simp at aj;omega⟩
    |vs _ _ bL b7 cap u2 ae cF a3 cH cI cB=>exact⟨_,bL,b7,cap,by rw[<-aj],by rw[<-aj];exact ae,λ_=>rfl⟩
   obtain⟨ab,T⟩:=ah7 (A0:=aY BT ⟨1,1,.box 97 [.int .i64 x.kO,.int .i64 x.abv,.row 5 x.Data]⟩) (A1:=aY BT ⟨1,1,.box 101 [.int .i64 0,.int .i64 0,.int .i64 0,.bg]⟩) (A2:=aY BT ⟨2,1,.box 101 [.int .i64 a,.int .i64 e,.int .i64 h,.bg]⟩) (arY x) Qw (amN a e h) X;generalize bw:(dj al EO λr=>r=3\/r=4)=P at ab T;have bM:P.F aG:=by rw[<-bw];exact .inr ⟨3,C3,.inl rfl,bv⟩
   have bZ:P.F ah:=by rw[<-bw];exact .inr ⟨4,C4,.inr rfl,bp⟩
   have ab:bF P (av BT (fO 2 x a e h .bg [])) u:=ab;have T:Bml.GStep 3 al (av BT (sO 2 x d a e h 2 .bg [])) u P (av BT (fO 2 x a e h .bg [])) u:=T;have aC:=ai.e.at_ 49;rw[ep,bC,aE] at aC;have bE:E.eval (.tmp 49)= .func (.func 139) #[] #[.pointer (c6 ⟨aG,0,c7⟩),.pointer (c6 ⟨ah,0,c7⟩)]:=by
    show E.tmps.getD 49 undef=_
    generalize E.tmps.getD 49 undef=aB at aC;have aC:VR al _ u (.fn 139 [] [.ptr 3 1 0 0,.ptr 4 1 0 0]) aB:=aC;cases aC with
    |aW o=>
     cases o with
     |fn _ _ _ bz vs C _ H B=>
      match vs,H with
      |[aL,a4],_=>have:=B 0 _ aL rfl rfl;cases this
    |fn _ _ _ bz vs C _ H B=>
     obtain rfl:=hM C.symm
     match vs,H with
     |[aL,a4],_=>
      have an:=B 0 _ aL rfl rfl;have Z:=B 1 _ a4 rfl rfl;have an:aL= .pointer (c6 ⟨aG,0,c7⟩):=by
       cases an with
       |aW o=>cases o
       |ptr _ _ _ _ I U y aR a6=>
        have y:c6 (⟨95,1,[.agg [.vs (BT.sz 5) (d.map (BT.ty 5).enc)]],1⟩:aO)=c6 I:=y;injection y with y
        subst y;obtain⟨_,b,bh,j,rfl⟩:=a6 rfl;rw[bv] at j;injection j with j
        injection j with j
        rw[<-j]
        rfl
      have Z:a4= .pointer (c6 ⟨ah,0,c7⟩):=by
       cases Z with
       |aW o=>cases o
       |ptr _ _ _ _ I U y aR a6=>
        have y:c6 (⟨3,1,[.agg [.int .i64 2]],1⟩:aO)=c6 I:=y;injection y with y
        subst y;obtain⟨_,b,bh,j,rfl⟩:=a6 rfl;rw[bp] at j;injection j with j
        injection j with j
        rw[<-j]
        rfl
      rw[an,Z]
   have bm:VR P (av BT (fO 2 x a e h .bg [])) u (.ptr 2 1 0 0) (E.tmps.getD 4 undef):=by
    have:=ai.e.at_ 4;rw[ep,aq,aE] at this;exact this.step T (.ptr 2 1 0 0 (by omega))
   have bN:VR P (av BT (fO 2 x a e h .bg [])) u (.ptr 1 1 0 0) (E.tmps.getD 2 undef):=by
    have:=ai.e.at_ 2;rw[ep,H,aE] at this;exact this.step T (.ptr 1 1 0 0 (by omega))
   have bP:N*2<=140737488355328:=by
    obtain⟨Y,B⟩:=Ky aJ
    by_cases h0:lj d=[]
    .rw[h0] at a7;simp at a7;omega
    .have:=B h0;simp at Y;omega
   rw[Yw];refine wpIn_block (Pq (n:=10) (a:=E) (w:=u) bE (pA Tryz.func139 rfl rfl) (aew 9 (by omega) aG 0 ah 0 aD ao cap N U bP cj bl) rfl
    (λk D=>∃g s,gW l ((lj d).take k) []=c6 s/\jV 3 BT P (av BT (fO 2 x a e h .bg [])) u D g (iT x a e h s k))
    (λk D o=> ?rd) (λk D r o' o y O=> ?put) (λk D a5 o cy b8=> ?below) (λap=> ?start)
    (λk v Q D=>∃(c s:List Int) (g:Gh),(lj d)[k]?=c6 c/\gW l ((lj d).take k) []=c6 s/\jV 3 BT P (av BT (fO 2 x a e h .bg [])) u D g (iT x a e h s k)/\fI g (av BT (iT x a e h s k)) D 64 (aU BT (ru c)) Q)
    (λk v Q D r o' o y O=> ?mput) (λbU k v D cD aF A bx=> ?assign) (λbU k v Q D aF A=> ?body) (λD A bI=> ?done))
   case rd=>
    obtain⟨g,s,_,o⟩:=o;exact⟨(oW o.st.jh bM).trans bK,(oW o.st.jh bZ).trans b0⟩
   case put=>
    obtain⟨g,s,C,o⟩:=o;exact⟨g,s,C,o.lF (.inr rfl) y rfl O⟩
   case below=>
    obtain⟨g,s,C,o⟩:=o;exact⟨g,s,C,o.below b8⟩
   case start=>
    refine⟨P,[],rfl,?_⟩
    have cG:((u.alloc (.deferred (c6 []))).alloc (.loop ap)).heap.size=u.heap.size+2:=by simp
    have aX:∀b,b<u.heap.size->((u.alloc (.deferred (c6 []))).alloc (.loop ap)).heap[b]?=u.heap[b]? :=λb j=>(hL _ _ b (by simp;omega)).trans (hL _ _ b j)
    obtain⟨b5,cv⟩:=GStep.lF (w':=(u.alloc (.deferred (c6 []))).alloc (.loop ap)) (Bml.GStep.refl 3 P (av BT (fO 2 x a e h .bg [])) u) ab rfl rfl rfl (by omega) (λb j=>aX b (ab.fb b j)) (λr b bh j=>aX b (ab.qD j)) aX;refine⟨cv,b5,by omega,λb j=>⟨λbX=>?_,?_⟩⟩
    .have:=ab.fb b bX;omega
    .rcases j with rfl |rfl
     .exact⟨.deferred (c6 []),(hL (u.alloc (.deferred (c6 []))) _ u.heap.size (by simp)).trans (hU u _),rfl⟩
     .refine⟨.loop ap,?_,rfl⟩
      have:=hU (u.alloc (.deferred (c6 []))) (.loop ap)
      rwa [World.size_alloc] at this
   case mput=>
    obtain⟨c,s,g,C,H,ag,aq⟩:=o;have aK:=ag.lF (o':=o') (.inr rfl) y rfl O;refine⟨c,s,g,C,H,aK,aq.defers,aq.size,λq=>?_⟩
    have az:=aq.at_ q;exact VR.uz (f:=λr v=>∃I,(av BT (iT x a e h s k))[r]?=c6 I/\v<=I.aF) (λ_ j=>j) (λb j=>m5 (λF=>by subst F;exact(ag.nF _ (.inr rfl)).1 j)) (λr v I _ y aQ=>⟨I,y,aQ,λF=>⟨F,rfl,rfl,rfl⟩⟩) az az.wf
   case assign=>
    obtain⟨ay,s,K,A⟩:=A;have J:k<N:=by
     have:=(e4.1 aF).1;simpa using this
    obtain⟨af,ak,O,ck,cf⟩:=cs k J;have b2:s3 (c6 ⟨aD,ao+k*2,c7⟩) 2 2=v:=by
     rw[hS,oi J] at aF;injection aF
    have bR:VI ay.F D (.vs 1 ([af,ak].map (PV.int .u8))) v:=by
     rw[<-b2];exact((amL ck cf aw (bl (by omega))).mono T.F T.jh).mono A.st.F A.st.jh
    have b3:((#[50]:Array Nat).zip #[v]).foldl (λt (p,v)=>t.setIfInBounds p v) E.tmps=E.tmps.setIfInBounds 50 v:=by simp
    rw[b3];have b6:fI ay (av BT (iT x a e h s k)) D 64 (aU BT (sD [af,ak])) {tmps:=E.tmps.setIfInBounds 50 v,defers:=[]}:=by
     refine⟨rfl,by simp;exact a3,λq=>?_⟩
     rw[ep]
     by_cases bs:q=50
     .subst bs;have Z:(E.tmps.setIfInBounds 50 v).getD 50 undef=v:=by
       rw[ft,gx (by omega)]
       rfl
      rw[Z];exact .aW bR
     .by_cases bk:q=4
      .subst bk;have Z:(E.tmps.setIfInBounds 50 v).getD 4 undef=E.tmps.getD 4 undef:=by
        rw[ft,ft,Array.getElem?_setIfInBounds_ne (by omega)]
       rw[Z];exact bm.step A.st (.ptr 2 1 0 0 (by omega))
      .have an:(lk (sD [af,ak]) q:TV BT.D)= .any:=by
        have bA:ey 50 q=false:=by cases j:ey 50 q with |false=>rfl |true=>exact absurd (beq_eq j).symm bs
        have ah:ey 4 q=false:=by cases j:ey 4 q with |false=>rfl |true=>exact absurd (beq_eq j).symm bk
        simp only[sD,lk,bA,ah,cond_false]
       rw[an];exact .aW (.any _)
    have a2:ops BT dd [] [] sv (λ_ R=>c6 R) 0 sv [] ⟨sD [af,ak],iT x a e h s k⟩=c6 ⟨ru [af,ak],iT x a e h s k⟩:=by
     cases k with
     |zero=>exact rdA _ _ _ _ _ _
     |succ k=>exact aer _ _ _ _ _ _ _
    exact F5 dM (k:=c6) A b6 a2 (mL _ rfl) (u6 _ rfl) λa0 ad a5 W aT C H ag=>by
     have aT:=sn aT;subst aT;exact bx ad a5 C ⟨[af,ak],s,W,O,K,H,ag⟩
   case body=>
    obtain⟨c,s,ay,O,K,bd,ce⟩:=A;obtain⟨ar,br,_⟩:=aiZ aJ (k+1);obtain⟨m,bb,X⟩:=fK (Ue O K br);have a2:∃ax q v a8 bi bf,ops BT dd (iV l) [] lv (λbV R=>bif m7 0 lv then bif n4 lv [] 0 (nf bV []) then c6 R.H else c7 else c7) 0 lv [] ⟨ru c,iT x a e h s k⟩=c6 ax/\ax=fO a8 x a e h (.fl q v) bf/\nth ax q=c6 ⟨bi,v,.aap 3 ar⟩/\3<=q:=by
     cases k with
     |zero=>
      have h0:s=[]:=by injection K with K;exact K.symm
      rw[h0] at X;refine⟨_,4,1,3,1,[⟨1,1,.aap 3 [c3 c4 m]⟩,⟨1,1,.aap 3 ar⟩],?_,rfl,rfl,by omega⟩
      refine(ajg l x c a e h).trans ?_
      rw[bb,ef,X]
      rfl
     |succ k=>
      refine⟨_,3,2,3,2,[⟨2,2,.aap 3 ar⟩,⟨1,1,.aap 3 [c3 c4 m]⟩],?_,rfl,rfl,by omega⟩
      refine(ahg l x c a e h s).trans ?_
      rw[bb];show((bj 8 s [c3 c4 m]).bind _)=_
      rw[X]
      rfl
    obtain⟨ax,q,cC,a8,bi,bf,cq,cn,b4,bH⟩:=a2;refine wpIn_block (afv (m:=3) mixed dM aN ⟨bd.m,ce⟩ cq (mL _ rfl) (u6 _ rfl) λa0 ad a5 W a1 ca aH=>?_)
    have a1:=sn a1;have aZ:=ca.m;rw[a1] at aZ aH;obtain⟨cb,co,bB⟩:=akj cn b4 bH aZ k;obtain⟨Y,B⟩:=bd.next (H':=ax) aZ aH;obtain⟨aS,_⟩:=Y.next (H':=iT x a e h ar (k+1)) co bB;exact⟨rfl,B,cb,ar,br,aS⟩
   case done=>
    have cp:((List.range N).map λk=>s3 (c6 ⟨aD,ao+k*2,c7⟩) 2 2).length=N:=by simp
    rw[cp] at A;obtain⟨ay,s,K,A⟩:=A;have b9:s=cg:=by
     rw[n1 (by omega),aJ] at K;injection K with K
     exact K.symm
    subst b9;show Code.wpIn p7 10 dd sk _ _ _
    rw[bq];refine wpIn_wide.2 (aoq (x:=x) (N:=N) (g:=ay) (ac:=E) (w:=D) (d:=[{target:=.collected u.heap.size,args:=#[]}]) aN bT cm (λh0=>?_) ?_ λL Q M aa cr aI aV=>?_)
    .have:=(Ky aJ).1;rw[a7,h0] at this;exact List.length_eq_zero_iff.1 (by simpa using this)
    .refine⟨A.m,bq,a3,λq=>?_⟩
     rw[ep]
     by_cases aM:q=4
     .subst aM;exact bm.step A.st (.ptr 2 1 0 0 (by omega))
     by_cases B:q=2
     .subst B;exact bN.step A.st (.ptr 1 1 0 0 (by omega))
     rw[Ou aM B];exact .aW (.any _)
    .obtain⟨Y,B⟩:=A.next aI.m aV;have bo:M.heap[u.heap.size]?=c6 (.deferred (c6 [])):=B.2 _ _ bI rfl;have aK:=Y.lF (o':=.deferred c7) (.inl rfl) bo rfl rfl;show LeavesInM _ _ _ _ _ _ [{target:=.collected u.heap.size,args:=#[]}] .returning M
     refine⟨by simp,.inl ⟨_,_,rfl,run_takeDeferred bo,?_⟩⟩
     refine bn L aa Q _ cr ⟨aK.m,aI.e.defers,aI.e.size,λq=>?_⟩ (((aH.trans a9).trans (T.less (ei _))).trans (aK.st.less (ei _)))
     have az:=aI.e.at_ q;exact VR.uz (f:=λr v=>∃I,(av BT L.H)[r]?=c6 I/\v<=I.aF) (λ_ j=>j) (λb j=>m5 (λF=>by subst F;exact(Y.nF _ (.inl rfl)).1 j)) (λr v I _ y aQ=>⟨I,y,aQ,λF=>⟨F,rfl,rfl,rfl⟩⟩) az az.wf
  |_=>first |exact ae.elim |(obtain⟨_,_,_,⟨_,_,J,_⟩,_⟩:=ae;cases J) |(obtain⟨_,_,_,J,_⟩:=ae;exact J.elim)
noncomputable def qJ:Code:=(Tryz.f239.body).getD .skip
noncomputable def tcl:Code:=eM (iq (eM (eM (eM qJ))))
def VB:Code->Code | .block _ (.loop b)=>b |a=>a
noncomputable def yZ:Code:=VB tcl
noncomputable def lJ(a:List ay)(i:Int)(b:TV BT.D):En BT.D:=[(4,b),(12,.row 140 a),(13,.int .i64 (a.length:Int)),(14,.int .i64 i)]
def tH(c:List ay)(a:List Int)(b:List aM):List (Ob BT.D):=[⟨1,1,.hole 140 c [.agg [.row 3 a,.fl 1 1]]⟩,⟨1,1,.aap 142 b⟩]
def HO:List (Nat×Hn):=[(458,⟨[],[(0,⟨[],[],[(32,.v 4)]⟩)],c7⟩),(7346,⟨[],[(4,⟨[(1,true,.aap 142 138)],[],[]⟩)],c6 ⟨[(1,true,.aap 142 138)],[],[(36,.v 3)]⟩⟩)]
def xJ(a:Lp):List (aq BT):=[IP a,Hy a,HG a]
noncomputable def tK:Nat->St BT.D->Option (Nat×List (Nat×Bd BT.D)×TV BT.D×TV BT.D×TV BT.D×TV BT.D):=λc a=>c6 (c,a.H.map (λb=>(b.aF,b.bd)),lk a.E 4,lk a.E 14,lk a.E 12,lk a.E 13)
noncomputable def bx(a:ay):Nat×Bd BT.D:=(1,.box 140 [.row 3 a.aw,.row 142 a.aH])
def tB0(b:Lp)(a:List ay)(i:Int):exec b BT dd (xJ b) 0 HO yZ 1 tK ⟨lJ a i .bg,[]⟩=bif c5 (i<(a.length:Int)) then(aj a i).bind λd=>(mH b d).bind λc=>c6 (0,[bx d,(1,.aap 142 c.1),(1,.hole 140 [] [.agg [.row 3 c.2,.fl 1 1]]),(1,.hole 140 [] [.agg [.row 3 c.2,.fl 1 1]])],.fl 3 1,.int .i64 (c3 c4 (i+1)),.row 140 a,.int .i64 (a.length:Int)) else c6 (2,[],.bg,.int .i64 i,.row 140 a,.int .i64 (a.length:Int)):=by kernel_rfl
def mo(a:List ay){b:Type}(c:Option b):Option b:=bif c5 (c3 c4 (((a.length+1:Nat):Int) -1)=((a.length+0:Nat):Int)) then bif ey (a.length+0) (a.length+0) then c else c7 else c7
def tL(e:Lp)(c:List ay)(d:ay)(a:List aM)(i:Int):Option ((List aM×Int)⊕List aM):=
 bif c5 (i<(d.aH.length:Int)) then
  mo c (mo c ((aj a i).bind λ_=>(a[i.toNat]?).bind λg=>(aj d.aH i).bind λb=>(xW e g b).bind λf=>(aj a i).bind λ_=>(a[i.toNat]?).bind λ_=>c6 (o8 (a.set i.toNat f.1,c3 c4 (i+1)))))
 else c6 (n0 a)
def Ik(b:List ay)(a:List Int)(c:List (TV BT.D)):Bd BT.D:=.hole 140 b (.agg [.row 3 a,.fl 1 1]::c)
def tB1(c:Lp)(a:List ay)(i:Int)(b:List ay)(d:List Int)(f:List aM):exec c BT dd (xJ c) 0 HO yZ 1 tK ⟨lJ a i (.fl 0 1),tH b d f⟩=bif c5 (i<(a.length:Int)) then(aj a i).bind λe=>
 (bif c5 (0<((b.length+1:Nat):Int)) then mo b ((qG c d e.aw).bind λh=>c6 h) else c6 false).bind λh=>
 bif h then(c.loop (λj=>tL c b e j.1 j.2) (f,0)).bind λk=>c6 (0,[(1,Ik b d []),(1,.aap 142 k),bx e],.fl 0 1,.int .i64 (c3 c4 (i+1)),.row 140 a,.int .i64 (a.length:Int))
 else(mH c e).bind λg=>bif x2 ((b.length+1+1)*48) 140737488355328 then c6 (0,[(2,Ik b d [.agg [.row 3 g.2,.fl 3 1]]),(1,.aap 142 f),bx e,(1,.aap 142 g.1),(1,.hole 140 [] [.agg [.row 3 g.2,.fl 3 1]])],.fl 0 2,.int .i64 (c3 c4 (i+1)),.row 140 a,.int .i64 (a.length:Int)) else c7
 else c6 (2,[(1,Ik b d []),(1,.aap 142 f)],.fl 0 1,.int .i64 i,.row 140 a,.int .i64 (a.length:Int)):=by kernel_rfl
def qi(p q:Nat):Nat->Option Nat
 |0=>c6 p
 |1=>c6 q
 |_=>c7
def Dl{p q i r:Nat}(a:qi p q i=c6 r):(i=0/\r=p)\/(i=1/\r=q):=by
 match i,a with
 |0,a=>injection a with a;exact .inl ⟨rfl,a.symm⟩
 |1,a=>injection a with a;exact .inr ⟨rfl,a.symm⟩
def NR{a f:List PV}{i d:Nat}{c:PV}(b:abk (a++f) i d=c6 c):(i<a.length/\abk a i d=c6 c)\/(a.length<=i/\abk f (i -a.length) d=c6 c):=by
 unfold abk at b⊢
 by_cases e:i<a.length
 .rw[ev e] at b;exact .inl ⟨e,b⟩
 .rw[e6 (by omega)] at b;exact .inr ⟨by omega,b⟩
def SW{b f:List PV}{i d:Nat}{c:PV}(a:abk b i d=c6 c):abk (b++f) i d=c6 c:=by
 unfold abk at a⊢
 by_cases e:i<b.length
 .rw[ev e];exact a
 .rw[hQ (by omega)] at a;cases a
def BZ{l m:List PV}{i j:Nat}{b:PV}(a:abk m i j=c6 b):abk (l++m) (l.length+i) j=c6 b:=by
 unfold abk at a⊢;rw[e6 (by omega),Nat.add_sub_cancel_left];exact a
def ajr{g:Gh}{B:World}{x:List (Ob BT.D)}{p v q t:Nat}{C:List aM}{u E2:List PV}{h:PV}{A:Nat->Prop}
 (V:(av BT x)[p]?=c6 ⟨140,2,u++[.agg [h,.fl q t]],v⟩) (E:(av BT x)[q]?=c6 ⟨142,2,C.map aM.enc,t⟩) (Y:p≠q) (I:¬A p/\¬A q) (W:cE 0 h) (R:E2.length=u.length) (S:∀k,k∈E2->k.cells.length=2)
 (D:∀i j w,abk E2 i j=c6 w->∃s,abk u i j=c6 s/\∀o,VR g (av BT x) B s o->VI (dj g (qi p q) A).F B w o) (L:bF g (av BT x) B):
 bF (dj g (qi p q) A) [⟨140,2,E2++[.agg [h,.fl 1 1]],1⟩,⟨142,2,C.map aM.enc,1⟩] B:=by
 refine bF.re L (λr e i G=>?_) (λi ab r e N=>?_) (λi r e=>?_) (λi J c=>?_)
 .rcases Dl G with⟨_,rfl⟩ |⟨_,rfl⟩
  .exact I.1 e
  .exact I.2 e
 .rcases Dl e with⟨H,b⟩ |⟨H,b⟩ <;> rcases Dl N with⟨s,O⟩ |⟨s,O⟩ <;> omega
 .show i<2
  rcases Dl e with⟨H,b⟩ |⟨H,b⟩ <;> omega
 .match i,c with
  |0,c=>
   have c:c6 (⟨140,2,E2++[.agg [h,.fl 1 1]],1⟩:aO)=c6 J:=c;injection c with c
   subst c;refine⟨by show 0<2;omega,λi k a=>?_,(λe=>by cases e),λr f=>?_⟩
   .have a:k∈E2++[.agg [h,.fl 1 1]]:=fe a;rcases j9.1 a with a |a
    .exact S k a
    .rw[eH] at a;subst a;rfl
   .have f:c6 p=c6 r:=f;injection f with f
    subst f;refine⟨_,V,rfl,rfl,by simp[R],λi j w P=>?_⟩
    rcases NR P with⟨_,d⟩ |⟨h0,d⟩
    .obtain⟨s,T,X⟩:=D i j w d;exact⟨s,SW T,λo n=>.aW (X o n)⟩
    .obtain⟨k,a,U⟩:=gw d;have M:i -E2.length=0:=by
      have:=(e4.1 a).1;simpa using this
     rw[M] at d a;injection a with a
     subst a;have G:i=u.length+0:=by omega
     rw[G]
     match j,U with
     |0,_=>
      injection d with d
      subst d;exact⟨h,BZ (l:=u) (m:=[.agg [h,.fl q t]]) (i:=0) (j:=0) rfl,λo n=>.aW ((n.dH W).mono (λ_ F=>.inl F) λ_ _=>rfl)⟩
     |1,_=>
      injection d with d
      subst d;refine⟨.fl q t,BZ (l:=u) (m:=[.agg [h,.fl q t]]) (i:=0) (j:=1) rfl,λo n=>?_⟩
      cases n with
      |aW e=>cases e
      |fl _ _ aa _ y Z d n=>
       rw[E] at y;injection y with y
       subst y;refine .fl 1 1 ⟨142,2,C.map aM.enc,1⟩ o rfl (dv _) d λ_=>?_
       have:=n rfl;unfold SL at this⊢;exact this
  |1,c=>
   have c:c6 (⟨142,2,C.map aM.enc,1⟩:aO)=c6 J:=c;injection c with c
   subst c;have K:=L.obj q _ E;refine⟨K.pos,K.width,(λe=>by cases e),λr f=>?_⟩
   have f:c6 q=c6 r:=f;injection f with f
   subst f;refine⟨_,E,rfl,rfl,rfl,λi j w D=>⟨w,D,λt Q=>?_⟩⟩
   exact .aW ((Q.dH (nR (λk a=>by
    obtain⟨z,_,rfl⟩:=j2.1 a;exact dM.lt 142 z) D)).mono (λ_ F=>.inl F) λ_ _=>rfl)
def nj(d:Nat)(f:Env)(b:List aO)(h:Env)(H0:List aO):Prop:=∀g e a,Rel g d f b e a->∃c,Rel c d h H0 e a/\Bml.GStep 0 g b a c H0 a
def sS{i:Program}{a:Nat}{h d:Env}{b H0:List aO}{c:Code}{f:fE}(q:nj a h b d H0)(n:eT i a 0 c f d H0):eT i a 0 c f h b:=λg j e r m t=>by
 obtain⟨u,l,k⟩:=q g j e r;exact n u j e l m λp o v s=>t p o v (eI.trans k s)
def xh(b:List (Ob BT.D)):av BT b=(b.map λa=>(a.aF,a.bd)).map λc=>aY BT ⟨0,c.1,c.2⟩:=by
 unfold av;rw[List.map_map];exact List.map_congr_left λa _=>by cases a;rfl
def amB{h:List ay}{i:Int}{c:TV BT.D}{q:Nat}(j:q≠4)(g:q≠12)(k:q≠13)(e:q≠14):lk (lJ h i c) q= .any:=by
 have b:∀a,q≠a->ey a q=false:=λa f=>by cases d:ey a q with |false=>rfl |true=>exact absurd (beq_eq d).symm f
 simp only[lJ,lk,b 4 j,b 12 g,b 13 k,b 14 e,cond_false]
structure vS (S:St BT.D) (sorted:List ay) (i:Int) (t:TV BT.D):Prop where
 s4:lk S.E 4=t
 YC:lk S.E 12= .row 140 sorted
 YD:lk S.E 13= .int .i64 (sorted.length:Int)
 YE:lk S.E 14= .int .i64 i
def P3{g e:Gh}{d:St BT.D}{t:Act}{c:World}{H0:List aO}{r:List ay}{i:Int}{l m:TV BT.D}(f:vS d r i l)(j:Rel g 73 (aU BT d.E) (av BT d.H) t c)(h:∀b,g.F b->e.F b)(v:bF e H0 c)
 (u:∀n,VR g (av BT d.H) c (pv BT l) n->VR e H0 c (pv BT m) n):Rel e 73 (aU BT (lJ r i m)) H0 t c:=by
 refine⟨v,j.e.defers,j.e.size,λq=>?_⟩
 rw[ep];have a:=j.e.at_ q;rw[ep] at a
 by_cases k:q=4
 .subst k;rw[f.s4] at a;exact u _ a
 by_cases s:q=12
 .subst s;rw[f.YC] at a;exact .aW ((a.dH (.vs _ _)).mono h λ_ _=>rfl)
 by_cases p:q=13
 .subst p;rw[f.YD] at a;exact .aW ((a.dH (.int _ _)).mono h λ_ _=>rfl)
 by_cases o:q=14
 .subst o;rw[f.YE] at a;exact .aW ((a.dH (.int _ _)).mono h λ_ _=>rfl)
 rw[amB k s p o];exact .aW (.any _)
def alW{c:St BT.D}{d:List ay}{i:Int}(j:vS c d i .bg):nj 73 (aU BT c.E) (av BT c.H) (aU BT (lJ d i .bg)) (av BT []):=λg o k b=>by
 refine⟨dj g (λ_=>c7) (λ_=>False),P3 j b (λ_ a=>.inl a) ?_ (λl h=>.aW ((h.dH .bg).mono (λ_ a=>.inl a) λ_ _=>rfl)),GStep.re λr m b=>absurd b (by omega)⟩
 exact bF.re b.m (λ_ a=>a.elim) (λi n r a=>by cases a) (λi r a=>by cases a) (λi e f=>by
  have:(([]:List aO))[i]?=c6 e:=f;simp at this)
def H5{a:St BT.D}{l:List ay}{i:Int}{p v q u:Nat}{xs:List ay}{c:List Int}{o:List aM}{E1:List PV}{fz:Nat->Prop}(B:vS a l i (.fl p v))
 (t:(av BT a.H)[p]?=c6 ⟨140,2,E1++[.agg [.vs (1) (c.map (PV.int .i64)),.fl q u]],v⟩) (w:(av BT a.H)[q]?=c6 ⟨142,2,o.map aM.enc,u⟩) (x:p≠q) (D:¬fz p/\¬fz q) (n:xs.length=E1.length)
 (E:∀g b,bF g (av BT a.H) b->∀i k s,abk (xs.map ay.enc) i k=c6 s->∃m,abk E1 i k=c6 m/\∀f,VR g (av BT a.H) b m f->VI (dj g (qi p q) fz).F b s f):nj 73 (aU BT a.E) (av BT a.H) (aU BT (lJ l i (.fl 0 1))) (av BT (tH xs c o)):=λg J b e=>by
 have G:=ajr (E2:=xs.map ay.enc) t w x D (.vs _ _) (by rw[hq];exact n) (λH C=>by
  obtain⟨z,_,rfl⟩:=j2.1 C
  rfl) (E g b e.m) e.m
 refine⟨dj g (qi p q) fz,P3 B e (λ_ j=>.inl j) G (λf d=>?_),GStep.re λr F e=>absurd e (by omega)⟩
 have d:VR g (av BT a.H) b (.fl p v) f:=d;cases d with
 |aW j=>cases j
 |fl _ _ F _ h I y d=>
  rw[t] at h;injection h with h
  subst h;refine .fl 0 1 ⟨140,2,xs.map ay.enc++[.agg [.vs (1) (c.map (PV.int .i64)),.fl 1 1]],1⟩ f rfl (dv _) y λ_=>?_
  have:=d rfl;have A:(xs.map ay.enc++[PV.agg [.vs (1) (c.map (PV.int .i64)),.fl 1 1]]).length=(E1++[PV.agg [.vs (1) (c.map (PV.int .i64)),.fl q u]]).length:=by simp[n]
  unfold SL at this⊢;rw[A];exact this
def Mt{H:List aO}(f:List ay){p q:Nat}{fz:Nat->Prop}:∀g a,bF g H a->∀i d b,abk (f.map ay.enc) i d=c6 b->∃h,abk (f.map ay.enc) i d=c6 h/\∀c,VR g H a h c->VI (dj g (qi p q) fz).F a b c:=λg a _ i d b e=>⟨b,e,λc l=>(l.dH (nR (λm j=>by
 obtain⟨z,_,rfl⟩:=j2.1 j;exact dM.lt 140 z) e)).mono (λ_ k=>.inl k) λ_ _=>rfl⟩
def OC{H:List aO}(d:List ay){tg1:List Int}{ws1:List aM}{p q q1 u1:Nat}(o:H[q1]?=c6 ⟨142,2,ws1.map aM.enc,u1⟩):∀g e,bF g H e->∀i j k,abk ((d++[(⟨tg1,ws1⟩:ay)]).map ay.enc) i j=c6 k->∃h,abk (d.map ay.enc++[.agg [.vs (1) (tg1.map (PV.int .i64)),.fl q1 u1]]) i j=c6 h/\∀n,VR g H e h n->VI (dj g (qi p q) λr=>r=q1).F e k n:=λg e u i j k a=>by
 rw[List.map_append] at a;rcases NR a with⟨_,a⟩ |⟨t,a⟩
 .obtain⟨h,B,x⟩:=Mt (H:=H) d (p:=p) (q:=q) (fz:=λr=>r=q1) g e u i j k a;exact⟨h,SW B,x⟩
 .obtain⟨A,c,C⟩:=gw a;have v:i - (d.map ay.enc).length=0:=by
   have:=(e4.1 c).1;simpa using this
  rw[v] at a c;injection c with c
  subst c;have t:i=(d.map ay.enc).length+0:=by omega
  rw[t]
  match j,C with
  |0,_=>
   injection a with a
   subst a;exact⟨_,BZ (l:=d.map ay.enc) (m:=[.agg [.vs (1) (tg1.map (PV.int .i64)),.fl q1 u1]]) (i:=0) (j:=0) rfl,λn s=>(s.dH (.vs _ _)).mono (λ_ f=>.inl f) λ_ _=>rfl⟩
  |1,_=>
   injection a with a
   subst a;refine⟨_,BZ (l:=d.map ay.enc) (m:=[.agg [.vs (1) (tg1.map (PV.int .i64)),.fl q1 u1]]) (i:=0) (j:=1) rfl,λn s=>?_⟩
   have w:=lh (s.ub o rfl) o rfl;have:=Ed (u.obj q1 _ o) w (λA c=>by
    obtain⟨z,_,rfl⟩:=j2.1 c;exact dM.lt 142 z) (F:=(dj g (qi p q) λr=>r=q1).F) (λ_ f=>.inl f) λb y f=>.inr ⟨q1,y,rfl,f⟩
   rw[List.drop_zero,n1 (dv _)] at this;exact this
def AV:aq BT:=⟨293,1,0,⟨[],[(0,.v 44)]⟩,⟨[(0,[0],.box 44 [.v 44])],[(0,.f 326 [] [.p 0])]⟩,λa=>c6 a⟩
def RVw(b:Lp)(a:List ay):gl b BT dd [] AV [.tmp 2] ((Tryz.f293.body).getD .skip) [] a=c6 a:=by kernel_rfl
def KVw:FT AV:=FA (L:=LN 0) (hs:=[]) mixed dM f0 Tryz.func293 rfl rfl rfl rfl (by kernel_rfl) rfl rfl (RVw (LN 0))
noncomputable def QA:Code:=iq (iq (eM (eM (eM qJ))))
noncomputable def uc:Code:=eM (eM (eM (eM qJ)))
noncomputable def lm:List Oper:=tS (iq (eM qJ))
def ajf:Tryz.f239.body=c6 (.seq (iq qJ) (.seq (.region 1 lm.toArray false) (.seq (iq (eM (eM qJ))) (.seq (.seq QA (.block 0 (.loop yZ))) uc)))):=by kernel_rfl
def tp0(a:Lp)(b:List ay):exec a BT dd [] 0 [] (iq qJ) 1 (λd c=>bif ey d 0 then c6 (lk c.E 0) else c7) (cz BT (uY a).par b)=c6 (.row 140 b):=by kernel_rfl
def WS(c:List ay):ops BT dd [AV] [] lm (λ_ a=>c6 (a.H.map (λb=>(b.aF,b.bd)),lk a.E 10)) 0 (lm.take 2) [] ⟨[(0,.row 140 c)],[]⟩=c6 ([(1,.box 44 [.row 140 c])],.fn 326 [] [.ptr 0 1 0 0]):=by kernel_rfl
def Ur(a:Lp)(b:List ay):ops BT dd [xI a] [] lm (λ_ c=>c6 (lk c.E 3)) 2 (lm.drop 2) [] ⟨[(10,.fn 326 [] [.vp [.row 140 b] 0])],[]⟩=(uv a b).bind λd=>c6 (.row 140 d):=by kernel_rfl
def tT1(a:Lp)(b:List ay):exec a BT dd [] 0 [] uc 1 (kL dd (uY a) [.tmp 2]) ⟨[(4,.fl 0 1)],[⟨1,1,.aap 140 b⟩]⟩=c6 b:=by kernel_rfl
def aa3(a:Lp):exec a BT dd [] 0 [] uc 1 (kL dd (uY a) [.tmp 2]) ⟨[(4,.bg)],[]⟩=c6 []:=by kernel_rfl
end Go.X.T
namespace Go.X
open Go Go.Aml Go.Bml
section
variable {P:Program}{B:Tb}{R:Type}{r:R}
def RS{nt n:Nat}{g o:List Oper}{s:fE}:∀{j:List Oper} {S:St B.D} {C:List (Option (cr B.D))} {i:St B.D},l6 P B g j S C i->(∀f,f∈j->fL nt f.dst=true)->gp P nt n g.toArray o s (aU B i.E) (av B i.H)->
 gp P nt n g.toArray (j++o) s (aU B S.E) (av B S.H)
 |[],S,[],i,a,_,u=>by
  obtain rfl:i=S:=a;exact u
 |f::j,S,c::C,i,a,A,u=>by
  obtain⟨D,a⟩:=a;have w:=RS (nt:=nt) (n:=n) a (λf H=>A f (List.mem_cons_of_mem _ H)) u;have t:=A f (by simp);obtain⟨e,G,x,q,y,gd⟩:=f;have E:∀{p:Bool->TV B.D->Prop},tQ g ⟨e,G,x,q,y,gd⟩ S.E p->∃h d c,gd=c6 (h,d)/\(g.toArray[h]?).bind (·.dst)=c6 c/\p d (lk S.E c):=λa=>by
   obtain⟨h,d,T,c,I,z,M,N⟩:=a;refine⟨h,d,c,I,?_,N⟩
   rw[cJ] at z;simp[z,M]
  cases c with
  |none=>
   obtain⟨h,d,c,rfl,m,l⟩:=E (p:=λd v=>v= .bu []\/∃b,v= .bool b/\b≠d) D;rcases l with l |⟨b,L,J⟩
   .refine MO m (by rw[ep,l];rfl) t ?_
    rw[show li (aU B S.E) e (.bu [])=aU B (gr S.E e (.bu [])) by rw[sx];rfl];exact w
   .refine Sk m (by rw[ep,L];rfl) J t ?_
    rw[show li (aU B S.E) e (.bu [])=aU B (gr S.E e (.bu [])) by rw[sx];rfl];exact w
  |some F=>
   obtain⟨k,K,Q,O⟩:=D;have run:gp P nt n g.toArray (⟨e,G,x,q,y,c7⟩::(j++o)) s (aU B S.E) (av B S.H):=by
    refine OT F.nw (Sz (K e x q y S.E (aX S.H (dx F.nw)) Sf) t ?_)
    rintro v U ⟨rfl,rfl⟩;rw[<-sx];exact w
   rcases k with k |k
   .obtain rfl:gd=c7:=k;exact run
   .obtain⟨h,d,c,rfl,m,l⟩:=E k;exact S7 m (by rw[ep,l];rfl) run
 |[],_,_::_,_,a,_,_=>a.elim
 |_::_,_,[],_,a,_,_=>a.elim
end
end Go.X
namespace Go.X.T
open Go Go.Aml Go.Bml Go.X Go.RowKit Go.Proofs
def aos{P:Program}{a:Nat}{i d:Env}{b H0:List aO}{c:Array Oper}{e:List Oper}{h:fE}(q:nj a i b d H0)(n:gp P a 0 c e h d H0):gp P a 0 c e h i b:=λg j f s m u=>by
 obtain⟨v,l,k⟩:=q g j f s;exact n v j f l m λp o w t=>u p o w (eI.trans k t)
def AR{d:St BT.D}{E0:En BT.D}(a:∀q,lk E0 q= .any\/(lk d.E q=lk E0 q/\cE 0 (pv BT (lk E0 q)))):nj 73 (aU BT d.E) (av BT d.H) (aU BT E0) (av BT []):=λg o l b=>by
 refine⟨dj g (λ_=>c7) (λ_=>False),⟨bF.re b.m (λ_ a=>a.elim) (λi n r a=>by cases a) (λi r a=>by cases a) (λi e j=>by
  have:(([]:List aO))[i]?=c6 e:=j;simp at this),b.e.defers,b.e.size,λq=>?_⟩,GStep.re λr m b=>absurd b (by omega)⟩
 rw[ep];have c:=b.e.at_ q;rw[ep] at c;rcases a q with a |⟨f,h⟩
 .rw[a];exact .aW (.any _)
 .rw[f] at c;exact .aW ((c.dH h).mono (λ_ k=>.inl k) λ_ _=>rfl)
def adf{d:Nat->Prop}{b:World}{e:Nat}{c:List PV}{a:Value}(f:VI d b (.vs e c) a):a.oneCell'=true:=by cases f <;> rfl
def ah6{n:St BT.D}{f t:Nat}{x:List ay}(G:lk n.E 10= .fn f [] [.ptr 0 1 0 0])(E:av BT n.H=[⟨t,1,[.agg [.vs 2 (x.map ay.enc)]],1⟩]):nj 73 (aU BT n.E) (av BT n.H) (aU BT [(10,.fn f [] [.vp [.row 140 x] 0])]) (av BT []):=λg S s e=>by
 have F:=e.m;rw[E] at F;obtain⟨b,N,y,j,L,v⟩:=GS (r:=0) F rfl (.vs _ _);refine⟨dj g (λ_=>c7) (λr=>r=0),⟨bF.re e.m (λ_ _ _ a=>by cases a) (λi W r a=>by cases a) (λi r a=>by cases a) (λi O I=>by
  have:(([]:List aO))[i]?=c6 O:=I;simp at this),e.e.defers,e.e.size,λq=>?_⟩,GStep.re λr D e=>absurd e (by omega)⟩
 rw[ep]
 by_cases C:q=10
 .subst C;have k:=e.e.at_ 10;rw[ep,G,E] at k;generalize S.tmps.getD 10 undef=A at k;have k:VR g _ s (.fn f [] [.ptr 0 1 0 0]) A:=k;show VR _ _ s (.fn f [] [.dw [.vs 2 (x.map ay.enc)] 0]) A
  have T:∀c,VR g [⟨t,1,[.agg [.vs 2 (x.map ay.enc)]],1⟩] s (.ptr 0 1 0 0) c->c= .pointer (c6 ⟨b,0,c7⟩):=λc o=>by
   cases o with
   |aW a=>cases a
   |ptr _ _ _ _ D X l v M=>
    have l:c6 (⟨t,1,[.agg [.vs 2 (x.map ay.enc)]],1⟩:aO)=c6 D:=l;injection l with l
    subst l;obtain⟨_,V,U,h,rfl⟩:=M rfl;rw[j] at h;injection h with h
    injection h with h
    rw[<-h]
    rfl
  have K:y.oneCell'=true:=adf v;have new:VI (dj g (λ_=>c7) (λr=>r=0)).F s (.dw [.vs 2 (x.map ay.enc)] 0) (.pointer (c6 ⟨b,0+0,c7⟩)):=by
   refine .dw _ 0 b 0 (λ_=>y) (.inr ⟨0,N,rfl,j⟩) (λi p d=>?_) (λi p d=>K) (λi p d=>?_)
   .match i,d with
    |0,_=>exact L
   .match i,d with
    |0,d=>injection d with d;subst d;exact v.mono (λ_ j=>.inl j) λ_ _=>rfl
  cases k with
  |aW a=>
   cases a with
   |fn _ _ _ H vs o _ u w=>
    match vs,u with
    |[c],_=>have:=w 0 _ c rfl rfl;cases this
  |fn _ _ _ H vs o _ u w=>
   obtain rfl:=hM o.symm
   match vs,u with
   |[c],_=>
    have J:=T c (w 0 _ c rfl rfl);subst J;refine .fn f [] [.dw [.vs 2 (x.map ay.enc)] 0] [] [_] rfl (λi p x a=>by simp at a) rfl λi p z a m=>?_
    match i,a,m with
    |0,a,m=>injection a with a;injection m with m;subst a;subst m;exact .aW new
 .have:(lk [(10,(.fn f [] [.vp [.row 140 x] 0]:TV BT.D))] q:TV BT.D)= .any:=by
   have Q:ey 10 q=false:=by cases j:ey 10 q with |false=>rfl |true=>exact absurd (beq_eq j).symm C
   simp only[lk,Q,cond_false]
  rw[this];exact .aW (.any _)
def aho{l:St BT.D}{d:List ay}{c:List Int}{f:List aM}(S:lk l.E 4= .fl 0 1)(u:av BT l.H=[⟨140,2,d.map ay.enc++[.agg [.vs 1 (c.map (PV.int .i64)),.fl 1 1]],1⟩,⟨142,2,f.map aM.enc,1⟩]):nj 73 (aU BT l.E) (av BT l.H) (aU BT [(4,.fl 0 1)]) (av BT [⟨1,1,.aap 140 (d++[(⟨c,f⟩:ay)])⟩]):=λg T s h=>by
 have A:=h.m;rw[u] at A;have J:=OC d (tg1:=c) (ws1:=f) (p:=0) (q:=1) (q1:=1) (u1:=1) (H:=[⟨140,2,d.map ay.enc++[.agg [.vs 1 (c.map (PV.int .i64)),.fl 1 1]],1⟩,⟨142,2,f.map aM.enc,1⟩]) rfl g s A;have x:((d++[(⟨c,f⟩:ay)]).map ay.enc).length=(d.map ay.enc++[PV.agg [.vs 1 (c.map (PV.int .i64)),.fl 1 1]]).length:=by simp
 refine⟨dj g (λi=>if i=0 then c6 0 else c7) (λr=>r=1),⟨bF.re h.m (λr a q b=>?_) (λi W r a F=>?_) (λi r a=>?_) (λi K e=>?_),h.e.defers,h.e.size,λq=>?_⟩,GStep.re λr Q h=>absurd h (by omega)⟩
 .split at b
  .injection b with b;omega
  .cases b
 .have w:∀{m:Nat},(if m=0 then c6 0 else c7)=c6 r->m=0:=λ{m} a=>by
   by_cases v:m=0
   .exact v
   .rw[if_neg v] at a;cases a
  rw[w a,w F]
 .split at a
  .subst i;show 0<1;omega
  .cases a
 .match i,e with
  |0,e=>
   have e:c6 (⟨140,2,(d++[(⟨c,f⟩:ay)]).map ay.enc,1⟩:aO)=c6 K:=e;injection e with e
   subst e;refine⟨by show 0<2;omega,λi U o=>?_,(λa=>by cases a),λr j=>?_⟩
   .have o:=fe o;obtain⟨z,_,rfl⟩:=j2.1 o
    rfl
   .have j:c6 0=c6 r:=j;injection j with j
    subst j;rw[u];refine⟨_,rfl,rfl,rfl,x,λi D O N=>?_⟩
    obtain⟨G,M,I⟩:=J i D O N;exact⟨G,M,λk t=>.aW (I k t)⟩
 .rw[ep]
  by_cases y:q=4
  .subst y;have b:=h.e.at_ 4;rw[ep,S,u] at b;generalize T.tmps.getD 4 undef=k at b;have b:VR g _ s (.fl 0 1) k:=b;show VR _ _ s (.fl 0 1) k
   cases b with
   |aW a=>cases a
   |fl _ _ Q _ n V E t=>
    injection n with n
    subst n;refine .fl 0 1 ⟨140,2,(d++[(⟨c,f⟩:ay)]).map ay.enc,1⟩ k rfl (dv _) E λ_=>?_
    have:=t rfl;unfold SL at this⊢;rw[x];exact this
  .have:(lk [(4,(.fl 0 1:TV BT.D))] q:TV BT.D)= .any:=by
    have C:ey 4 q=false:=by cases L:ey 4 q with |false=>rfl |true=>exact absurd (beq_eq L).symm y
    simp only[lk,C,cond_false]
   rw[this];exact .aW (.any _)
end Go.X.T
namespace Go.X.T
open Go Go.Aml Go.Bml Go.X Go.RowKit Go.Proofs
def Is{o:Lp}{l:List (aq BT)}(t:∀b,b∈l->FT b){p:List (Nat×Hn)}{b h:Code}{k:fE}{e:St BT.D}{j:Type}{z:j}{f:Nat->St BT.D->Option j}(r:exec o BT dd l 0 p b 1 f e=c6 z)(m:gB 73 b=true)(i:∀g a,g≠0->f g a=c6 z->False)
 (n:∀a,f 0 a=c6 z->eT dd 73 0 h k (aU BT a.E) (av BT a.H)):eT dd 73 0 (.seq b h) k (aU BT e.E) (av BT e.H):=by
 refine rN (((gO mixed dM t b 1 _ _ _ r m (ei _)).mono nP).mono λq v u c=>?_)
 cases q with
 |normal=>
  obtain⟨a,d,rfl,rfl⟩:=c;exact n a d
 |ret=>obtain⟨a,d,_⟩:=c;exact(i 1 a (by omega) d).elim
 |exit s=>obtain⟨a,d,_⟩:=c;exact(i (s+2) a (by omega) d).elim
 |goto _=>exact c.elim
 |panic _=>exact c.elim
 |outgrown=>exact c.elim
def ajm(c:Lp)(b:List ay):exec c BT dd [] 0 [] (iq (eM (eM qJ))) 1 (λd a=>bif ey d 0 then c6 (lk a.E 3,lk a.E 4) else c7) ⟨[(3,.row 140 b)],[]⟩=c6 (.row 140 b,.bg):=by kernel_rfl
def aoj(c:Lp)(b:List ay):exec c BT dd [] 0 [] QA 1 (λd a=>bif ey d 0 then c6 (lk a.E 4,lk a.E 12,lk a.E 13,lk a.E 14) else c7) ⟨[(3,.row 140 b),(4,.bg)],[]⟩=c6 (.bg,.row 140 b,.int .i64 (b.length:Int),.int .i64 0):=by kernel_rfl
def JP{b:Type}{z:b}{f:St BT.D->Option b}{a:Nat}{c:St BT.D}(e:a≠0)(d:(bif ey a 0 then f c else c7)=c6 z):False:=by
 cases a with
 |zero=>exact e rfl
 |succ a=>cases d
def Bz{e:St BT.D}{a:Nat}{c:TV BT.D}(h:lk e.E a=c)(i:cE 0 (pv BT c)):∀q,lk [(a,c)] q= .any\/(lk e.E q=lk [(a,c)] q/\cE 0 (pv BT (lk [(a,c)] q))):=λq=>by
 by_cases d:q=a
 .subst d;have g:(lk [(q,c)] q:TV BT.D)=c:=by simp[lk]
  rw[g];exact .inr ⟨h,i⟩
 .have b:ey a q=false:=by cases f:ey a q with |false=>rfl |true=>exact absurd (beq_eq f).symm d
  exact .inl (by simp only[lk,b,cond_false])
def Xh{f:St BT.D}{a e:Nat}{c d:TV BT.D}(k:lk f.E a=c)(m:cE 0 (pv BT c))(i:lk f.E e=d)(l:cE 0 (pv BT d))(n:a≠e):∀q,lk [(a,c),(e,d)] q= .any\/(lk f.E q=lk [(a,c),(e,d)] q/\cE 0 (pv BT (lk [(a,c),(e,d)] q))):=λq=>by
 by_cases h:q=a
 .subst h;have g:(lk [(q,c),(e,d)] q:TV BT.D)=c:=by simp[lk]
  rw[g];exact .inr ⟨k,m⟩
 .have b:ey a q=false:=by cases j:ey a q with |false=>rfl |true=>exact absurd (beq_eq j).symm h
  have g:(lk [(a,c),(e,d)] q:TV BT.D)=lk [(e,d)] q:=by simp only[lk,b,cond_false]
  rw[g];exact Bz i l q
def Ll(b:Lp)(c:ay):oM b c=(mH b c).bind λe=>c6 ⟨e.2,e.1⟩:=by
 unfold oM mH;cases cc b c.aw with
 |none=>rfl
 |some d=>
  simp only[ef];show(b.loop (λa=>r9 b c (ay.mk a.1 a.2.1) a.2.2) (d,([]:List aM),0)).bind _=((b.loop (λa=>r9 b c (ay.mk a.1 a.2.1) a.2.2) (d,([]:List aM),0)).bind _).bind _
  cases b.loop (λa=>r9 b c (ay.mk a.1 a.2.1) a.2.2) (d,([]:List aM),0) <;> rfl
def SA{n:Nat}(a:n*48<=140737488355328):c3 c4 ((n:Int)+1 -1)=(n:Int):=by
 rw[show(n:Int)+1 -1=(n:Int) by omega];rw[h8];omega
def Gb{a:List ay}(f:(a.length+1)*48<=140737488355328){e:Type}(b:Option e):mo a b=b:=by
 have d:c3 c4 (((a.length+1:Nat):Int) -1)=((a.length+0:Nat):Int):=by
  have:=SA (n:=a.length) (by omega);rw[show(((a.length+1:Nat):Int) -1)=(a.length:Int)+1 -1 by omega,this]
  rfl
 have c:ey (a.length+0) (a.length+0)=true:=Nat.beq_refl _;unfold mo;rw[decide_eq_true d,c]
 rfl
def aqb(d:Lp){c:List ay}(e:(c.length+1)*48<=140737488355328)(b:ay):(λa:List aM×Int=>tL d c b a.1 a.2)=λa=>qR d b.aH a.1 a.2:=by
 funext a
 obtain⟨h,i⟩:=a;unfold tL qR;rw[Gb e,Gb e];cases k:c5 (i<(b.aH.length:Int)) with
 |false=>rfl
 |true=>
  simp only[cond_true];cases f:aj h i with
  |none=>rfl
  |some j=>
   obtain⟨h0,g⟩:=xd f;rw[g];simp only[ef]
def Can(e:List ay)(a:List ay×Int)(d:En BT.D)(H0:List (Ob BT.D)):Prop:=
 (a.1=[]/\d=lJ e a.2 .bg/\H0=[])\/∃b c f,a.1=b++[(⟨c,f⟩:ay)]/\(b.length+1)*48<=140737488355328/\d=lJ e a.2 (.fl 0 1)/\H0=tH b c f
abbrev TZ:Type:=Nat×List (Nat×Bd BT.D)×TV BT.D×TV BT.D×TV BT.D×TV BT.D
def aiJ{s:Lp}{f:List ay}{x:List ay×Int}{P:En BT.D}{H0:List (Ob BT.D)}(h:Can f x P H0){w:(List ay×Int)⊕List ay}(a:lZ s f x.1 x.2=c6 w):
 ∃z:TZ,exec s BT dd (xJ s) 0 HO yZ 1 tK ⟨P,H0⟩=c6 z/\
  ((∃Q,w= .inl Q/\z.1=0/\∀b:St BT.D,tK 0 b=c6 z->∃E1 H1,Can f Q E1 H1/\nj 73 (aU BT b.E) (av BT b.H) (aU BT E1) (av BT H1))\/
   (w= .inr x.1/\z.1=2/\∀b:St BT.D,tK 2 b=c6 z->(x.1=[]/\nj 73 (aU BT b.E) (av BT b.H) (aU BT [(4,.bg)]) (av BT []))\/nj 73 (aU BT b.E) (av BT b.H) (aU BT [(4,.fl 0 1)]) (av BT [⟨1,1,.aap 140 x.1⟩]))):=by
 obtain⟨out,i⟩:=x;have C:∀{b:St BT.D} {O:Nat} {J:List (Nat×Bd BT.D)} {L:TV BT.D} {D:Int} {R:Nat},tK R b=c6 (O,J,L,.int .i64 D,.row 140 f,.int .i64 (f.length:Int))->b.H.map (λw=>(w.aF,w.bd))=J/\vS b f D L:=λ{b O J L D R} m=>by
  injection m with m
  injection m with _ m
  injection m with k1 m
  injection m with k2 m
  injection m with k3 m
  injection m with k4 k5
  exact⟨k1,⟨k2,k4,k5,k3⟩⟩
 rcases h with⟨y,rfl,rfl⟩ |⟨xs,d,k,y,I,rfl,rfl⟩
 .have y:out=[]:=y;subst y;have a:lZ s f [] i=c6 w:=a;unfold lZ at a;have c:=tB0 s f i
  by_cases B:i<(f.length:Int)
  .rw[decide_eq_true B,cond_true] at a c;obtain⟨j,H,a⟩:=fK a;rw[H,ef] at c;have a:((oM s j).bind λG=>(bj 48 [] [G]).bind λout=>c6 (o8 (out,c3 c4 (i+1))))=c6 w:=a;rw[Ll] at a;obtain⟨G,h,a⟩:=fK a;obtain⟨e,K,h⟩:=fK h;injection h with h
   subst h;obtain⟨N,l,a⟩:=fK a;injection a with a
   rw[K,ef] at c;refine⟨_,c,.inl ⟨_,a.symm,rfl,λb o=>?_⟩⟩
   obtain⟨A,t⟩:=C o;have l:c6 ([]++[(⟨e.2,e.1⟩:ay)])=c6 N:=l;injection l with l
   refine⟨lJ f (c3 c4 (i+1)) (.fl 0 1),tH [] e.2 e.1,.inr ⟨[],e.2,e.1,l.symm,by decide,rfl,rfl⟩,?_⟩
   have n:av BT b.H=[aY BT ⟨0,1,.box 140 [.row 3 j.aw,.row 142 j.aH]⟩,⟨142,2,e.1.map aM.enc,1⟩,⟨140,2,[.agg [.vs 1 (e.2.map (PV.int .i64)),.fl 1 1]],1⟩,⟨140,2,[.agg [.vs 1 (e.2.map (PV.int .i64)),.fl 1 1]],1⟩]:=by
    rw[xh,A]
    rfl
   exact H5 (p:=3) (v:=1) (q:=1) (u:=1) (xs:=[]) (E1:=[]) (fz:=λ_=>False) t (by rw[n];rfl) (by rw[n];rfl) (by decide) ⟨id,id⟩ rfl (λg j _ i D Z h=>by simp[abk] at h)
  .rw[decide_eq_false B,cond_false] at a c;injection a with a
   refine⟨_,c,.inr ⟨a.symm,rfl,λb o=>?_⟩⟩
   obtain⟨_,t⟩:=C o;exact .inl ⟨rfl,AR (Bz t.s4 .bg)⟩
 .have y:out=xs++[(⟨d,k⟩:ay)]:=y;subst y;have a:lZ s f (xs++[(⟨d,k⟩:ay)]) i=c6 w:=a;unfold lZ at a;have c:=tB1 s f i xs d k;have V:((xs++[(⟨d,k⟩:ay)]).length:Int)=(xs.length:Int)+1:=by simp
  by_cases B:i<(f.length:Int)
  .rw[decide_eq_true B,cond_true] at a c;obtain⟨j,H,a⟩:=fK a;rw[H,ef] at c;have S:(0:Int)<((xs.length+1:Nat):Int):=by omega
   rw[decide_eq_true S,cond_true,Gb I] at c;have T:(0:Int)<((xs++[(⟨d,k⟩:ay)]).length:Int):=by omega
   have X:c3 c4 (((xs++[(⟨d,k⟩:ay)]).length:Int) -1)=(xs.length:Int):=by rw[V];exact SA (by omega)
   have W:aj (xs++[(⟨d,k⟩:ay)]) (xs.length:Int)=c6 ⟨d,k⟩:=by
    unfold aj;rw[if_pos (by omega),la,e6 (dv _),q5]
    rfl
   rw[decide_eq_true T,cond_true,X,W] at a;simp only[ef] at a;obtain⟨U,n,a⟩:=fK a;rw[n] at c;simp only[ef] at c;cases U with
   |true=>
    simp only[cond_true] at a c;rw[aqb s I] at c;obtain⟨F,Y,a⟩:=fK a;injection a with a
    rw[Y,ef] at c;refine⟨_,c,.inl ⟨_,a.symm,rfl,λb o=>?_⟩⟩
    obtain⟨A,t⟩:=C o;refine⟨lJ f (c3 c4 (i+1)) (.fl 0 1),tH xs d F,.inr ⟨xs,d,F,?_,I,rfl,rfl⟩,?_⟩
    .show(xs++[(⟨d,k⟩:ay)]).set (xs.length:Int).toNat ⟨d,F⟩=_
     rw[la,List.set_append_right _ _ (dv _),q5]
     rfl
    .have n:av BT b.H=[⟨140,2,xs.map ay.enc++[.agg [.vs 1 (d.map (PV.int .i64)),.fl 1 1]],1⟩,⟨142,2,F.map aM.enc,1⟩,aY BT ⟨0,1,.box 140 [.row 3 j.aw,.row 142 j.aH]⟩]:=by
      rw[xh,A]
      rfl
     exact H5 (p:=0) (v:=1) (q:=1) (u:=1) (xs:=xs) (E1:=xs.map ay.enc) (fz:=λ_=>False) t (by rw[n];rfl) (by rw[n];rfl) (by decide) ⟨id,id⟩ (by rw[hq]) (λg j M=>Mt xs g j M)
   |false=>
    simp only[cond_false] at a c;rw[Ll] at a;obtain⟨G,h,a⟩:=fK a;obtain⟨e,K,h⟩:=fK h;injection h with h
    subst h;obtain⟨N,l,a⟩:=fK a;injection a with a
    rw[K,ef] at c;unfold bj at l
    split at l
    .rename_i E;injection l with l
     have E:(xs.length+1+1)*48<=140737488355328:=by simpa using E
     rw[ng E,cond_true] at c;refine⟨_,c,.inl ⟨_,a.symm,rfl,λb o=>?_⟩⟩
     obtain⟨A,t⟩:=C o;refine⟨lJ f (c3 c4 (i+1)) (.fl 0 1),tH (xs++[(⟨d,k⟩:ay)]) e.2 e.1,.inr ⟨xs++[(⟨d,k⟩:ay)],e.2,e.1,l.symm,by simpa using E,rfl,rfl⟩,?_⟩
     have n:av BT b.H=[⟨140,2,xs.map ay.enc++[.agg [.vs 1 (d.map (PV.int .i64)),.fl 1 1],.agg [.vs 1 (e.2.map (PV.int .i64)),.fl 3 1]],2⟩,⟨142,2,k.map aM.enc,1⟩,aY BT ⟨0,1,.box 140 [.row 3 j.aw,.row 142 j.aH]⟩,⟨142,2,e.1.map aM.enc,1⟩,⟨140,2,[.agg [.vs 1 (e.2.map (PV.int .i64)),.fl 3 1]],1⟩]:=by
      rw[xh,A]
      rfl
     exact H5 (p:=0) (v:=2) (q:=3) (u:=1) (xs:=xs++[(⟨d,k⟩:ay)]) (E1:=xs.map ay.enc++[.agg [.vs 1 (d.map (PV.int .i64)),.fl 1 1]]) (fz:=λr=>r=1) t (by rw[n,l3];rfl) (by rw[n];rfl) (by decide) ⟨by decide,by decide⟩ (by simp) (λg j M=>OC xs (by rw[n];rfl) g j M)
    .cases l
  .rw[decide_eq_false B,cond_false] at a c;injection a with a
   refine⟨_,c,.inr ⟨a.symm,rfl,λb o=>?_⟩⟩
   obtain⟨A,t⟩:=C o;refine .inr (aho t.s4 ?_)
   rw[xh,A]
   rfl
def UK(a:Lp)(al:FT (IP a))(ac:FT (Hy a))(ap:FT (HG a))(aq:FT (xI a)):FT (uY a):=by
 have au:∀e,e∈xJ a->FT e:=λe j=>by
  simp only[xJ,hI,j5,or_false] at j;rcases j with rfl |rfl |rfl
  .exact al
  .exact ac
  .exact ap
 have W:∀e,e∈[AV]->FT e:=λe j=>by
  rw[eH] at j;subst j;exact KVw
 have af:∀e,e∈[xI a]->FT e:=λe j=>by
  rw[eH] at j;subst j;exact aq
 refine ti (rs:=[.tmp 2]) dM Tryz.func239 ajf rfl rfl rfl rfl λ(x:List ay) (r:List ay) C=>?_
 have C:((uv a x).bind λd=>a.loop (λb=>lZ a d b.1 b.2) (([]:List ay),(0:Int)))=c6 r:=C;obtain⟨d,aw,U⟩:=fK C;obtain⟨an,X⟩:=a.ok _ _ _ U;generalize ae:qP BT (kL dd (uY a) [.tmp 2]) r=R;refine Is f0 (tp0 a x) (by kernel_rfl) (λl c s g=>JP (f:=λS=>c6 (lk S.E 0)) s g) λZ B=>?_
 have B:lk Z.E 0= .row 140 x:=by injection B
 refine sS (AR (E0:=[(0,.row 140 x)]) (Bz B (.vs _ _))) ?_
 refine rN (Lc ?_)
 obtain⟨aA,I,ar,u⟩:=qg dM W (WS x);injection u with u
 have ag:I.H.map (λh=>(h.aF,h.bd))=[(1,.box 44 [.row 140 x])]:=congrArg (·.1) u;have N:lk I.E 10= .fn 326 [] [.ptr 0 1 0 0]:=congrArg (·.2) u;have ab:ops BT dd [xI a] [] lm (λ_ S=>c6 (lk S.E 3)) 2 (lm.drop 2) [] ⟨[(10,.fn 326 [] [.vp [.row 140 x] 0])],[]⟩=c6 (.row 140 d):=by
  refine(Ur a x).trans ?_
  rw[aw]
  rfl
 obtain⟨aE,H,O,E⟩:=qg dM af ab;injection E with E
 have T:∀h,h∈lm.take 2->fL 73 h.dst=true:=mL _ rfl;have aj:∀h,h∈lm.drop 2->fL 73 h.dst=true:=mL _ rfl;have A:∀q:fE,q .normal (aU BT H.E) (av BT H.H)->gp dd 73 0 lm.toArray (lm.take 2++lm.drop 2) q (aU BT [(0,(.row 140 x:TV BT.D))]) (av BT []):=λq D=>by
  refine RS (S:=(⟨[(0,.row 140 x)],[]⟩:St BT.D)) ar T (aos (ah6 (t:=44) (x:=x) N ?_) (yW (S:=(⟨[(10,.fn 326 [] [.vp [.row 140 x] 0])],[]⟩:St BT.D)) O aj D))
  rw[xh,ag]
  rfl
 have A:=λq D=>(kd 2 lm)▸A q D
 refine A _ ?_
 refine sS (AR (E0:=[(3,.row 140 d)]) (Bz E (.vs _ _))) ?_
 refine Is f0 (ajm a d) (by kernel_rfl) (λl c s g=>JP (f:=λS=>c6 (lk S.E 3,lk S.E 4)) s g) λaz v=>?_
 injection v with v
 refine sS (AR (E0:=[(3,.row 140 d),(4,.bg)]) (Xh (congrArg (·.1) v) (.vs _ _) (congrArg (·.2) v) .bg (by decide))) ?_
 refine rN (Is f0 (aoj a d) (by kernel_rfl) (λl c s g=>JP (f:=λS=>c6 (lk S.E 4,lk S.E 12,lk S.E 13,lk S.E 14)) s g) λam m=>?_)
 injection m with m
 have ao:vS am d 0 .bg:=⟨congrArg (·.1) m,congrArg (·.2.1) m,congrArg (·.2.2.1) m,congrArg (·.2.2.2) m⟩;refine Ta (Pz (QG (α:=Nat×(List ay×Int)) (λp K G=>fY (λb:List ay×Int=>lZ a d b.1 b.2) p.1 p.2=c6 r/\∃E0 H0,Can d p.2 E0 H0/\nj 73 K G (aU BT E0) (av BT H0)) (λp=>p.1) (an,([],0)) ⟨X,_,_,.inl ⟨rfl,rfl,rfl⟩,alW ao⟩ ?_))
 rintro⟨Y,b⟩ K G ⟨i,E0,H0,P,aa⟩;refine sS aa ?_
 cases Y with
 |zero=>cases i
 |succ F=>
  have i:((lZ a d b.1 b.2).bind λh=>h.elim (fY (λb:List ay×Int=>lZ a d b.1 b.2) F) c6)=c6 r:=i;obtain⟨h,V,i⟩:=fK i;obtain⟨z,Q,w⟩:=aiJ P V;refine((gO mixed dM au yZ 1 _ ⟨E0,H0⟩ _ Q (by kernel_rfl) (ei _)).mono nP).mono λai ax aC n=>?_
  have first:∀l (c:St BT.D),tK l c=c6 z->z.1=l:=λl c g=>by
   injection g with g
   exact(congrArg (·.1) g).symm
  cases ai with
  |normal=>
   obtain⟨c,k,rfl,rfl⟩:=n;rcases w with⟨J,rfl,_,y⟩ |⟨_,ad,_⟩
   .obtain⟨ah,H1,ak,o⟩:=y c k;exact⟨(F,J),Nat.lt_succ_self F,i,ah,H1,ak,o⟩
   .have:=first 0 c k
    omega
  |exit M=>
   obtain⟨c,k,rfl,rfl⟩:=n;have aD:=first (M+2) c k
   rcases w with⟨J,_,aB,_⟩ |⟨rfl,ad,y⟩
   .omega
   .have:M=0:=by omega
    subst this;have L:b.1=r:=by
     have i:c6 b.1=c6 r:=i;injection i
    show eT dd 73 0 uc R (aU BT c.E) (av BT c.H)
    subst ae;rcases y c k with⟨h0,o⟩ |o
    .refine sS o ?_
     rw[<-L,h0];exact(gO mixed dM f0 uc 1 _ ⟨[(4,.bg)],[]⟩ _ (aa3 a) (by kernel_rfl) (ei _)).mono nP
    .refine sS o ?_
     rw[<-L];exact(gO mixed dM f0 uc 1 _ ⟨[(4,.fl 0 1)],[⟨1,1,.aap 140 b.1⟩]⟩ _ (tT1 a b.1) (by kernel_rfl) (ei _)).mono nP
  |ret=>
   obtain⟨c,k,_,_⟩:=n;have:=first 1 c k
   rcases w with⟨_,_,g,_⟩ |⟨_,g,_⟩ <;> omega
  |goto _=>exact n.elim
  |panic _=>exact n.elim
  |outgrown=>exact n.elim
end Go.X.T
namespace Go.X.T
open Go Go.Aml Go.Bml Go.X Go.Proofs
variable (L:Lp)
def K0:FT (C0 L):=kf [] f0 Tryz.func8
def K1:FT (C1 L):=kf [] f0 Tryz.func223
def K2:FT (C2 L):=kf [(12,⟨[],[(0,⟨[],[],[(17,.v 4)]⟩)],c7⟩),(58,⟨[],[(1,⟨[],[],[(2,.i .i64 1)]⟩),(2,⟨[],[],[]⟩)],c6 ⟨[],[],[(21,.v 3)]⟩⟩),(250,⟨[],[(1,⟨[],[],[(2,.v 67)]⟩),(4,⟨[],[],[]⟩)],c6 ⟨[],[],[(40,.v 3)]⟩⟩),(7474,⟨[],[(0,⟨[],[],[(32,.v 4)]⟩)],c7⟩),(64100,⟨[],[(0,⟨[],[],[(70,.v 4)]⟩)],c7⟩),(128204,⟨[],[(0,⟨[],[],[(88,.v 4)]⟩)],c7⟩),(128206,⟨[],[(0,⟨[],[],[(98,.v 4)]⟩)],c7⟩)] (fc (K1 L) f0) Tryz.func156
def K3:FT (C3 L):=kf [] (fc (K2 L) f0) Tryz.func93
def K4:FT (C4 L):=kf [(26,⟨[],[(1,⟨[],[],[(6,.b false)]⟩),(2,⟨[],[],[]⟩)],c6 ⟨[],[],[(11,.v 3)]⟩⟩),(3378,⟨[],[(0,⟨[],[],[(36,.v 4)]⟩)],c7⟩)] f0 Tryz.func135
def K5:FT (C5 L):=kf [] f0 Tryz.func51
def K6:FT (C6 L):=kf [] (fc (K4 L) (fc (K5 L) f0)) Tryz.func207
def K7:FT (C7 L):=kf [(26,⟨[],[(1,⟨[],[],[(4,.v 3)]⟩),(2,⟨[],[],[]⟩)],c6 ⟨[],[],[(8,.v 3)]⟩⟩)] (fc (K6 L) f0) Tryz.func267
def K8:FT (C8 L):=kf [] (fc (K7 L) f0) Tryz.func208
def K9:FT (C9 L):=kf [] (fc (K3 L) (fc (K8 L) f0)) Tryz.func140
def VY:FT (C10 L):=kf [] (fc (K5 L) f0) Tryz.func141
def K11:FT (Ye L):=kf [(26,⟨[],[(1,⟨[],[],[(4,.v 3)]⟩),(2,⟨[],[],[]⟩)],c6 ⟨[],[],[(8,.v 3)]⟩⟩)] (fc (VY L) f0) ee
def Zv:FT (C12 L):=kf [] (fc (K11 L) f0) ez
def HI:FT (C13 L):=kf [] f0 Tryz.func210
def K16:FT (C16 L):=kf [] (fc (K15 L) f0) Tryz.func268
def Iv:FT (C17 L):=kf [] (fc (K16 L) (fc (D5 L) f0)) Tryz.func209
def RX:FT (C18 L):=kf [] (fc (HI L) (fc (Iv L) (fc (K4 L) f0))) Tryz.func142
def K23:FT (C23 L):=kf [(506,⟨[],[(2,⟨[(2,true,.box 35 amj)],[],[]⟩)],c6 ⟨[(2,true,.box 35 (abx amj [(5,.r 3)]))],[(100002,[5],.aap 120 32)],[(31,.v 3)]⟩⟩),(4090,⟨[],[(4,⟨[(2,true,.box 35 amj)],[],[]⟩)],c6 ⟨[(2,true,.box 35 (abx amj [(8,.r 3)]))],[(100002,[8],.aap 22 33)],[(58,.v 3)]⟩⟩),(64819,⟨[3],[],c7⟩),(261785,⟨[4],[],c7⟩)] (fc (oh L) (fc (sP L) (fc (Md L) (fc (iY L) f0)))) j4
def K24:FT (Xu L):=kf [(56,⟨[],[(0,⟨[],[],[(18,.v 4)]⟩)],c7⟩),(126,⟨[],[(0,⟨[(2,true,.box 35 amj),(3,false,.dead),(4,false,.dead),(5,false,.dead)],[],[]⟩)],c7⟩),(250,⟨[],[(3,⟨[(2,true,.box 35 (abx amj [(6,.r 3),(7,.r 4),(8,.r 5)]))],[(100002,[6],.aap 3 22),(100002,[7],.aap 3 22),(100002,[8],.aap 22 33)],[]⟩)],c6 ⟨[(2,true,.box 35 [.v 27,.v 28,.v 3,.r 3,.v 22,.v 32,.r 4,.r 5,.r 6])],[(100002,[3],.aap 88 31),(100002,[6],.aap 3 22),(100002,[7],.aap 3 22),(100002,[8],.aap 22 33)],[(57,.v 3)]⟩⟩),(506,⟨[],[(5,⟨[(2,true,.box 35 (abx amj [(6,.r 3),(7,.r 4),(8,.r 5)])),(3,false,.aap 3 22),(4,false,.aap 3 22),(5,false,.aap 22 33)],[],[]⟩)],c6 ⟨[(2,true,.box 35 (abx amj [(6,.r 3),(7,.r 4),(8,.r 5)])),(3,false,.aap 3 22),(4,false,.aap 3 22),(5,false,.aap 22 33)],[],[(71,.v 3)]⟩⟩),(16025,⟨[4],[],c7⟩),(16204,⟨[2,6,11,12],[],c7⟩)] (fc (K9 L) (fc (K5 L) (fc (Zv L) (fc (RX L) (fc (K23 L) f0))))) Tryz.func83
def K25:FT (C25 L):=kf [] f0 Tryz.func213
def Vl:FT (C26 L):=kf [(26,⟨[],[(1,⟨[],[],[(4,.v 3)]⟩),(2,⟨[],[],[]⟩)],c6 ⟨[],[],[(8,.v 3)]⟩⟩)] (fc (K25 L) f0) Tryz.func270
def K27:FT (C27 L):=kf [] (fc (Vl L) f0) Tryz.func212
def Aq:FT (C28 L):=kf [] (fc (K3 L) (fc (K27 L) f0)) Tryz.func144
def K29:FT (Wx L):=kf [] f0 Tryz.func272
def NZ:FT (C30 L):=kf [] (fc (K29 L) f0) Tryz.func214
def K31:FT (C31 L):=kf [(60,⟨[],[(0,⟨[],[],[(26,.v 4)]⟩)],c7⟩),(508,⟨[],[(2,⟨[(0,true,.aap 3 22)],[],[]⟩)],c6 ⟨[(0,true,.aap 3 22)],[],[(8,.v 3)]⟩⟩)] (fc (NZ L) f0) x9
def Ca:FT (ZB L):=kf [(60,⟨[],[(0,⟨[],[],[(26,.v 4)]⟩)],c7⟩),(508,⟨[],[(2,⟨[(0,true,.aap 3 22)],[],[]⟩)],c6 ⟨[(0,true,.aap 3 22)],[],[(8,.v 3)]⟩⟩)] (fc (NZ L) f0) x9
def Ja:FT (C33 L):=kf [(12,⟨[],[(0,⟨[],[],[(29,.v 4)]⟩)],c7⟩),(125,⟨[],[(0,⟨[(3,true,.box 90 [.v 3,.v 3])],[],[]⟩)],c7⟩),(509,⟨[],[(0,⟨[],[],[(11,.v 3)]⟩)],c7⟩),(8170,⟨[],[(0,⟨[],[],[(70,.v 4)]⟩)],c7⟩)] f0 Tryz.func242
def K34:FT (C34 L):=kf [(28,⟨[],[(0,⟨[],[],[(56,.v 4)]⟩)],c7⟩)] (fc (Ja L) f0) Tryz.func215
def DW:FT (C35 L):=kf [(14,⟨[],[(2,⟨[(0,true,.aap 3 22)],[],[]⟩)],c6 ⟨[(0,true,.aap 3 22)],[],[(2,.v 4)]⟩⟩),(918,⟨[],[(4,⟨[(0,true,.aap 3 22)],[],[(2,.v 4)]⟩)],c6 ⟨[(0,true,.aap 3 22)],[],[(2,.v 4),(12,.v 3)]⟩⟩),(235111,⟨[],[(0,⟨[],[],[(2,.v 4)]⟩)],c7⟩)] (fc (K34 L) f0) Tryz.func146
def UT:FT (C36 L):=kf [(14,⟨[0],[],c7⟩),(122,⟨[],[(3,⟨[(2,true,.aap 3 22)],[],[]⟩)],c6 ⟨[(2,true,.aap 3 22)],[],[(40,.v 3)]⟩⟩)] (fc (Aq L) (fc (K4 L) (fc (K5 L) (fc (Ca L) (fc (DW L) f0))))) A3
def KB:FT (C37 L):=kf [] (fc (K3 L) (fc (K4 L) (fc (K5 L) f0))) Tryz.func70
def vO:FT (C38 L):=kf [(12,⟨[],[(0,⟨[],[],[(32,.v 4)]⟩)],c7⟩),(3773,⟨[],[(0,⟨[],[],[(50,.v 4)]⟩)],c7⟩),(15095,⟨[],[(0,⟨[],[],[(50,.v 4)]⟩)],c7⟩)] (fc (K4 L) (fc (K5 L) f0)) Tryz.func85
def K39:FT (C39 L):=kf [] (fc (K5 L) f0) Tryz.func87
def K40:FT (C40 L):=kf [(26,⟨[],[(1,⟨[],[],[(4,.v 3)]⟩),(2,⟨[],[],[]⟩)],c6 ⟨[],[],[(8,.v 3)]⟩⟩)] (fc (K39 L) f0) ee
def K41:FT (C41 L):=kf [] (fc (K40 L) f0) ez
def OS:FT (C42 L):=kf [] (fc (K5 L) (fc (K4 L) f0)) Tryz.func148
def K43:FT (Vx L):=kf [(14,⟨[4],[],c7⟩)] (fc (OS L) (fc (iY L) f0)) Tryz.func88
def PY:FT (C44 L):=kf [] (fc (HI L) (fc (Iv L) (fc (K4 L) f0))) Tryz.func149
def RR:FT (C45 L):=kf [(6,⟨[0],[],c7⟩)] (fc (Ca L) f0) Tryz.func216
def Uq:FT (YG L):=kf [] f0 Tryz.func330
def SX:FT (C47 L):=kf [(28,⟨[],[(0,⟨[],[],[(23,.v 4)]⟩)],c7⟩),(125,⟨[],[(0,⟨[],[],[(10,.v 3)]⟩)],c7⟩),(1017,⟨[],[(0,⟨[],[],[(11,.v 3)]⟩)],c7⟩),(4071,⟨[],[(0,⟨[],[],[(11,.v 3)]⟩)],c7⟩)] f0 Tryz.func137
def X3:FT (Ux L):=kf [] (fc (Uq L) (fc (SX L) f0)) Tryz.func309
def Fo:FT (C49 L):=kf [(12,⟨[],[(0,⟨[],[],[(20,.v 4)]⟩)],c7⟩)] (fc (K3 L) (fc (X3 L) f0)) Tryz.func276
def K50:FT (C50 L):=kf [] f0 Tryz.func218
def YO:FT (Xk L):=kf [(6,⟨[],[(0,⟨[],[],[(27,.v 4)]⟩)],c7⟩)] (fc (K50 L) f0) xv
def OM:FT (C53 L):=kf [(14,⟨[],[(2,⟨[(0,true,.aap 3 22),(1,true,.box 22 [.r 0]),(2,true,.box 4 [.v 4])],[],[]⟩)],c6 ⟨[(0,true,.aap 3 22),(1,true,.box 22 [.r 0]),(2,true,.box 4 [.v 4])],[],[(16,.v 3)]⟩⟩),(3686,⟨[],[(4,⟨[(0,true,.aap 3 22),(1,true,.box 22 [.r 0]),(2,true,.box 4 [.v 4])],[],[]⟩)],c6 ⟨[(0,true,.aap 3 22),(1,true,.box 22 [.r 0]),(2,true,.box 4 [.v 4])],[],[(22,.v 3)]⟩⟩),(1887437,⟨[],[(0,⟨[],[],[(10,.v 3),(11,.v 3)]⟩)],c7⟩),(3774878,⟨[],[(0,⟨[],[],[(44,.v 4)]⟩)],c7⟩),(3774879,⟨[],[(0,⟨[(0,true,.aap 3 22),(1,true,.box 22 [.r 0]),(2,true,.box 4 [.v 4])],[],[]⟩)],c7⟩)] (fc (Fo L) (fc (YO L) f0)) xx
def QF:FT (Up L):=kf [(58,⟨[],[(2,⟨[(3,true,.aap 3 22),(4,true,.box 22 [.r 3]),(5,false,.dead)],[],[]⟩)],c6 ⟨[(3,true,.aap 3 22),(4,true,.box 22 [.r 3]),(5,false,.dead)],[(10,[],.box 4 [.v 4])],[(10,.p 6)]⟩⟩)] (fc (oH L) (fc (OM L) f0)) q6
def Cy:FT (C55 L):=kf [(58,⟨[],[(2,⟨[(3,true,.aap 3 22),(4,true,.box 22 [.r 3]),(5,false,.dead)],[],[]⟩)],c6 ⟨[(3,true,.aap 3 22),(4,true,.box 22 [.r 3]),(5,false,.dead)],[(10,[],.box 4 [.v 4])],[(10,.p 6)]⟩⟩)] (fc (oH L) (fc (OM L) f0)) q6
def K56:FT (C56 L):=kf [] (fc (K3 L) (fc (K5 L) (fc (RR L) (fc (Cy L) f0)))) Tryz.func150
def K57:FT (C57 L):=kf [(24,⟨[],[(0,⟨[],[],[(15,.v 4)]⟩)],c7⟩),(62,⟨[1],[],c7⟩),(122,⟨[],[(1,⟨[(1,true,.box 46 [.v 44]),(2,false,.dead)],[],[(9,.v 67)]⟩),(3,⟨[(2,true,.box 140 [.v 22,.v 138])],[],[]⟩)],c6 ⟨[(2,true,.box 140 [.v 22,.r 3])],[(100002,[1],.aap 142 138)],[(43,.v 3)]⟩⟩),(31335,⟨[3],[],c7⟩)] (fc (K3 L) (fc (K5 L) (fc (PY L) (fc (iY L) (fc (K56 L) f0))))) Tryz.func89
def K58:FT (C58 L):=kf [(6,⟨[0,2],[],c7⟩)] (fc (K31 L) f0) Tryz.func90
def K59:FT (C59 L):=kf [] (fc (K5 L) f0) Tryz.func152
def UI:FT (C60 L):=kf [(26,⟨[],[(1,⟨[],[],[(4,.v 3)]⟩),(2,⟨[],[],[]⟩)],c6 ⟨[],[],[(8,.v 3)]⟩⟩)] (fc (K59 L) f0) ee
def K61:FT (C61 L):=kf [] (fc (UI L) f0) ez
def MB:FT (C62 L):=kf [] (fc (K5 L) (fc (Fo L) f0)) Tryz.func222
def K63:FT (X9 L):=kf [] (fc (K5 L) (fc (MB L) f0)) Tryz.func155
def K64:FT (C64 L):=kf [] (fc (K63 L) f0) Tryz.func154
def K65:FT (C65 L):=kf [(26,⟨[],[(1,⟨[],[],[(4,.v 3)]⟩),(2,⟨[],[],[]⟩)],c6 ⟨[],[],[(8,.v 3)]⟩⟩)] (fc (K64 L) f0) q7
def K66:FT (C66 L):=kf [] (fc (K65 L) f0) q8
def xC:FT (Kf L):=kf [(28,⟨[],[(0,⟨[],[],[(62,.v 4)]⟩)],c7⟩),(122,⟨[],[(1,⟨[],[],[(2,.b false)]⟩),(2,⟨[],[],[]⟩)],c6 ⟨[],[],[(66,.v 3)]⟩⟩),(31332,⟨[],[(0,⟨[],[],[(111,.v 4)]⟩)],c7⟩)] (fc (K9 L) (fc (K5 L) (fc (RX L) (fc (K61 L) (fc (K66 L) f0))))) Tryz.func92
def K68:FT (Xw L):=kf [(12,⟨[],[(0,⟨[],[],[(16,.v 4)]⟩)],c7⟩)] f0 Tryz.func159
def RP:FT (C70 L):=kf [(506,⟨[],[(2,⟨[(2,true,.box 35 (abx amj [(3,.r 3)]))],[],[]⟩)],c6 ⟨[(2,true,.box 35 (abx amj [(3,.r 3),(5,.r 4)]))],[(100002,[5],.aap 120 32)],[(31,.v 3)]⟩⟩),(4090,⟨[],[(4,⟨[(2,true,.box 35 (abx amj [(3,.r 3)]))],[],[]⟩)],c6 ⟨[(2,true,.box 35 (abx amj [(3,.r 3),(8,.r 4)]))],[(100002,[8],.aap 22 33)],[(58,.v 3)]⟩⟩),(64819,⟨[3],[],c7⟩),(261785,⟨[4],[],c7⟩)] (fc (oh L) (fc (sP L) (fc (O8 L) (fc (iY L) f0)))) j4
def zh:FT (C71 L):=kf [(250,⟨[],[(3,⟨[(2,true,.aap 88 31)],[],[]⟩)],c6 ⟨[(2,true,.aap 88 31)],[],[(36,.v 3)]⟩⟩),(4006,⟨[],[(0,⟨[(2,true,.aap 88 31)],[],[]⟩)],c7⟩),(256411,⟨[],[(0,⟨[(4,true,.box 88 (alh [3,3,3]))],[],[]⟩)],c7⟩)] (fc (xC L) (fc (K5 L) (fc (RP L) (fc (K68 L) f0)))) Tryz.func95
def SU:FT (C73 L):=kf [(58,⟨[],[(2,⟨[],[],[(3,.v 41)]⟩)],c6 ⟨[],[(3,[],.aap 101 41)],[(3,.r 0),(8,.v 3)]⟩⟩),(7475,⟨[2],[],c7⟩)] (fc (iY L) f0) y0
def Xr:FT (Xj L):=kf [(58,⟨[],[(2,⟨[(2,true,.box 140 [.v 22,.v 138])],[],[]⟩)],c6 ⟨[(2,true,.box 140 [.v 22,.r 3])],[(100002,[1],.aap 142 138)],[(13,.v 3)]⟩⟩),(3737,⟨[8],[],c7⟩)] (fc (iY L) f0) qa
def Hc:FT (C75 L):=kf [(58,⟨[],[(2,⟨[(2,true,.box 46 [.v 44])],[],[]⟩)],c6 ⟨[(2,true,.box 46 [.r 3])],[(100002,[0],.aap 140 44)],[(9,.v 3)]⟩⟩),(3737,⟨[4],[],c7⟩)] (fc (Xr L) f0) Tryz.func101
def NB:FT (C77 L):=kf [(262138,⟨[],[(2,⟨[(2,true,.box 56 amv)],[],[]⟩)],c6 ⟨[(2,true,.box 56 (abx amv [(35,.r 3)]))],[(100002,[35],.aap 83 54)],[(104,.v 3)]⟩⟩),(33553715,⟨[3],[],c7⟩)] (fc (zh L) (fc (oh L) (fc (sP L) (fc (G7 L) (fc (iY L) (fc (SU L) (fc (Hc L) (fc (IE L) f0)))))))) s5
def Py:FT (C78 L):=kf [(122,⟨[],[(0,⟨[],[],[(70,.v 4)]⟩)],c7⟩),(2046,⟨[7],[],c7⟩)] (fc (K24 L) (fc (UT L) (fc (KB L) (fc (vO L) (fc (K41 L) (fc (K43 L) (fc (K57 L) (fc (K58 L) (fc (NB L) f0))))))))) Tryz.func36
def K79:FT (C79 L):=kf [] (fc (K5 L) f0) Tryz.func157
def K80:FT (C80 L):=kf [(26,⟨[],[(1,⟨[],[],[(4,.v 3)]⟩),(2,⟨[],[],[]⟩)],c6 ⟨[],[],[(8,.v 3)]⟩⟩)] (fc (K79 L) f0) ee
def K81:FT (C81 L):=kf [] (fc (K80 L) f0) ez
def K82:FT (C82 L):=kf [] f0 Tryz.func224
def K83:FT (Z5 L):=kf [(26,⟨[],[(1,⟨[],[],[(4,.v 3)]⟩),(2,⟨[],[],[]⟩)],c6 ⟨[],[],[(8,.v 3)]⟩⟩)] (fc (K82 L) f0) ee
def K84:FT (C84 L):=kf [] (fc (K83 L) f0) ez
def Mo:FT (Wg L):=kf [] (fc (K84 L) f0) Tryz.func158
def sA:FT (C86 L):=kf [] (fc (OS L) (fc (K81 L) (fc (Mo L) f0))) Tryz.func94
def K87:FT (C87 L):=kf [] (fc (xC L) (fc (K3 L) (fc (sA L) f0))) Tryz.func43
def Ps:FT (C89 L):=kf [(58,⟨[],[(2,⟨[],[(3,[],.aap 3 22)],[(3,.r 1)]⟩)],c6 ⟨[],[(3,[],.aap 3 22)],[(3,.r 1),(9,.v 3)]⟩⟩),(7474,⟨[],[(0,⟨[],[],[(26,.v 4)]⟩)],c7⟩),(7475,⟨[],[(0,⟨[(1,false,.aap 3 22)],[],[(3,.r 1)]⟩)],c7⟩),(14950,⟨[2],[],c7⟩)] (fc (D5 L) f0) Tryz.func161
def Hj:FT (C90 L):=kf [(26,⟨[],[(1,⟨[],[],[(4,.v 3)]⟩),(2,⟨[],[],[]⟩)],c6 ⟨[],[],[(8,.v 3)]⟩⟩)] f0 Tryz.func136
def jP:FT (Fz L):=kf [] (fc (Hj L) f0) Tryz.func76
def K94:FT (nD L):=ae3 L (xC L) (K5 L) (jP L)
def Ru:FT (lT L):=kf [(58,⟨[],[(1,⟨[],[],[(4,.i .i64 19)]⟩),(2,⟨[],[],[]⟩)],c6 ⟨[],[],[(12,.v 3)]⟩⟩)] (fc (xC L) (fc (K5 L) f0)) Tryz.func226
def aiW:FT (mG L):=KS L (Ru L)
def K93:FT (C93 L):=kf [(12,⟨[2],[],c7⟩)] (fc (Ru L) (fc (MB L) (fc (K5 L) (fc (RP L) f0)))) Tryz.func162
def Wv:FT (C95 L):=kf [(58,⟨[],[(2,⟨[],[(3,[],.aap 101 41)],[(3,.r 0)]⟩)],c6 ⟨[],[(3,[],.aap 101 41)],[(3,.r 0),(8,.v 3)]⟩⟩),(7475,⟨[2],[],c7⟩)] (fc (iY L) f0) y0
def vf:FT (JX L):=kf [] (fc (K5 L) (fc (K4 L) f0)) z7
def ZZ:FT (C97 L):=kf [(26,⟨[],[(2,⟨[(0,false,.aap 5 95)],[],[(0,.r 0)]⟩)],c6 ⟨[(0,false,.aap 5 95)],[],[(0,.r 0),(7,.v 3)]⟩⟩),(420,⟨[7],[],c7⟩)] f0 Tryz.func79
def Xd:FT (C98 L):=kf [(62,⟨[5],[],c7⟩),(506,⟨[],[(2,⟨[(3,false,.dead)],[],[(4,.v 95)]⟩)],c6 ⟨[(3,false,.dead)],[(4,[],.aap 5 95)],[(4,.r 4),(30,.v 3)]⟩⟩)] (fc (vf L) (fc (ZZ L) f0)) Tryz.func30
def K99:FT (Ks L):=kf [(58,⟨[],[(2,⟨[],[],[(3,.v 179)]⟩)],c6 ⟨[],[],[(3,.v 179),(8,.v 3)]⟩⟩)] f0 Tryz.func81
def aaH:FT (H7 L):=kf [] f0 Tryz.func82
def afL:FT (kq L):=Yb L (K5 L) (vf L) (K99 L) (aaH L)
def akD:FT (Xc L):=kf [] (fc (K5 L) f0) Tryz.func279
def aiq:FT (adu L):=kf [(26,⟨[],[(1,⟨[],[],[(4,.v 3)]⟩),(2,⟨[],[],[]⟩)],c6 ⟨[],[],[(8,.v 3)]⟩⟩)] (fc (akD L) f0) ee
def ano:FT (ai3 L):=kf [] (fc (aiq L) f0) ez
def ald:FT (Z9 L):=kf [] (fc (K5 L) f0) Tryz.func280
def aqh:FT (afS L):=kf [(26,⟨[],[(1,⟨[],[],[(4,.v 3)]⟩),(2,⟨[],[],[]⟩)],c6 ⟨[],[],[(8,.v 3)]⟩⟩)] (fc (ald L) f0) ee
def an2:FT (aln L):=kf [] (fc (aqh L) f0) ez
def WK:FT (Uu L):=kf [(6,⟨[19],[],c7⟩)] (fc (ano L) (fc (an2 L) f0)) Tryz.func227
def acy:FT (aif L):=kf [(124,⟨[],[(0,⟨[],[],[(40,.v 4)]⟩)],c7⟩)] (fc (WK L) (fc (vf L) (fc (oH L) f0))) Tryz.func164
def aac:FT (anP L):=kf [(506,⟨[],[(2,⟨[],[],[(7,.v 247)]⟩)],c6 ⟨[],[(7,[],.aap 251 247)],[(7,.r 1),(27,.v 3)]⟩⟩),(32409,⟨[14],[],c7⟩)] (fc (vf L) f0) Tryz.func165
def mI:FT (acZ L):=kf [] f0 Tryz.func169
def Bs:FT (IP L):=kf [(58,⟨[],[(1,⟨[],[],[(4,.b false)]⟩),(2,⟨[],[],[]⟩)],c6 ⟨[],[],[(13,.v 3)]⟩⟩)] f0 Tryz.func196
def ah5:FT (ZA L):=kf [] (fc (K5 L) f0) Tryz.func336
def amW:FT (afj L):=kf [(26,⟨[],[(1,⟨[],[],[(4,.v 3)]⟩),(2,⟨[],[],[]⟩)],c6 ⟨[],[],[(8,.v 3)]⟩⟩)] (fc (ah5 L) f0) ee
def akT:FT (akW L):=kf [] (fc (amW L) f0) ez
def KO:FT (ab7 L):=kf [] (fc (K5 L) (fc (akT L) f0)) Tryz.func323
def Sw:FT (ahK L):=kf [] (fc (K3 L) (fc (KO L) (fc (QF L) (fc (Bs L) f0)))) Tryz.func290
def Wl:FT (ane L):=kf [] (fc (Sw L) f0) Tryz.func289
def aqy:FT (WA L):=kf [(26,⟨[],[(1,⟨[],[],[(4,.v 3)]⟩),(2,⟨[],[],[]⟩)],c6 ⟨[],[],[(8,.v 3)]⟩⟩)] (fc (Wl L) f0) y1
def ZM:FT (aiv L):=kf [] (fc (aqy L) f0) y2
def aeY:FT (ZD L):=kf [] f0 Tryz.func307
def Og:FT (afm L):=kf [] (fc (aeY L) f0) Tryz.func266
def Qb:FT (akZ L):=kf [(26,⟨[],[(1,⟨[],[],[(4,.v 3)]⟩),(2,⟨[],[],[]⟩)],c6 ⟨[],[],[(11,.v 3)]⟩⟩)] (fc (Og L) f0) Tryz.func288
def wY:FT (aca L):=kf [(12,⟨[],[(0,⟨[],[],[(17,.v 4)]⟩)],c7⟩),(122,⟨[],[(1,⟨[],[],[(4,.b false)]⟩),(2,⟨[],[],[]⟩)],c6 ⟨[],[],[(28,.v 3)]⟩⟩),(31332,⟨[],[(0,⟨[],[],[(33,.v 4)]⟩)],c7⟩),(501342,⟨[],[(0,⟨[],[],[(62,.v 4)]⟩)],c7⟩)] (fc (K3 L) (fc (K5 L) (fc (HI L) (fc (Iv L) (fc (PY L) (fc (Bs L) (fc (Qb L) (fc (ZM L) f0)))))))) Tryz.func235
def Rb:FT (ahM L):=kf [(24,⟨[],[(0,⟨[],[],[(11,.v 4)]⟩)],c7⟩),(102,⟨[],[(0,⟨[],[],[(30,.v 4)]⟩)],c7⟩)] (fc (Sw L) (fc (K4 L) (fc (K5 L) f0))) Tryz.func281
def aii:FT (ani L):=kf [(250,⟨[],[(2,⟨[(3,true,.aap 3 22)],[],[(14,.v 4)]⟩)],c6 ⟨[(3,true,.aap 3 22)],[],[(14,.v 4),(36,.v 3)]⟩⟩),(32051,⟨[],[(0,⟨[(3,true,.aap 3 22)],[],[(14,.v 4)]⟩)],c7⟩)] (fc (Rb L) (fc (RR L) (fc (Cy L) f0))) Tryz.func230
def yz:FT (HG L):=kf [(58,⟨[],[(2,⟨[(2,true,.box 140 [.v 22,.r 3])],[(100002,[1],.aap 142 138)],[]⟩)],c6 ⟨[(2,true,.box 140 [.v 22,.r 3])],[(100002,[1],.aap 142 138)],[(13,.v 3)]⟩⟩),(3737,⟨[8],[],c7⟩)] (fc (iY L) f0) qa
def VK:FT (aj2 L):=kf [] (fc (aii L) f0) Tryz.func229
def ap7:FT (apN L):=kf [(250,⟨[],[(1,⟨[(0,true,.box 30 [.v 27,.v 28]),(1,true,.box 22 [.v 22]),(2,true,.box 3 [.v 3]),(3,true,.box 3 [.v 3]),(6,true,.box 46 [.v 44]),(7,false,.dead)],[],[(9,.v 67)]⟩),(2,⟨[(0,true,.box 30 [.v 27,.v 28]),(1,true,.box 22 [.v 22]),(2,true,.box 3 [.v 3]),(3,true,.box 3 [.v 3]),(7,true,.box 46 [.v 44])],[],[]⟩)],c6 ⟨[(0,true,.box 30 [.v 27,.v 28]),(1,true,.box 22 [.v 22]),(2,true,.box 3 [.v 3]),(3,true,.box 3 [.v 3]),(7,true,.box 46 [.r 8])],[(100007,[0],.aap 140 44)],[(34,.v 3)]⟩⟩),(4006,⟨[],[(0,⟨[(0,true,.box 30 [.v 27,.v 28]),(1,true,.box 22 [.v 22]),(2,true,.box 3 [.v 3]),(3,true,.box 3 [.v 3]),(7,true,.box 46 [.r 8]),(8,false,.aap 140 44)],[],[]⟩),(1,⟨[(0,true,.box 30 [.v 27,.v 28]),(1,true,.box 22 [.v 22]),(2,true,.box 3 [.v 3]),(3,true,.box 3 [.v 3]),(6,true,.box 46 [.v 44])],[],[(9,.v 67)]⟩)],c7⟩),(256414,⟨[],[(0,⟨[(10,false,.dead),(11,true,.box 140 [.v 22,.v 138])],[],[]⟩),(1,⟨[(6,true,.box 46 [.v 44]),(10,false,.dead),(11,false,.dead)],[],[(9,.v 67)]⟩),(3,⟨[(10,false,.dead),(11,false,.dead)],[],[]⟩)],c7⟩),(256415,⟨[3],[],c7⟩),(4102633,⟨[],[(0,⟨[],[],[(55,.v 4)]⟩)],c7⟩),(32821087,⟨[],[(0,⟨[(10,true,.aap 142 138)],[],[]⟩)],c7⟩)] (fc (wY L) (fc (jP L) (fc (Hj L) (fc (yz L) (fc (VK L) f0))))) y3
def Zr:FT (ZF L):=kf [] (fc (ap7 L) f0) Tryz.func168
def zQ:FT (aki L):=kf [] f0 Tryz.func173
def aci:FT (acb L):=kf [(122,⟨[],[(3,⟨[(2,true,.aap 115 28)],[],[]⟩)],c6 ⟨[(2,true,.aap 115 28)],[],[(32,.v 3)]⟩⟩)] (fc (K3 L) (fc (K4 L) (fc (oh L) (fc (yo L) f0)))) y4
def ahh:FT (apu L):=kf [(122,⟨[],[(3,⟨[(3,true,.aap 115 28)],[],[]⟩)],c6 ⟨[(3,true,.aap 115 28)],[],[(32,.v 3)]⟩⟩)] (fc (K3 L) (fc (K4 L) (fc (akq L) (fc (yo L) f0)))) y4
def Ch:FT (aez L):=kf [] (fc (ahh L) f0) Tryz.func174
def ajX:FT (Uz L):=kf [] (fc (vf L) f0) Tryz.func283
def ahU:FT (abd L):=kf [(26,⟨[],[(1,⟨[],[],[(4,.v 3)]⟩),(2,⟨[],[],[]⟩)],c6 ⟨[],[],[(8,.v 3)]⟩⟩)] (fc (ajX L) f0) Tryz.func321
def amJ:FT (agV L):=kf [] (fc (ahU L) f0) Tryz.func282
def akJ:FT (Xm L):=kf [(86,⟨[6],[],c7⟩)] f0 y5
def apE:FT (adF L):=kf [] f0 Tryz.func285
def YT:FT (an9 L):=kf [(86,⟨[6],[],c7⟩)] f0 y5
def V9:FT (X2 L):=kf [(414,⟨[],[(0,⟨[],[],[(24,.v 4)]⟩)],c7⟩),(510,⟨[1],[],c7⟩),(1018,⟨[],[(3,⟨[(0,true,.box 3 [.v 3]),(1,true,.box 3 [.v 3]),(2,true,.box 120 (alh [22,3,3,3])),(3,true,.box 309 [.r 5]),(4,true,.box 41 [.v 41])],[(100003,[0],.aap 312 309)],[]⟩)],c6 ⟨[(0,true,.box 3 [.v 3]),(1,true,.box 3 [.v 3]),(2,true,.box 120 (alh [22,3,3,3])),(3,true,.box 309 [.r 5]),(4,true,.box 41 [.r 6])],[(100003,[0],.aap 312 309),(100004,[0],.aap 101 41)],[(44,.v 3)]⟩⟩),(16294,⟨[],[(0,⟨[(0,true,.box 3 [.v 3]),(1,true,.box 3 [.v 3]),(2,true,.box 120 (alh [22,3,3,3])),(3,true,.box 309 [.r 7]),(4,true,.box 41 [.r 8]),(5,false,.dead),(6,false,.dead)],[(100003,[0],.aap 312 309),(100004,[0],.aap 101 41)],[]⟩)],c7⟩),(521423,⟨[2],[],c7⟩),(2085690,⟨[],[(0,⟨[],[],[(72,.v 4)]⟩)],c7⟩),(2085691,⟨[],[(0,⟨[(0,true,.box 3 [.v 3]),(1,true,.box 3 [.v 3]),(2,true,.box 120 (alh [22,3,3,3])),(3,true,.box 309 [.r 8]),(4,true,.box 41 [.r 9]),(5,false,.dead),(6,false,.dead)],[(100003,[0],.aap 312 309),(100004,[0],.aap 101 41)],[]⟩)],c7⟩)] (fc (amJ L) (fc (K5 L) (fc (jP L) (fc (YT L) (fc (apE L) (fc (akJ L) f0)))))) Tryz.func231
def abW:FT (ad1 L):=kf [] f0 Tryz.func234
def ZC:FT (aqG L):=kf [] (fc (jP L) f0) Tryz.func322
def aeH:FT (aaz L):=kf [(6,⟨[],[(0,⟨[],[],[(27,.v 4)]⟩)],c7⟩)] (fc (ZC L) f0) xv
def acC:FT (agm L):=kf [(14,⟨[],[(2,⟨[(0,true,.aap 3 22),(1,true,.box 22 [.r 0]),(2,true,.box 4 [.v 4])],[],[]⟩)],c6 ⟨[(0,true,.aap 3 22),(1,true,.box 22 [.r 0]),(2,true,.box 4 [.v 4])],[],[(16,.v 3)]⟩⟩),(3686,⟨[],[(4,⟨[(0,true,.aap 3 22),(1,true,.box 22 [.r 0]),(2,true,.box 4 [.v 4])],[],[]⟩)],c6 ⟨[(0,true,.aap 3 22),(1,true,.box 22 [.r 0]),(2,true,.box 4 [.v 4])],[],[(22,.v 3)]⟩⟩),(1887437,⟨[],[(0,⟨[],[],[(10,.v 3),(11,.v 3)]⟩)],c7⟩),(3774878,⟨[],[(0,⟨[],[],[(44,.v 4)]⟩)],c7⟩),(3774879,⟨[],[(0,⟨[(0,true,.aap 3 22),(1,true,.box 22 [.r 0]),(2,true,.box 4 [.v 4])],[],[]⟩)],c7⟩)] (fc (Fo L) (fc (aeH L) f0)) xx
def ahB:FT (WE L):=kf [(58,⟨[],[(2,⟨[(3,true,.aap 3 22),(4,true,.box 22 [.r 3]),(5,false,.dead)],[],[]⟩)],c6 ⟨[(3,true,.aap 3 22),(4,true,.box 22 [.r 3]),(5,false,.dead)],[(10,[],.box 4 [.v 4])],[(10,.p 6)]⟩⟩)] (fc (oH L) (fc (acC L) f0)) q6
def amf:FT (ac6 L):=kf [(122,⟨[],[(3,⟨[(4,true,.aap 3 22)],[],[]⟩)],c6 ⟨[(4,true,.aap 3 22)],[],[(55,.v 3)]⟩⟩),(126,⟨[4],[],c7⟩)] (fc (Rb L) (fc (K5 L) (fc (oH L) (fc (ahB L) (fc (Cy L) f0))))) Tryz.func287
def akb:FT (aiE L):=kf [] (fc (amf L) f0) Tryz.func286
def ao8:FT (WU L):=kf [(250,⟨[],[(1,⟨[(0,true,.box 30 [.v 27,.v 28]),(1,true,.box 22 [.v 22]),(2,true,.box 3 [.v 3]),(3,true,.box 3 [.v 3]),(4,true,.box 3 [.v 3]),(7,true,.box 46 [.v 44]),(8,false,.dead)],[],[(9,.v 67)]⟩),(2,⟨[(0,true,.box 30 [.v 27,.v 28]),(1,true,.box 22 [.v 22]),(2,true,.box 3 [.v 3]),(3,true,.box 3 [.v 3]),(4,true,.box 3 [.v 3]),(8,true,.box 46 [.v 44])],[],[]⟩)],c6 ⟨[(0,true,.box 30 [.v 27,.v 28]),(1,true,.box 22 [.v 22]),(2,true,.box 3 [.v 3]),(3,true,.box 3 [.v 3]),(4,true,.box 3 [.v 3]),(8,true,.box 46 [.r 9])],[(100008,[0],.aap 140 44)],[(34,.v 3)]⟩⟩),(4006,⟨[],[(0,⟨[(0,true,.box 30 [.v 27,.v 28]),(1,true,.box 22 [.v 22]),(2,true,.box 3 [.v 3]),(3,true,.box 3 [.v 3]),(4,true,.box 3 [.v 3]),(8,true,.box 46 [.r 9]),(9,false,.aap 140 44)],[],[]⟩),(1,⟨[(0,true,.box 30 [.v 27,.v 28]),(1,true,.box 22 [.v 22]),(2,true,.box 3 [.v 3]),(3,true,.box 3 [.v 3]),(4,true,.box 3 [.v 3]),(7,true,.box 46 [.v 44])],[],[(9,.v 67)]⟩)],c7⟩),(256414,⟨[],[(0,⟨[(11,false,.dead),(12,true,.box 140 [.v 22,.v 138])],[],[]⟩),(1,⟨[(7,true,.box 46 [.v 44]),(11,false,.dead),(12,false,.dead)],[],[(9,.v 67)]⟩),(3,⟨[(11,false,.dead),(12,false,.dead)],[],[]⟩)],c7⟩),(256415,⟨[3],[],c7⟩),(4102633,⟨[],[(0,⟨[],[],[(55,.v 4)]⟩)],c7⟩),(32821087,⟨[],[(0,⟨[(11,true,.aap 142 138)],[],[]⟩)],c7⟩)] (fc (wY L) (fc (jP L) (fc (Hj L) (fc (yz L) (fc (akb L) f0))))) y3
def am2:FT (adl L):=kf [] (fc (ao8 L) f0) Tryz.func233
def Vt:FT (Wu L):=kf [] (fc (abW L) (fc (am2 L) f0)) Tryz.func232
def apW:FT (akC L):=kf [] f0 Tryz.func206
def Zf:FT (aqf L):=kf [(58,⟨[],[(2,⟨[],[(5,[],.aap 3 22)],[(5,.r 0)]⟩)],c6 ⟨[],[(5,[],.aap 3 22)],[(5,.r 0),(8,.v 3)]⟩⟩),(7475,⟨[],[(0,⟨[(0,false,.aap 3 22)],[],[(5,.r 0)]⟩)],c7⟩),(14950,⟨[2],[],c7⟩)] (fc (apW L) f0) o6
def HE:FT (ahy L):=kf [] (fc (Zf L) f0) Tryz.func132
def ab9:FT (amV L):=kf [] (fc (jP L) f0) Tryz.func291
def ag4:FT (Wj L):=kf [(26,⟨[],[(1,⟨[],[],[(4,.v 3)]⟩),(2,⟨[],[],[]⟩)],c6 ⟨[],[],[(8,.v 3)]⟩⟩)] (fc (ab9 L) f0) ee
def ae1:FT (ajO L):=kf [] (fc (ag4 L) f0) ez
def ajR:FT (apj L):=kf [] (fc (HE L) (fc (ae1 L) f0)) Tryz.func237
def aoH:FT (Zp L):=kf [(12,⟨[],[(0,⟨[],[],[(13,.v 4)]⟩)],c7⟩)] (fc (iY L) f0) Tryz.func238
def amw:FT (ae9 L):=kf [(58,⟨[],[(2,⟨[(3,true,.box 140 [.r 2,.r 4])],[(100003,[1],.aap 142 138)],[]⟩)],c6 ⟨[(3,true,.box 140 [.r 2,.r 4])],[(100003,[1],.aap 142 138)],[(13,.v 3)]⟩⟩),(3737,⟨[6,8],[],c7⟩)] (fc (oH L) (fc (iY L) f0)) qa
def U1:FT (Hy L):=kf [(122,⟨[],[(2,⟨[(3,true,.box 142 [.v 3,.v 22])],[],[]⟩)],c6 ⟨[(3,true,.box 142 [.v 3,.r 4])],[(100003,[1],.aap 3 22)],[(26,.v 3)]⟩⟩),(7833,⟨[9],[],c7⟩)] f0 Tryz.func295
def apn:FT (ajx L):=kf [] (fc (Qb L) f0) Tryz.func294
def YA:FT (ao7 L):=kf [(6,⟨[],[(2,⟨[(0,true,.aap 140 44)],[],[]⟩)],c6 ⟨[(0,true,.aap 140 44)],[],[(8,.v 3)]⟩⟩),(402,⟨[],[(4,⟨[(0,true,.aap 140 44)],[],[]⟩)],c6 ⟨[(0,true,.aap 140 44)],[],[(9,.v 3)]⟩⟩),(3216,⟨[],[(0,⟨[],[],[(34,.v 4)]⟩)],c7⟩)] (fc (apn L) f0) Tryz.func342
def VS:FT (Zd L):=kf [(28,⟨[],[(2,⟨[(0,true,.aap 140 44)],[],[(7,.v 3)]⟩)],c6 ⟨[(0,true,.aap 140 44)],[],[(7,.v 3),(8,.v 3)]⟩⟩),(62,⟨[],[(4,⟨[],[],[]⟩)],c6 ⟨[],[],[(6,.v 3)]⟩⟩),(3988,⟨[],[(6,⟨[],[],[(7,.i .i64 0)]⟩)],c6 ⟨[],[],[(7,.i .i64 0),(8,.v 3)]⟩⟩)] (fc (YA L) f0) Tryz.func338
def abL:FT (alM L):=kf [] (fc (VS L) f0) Tryz.func325
def agA:FT (adP L):=kf [] (fc (U9 L) f0) Tryz.func324
def aeu:FT (xI L):=kf [] (fc (agA L) (fc (abL L) f0)) Tryz.func292
def QO:FT (uY L):=UK L (Bs L) (U1 L) (yz L) (aeu L)
def ahn:FT (aa5 L):=kf [(120,⟨[],[(0,⟨[],[],[(34,.v 4)]⟩)],c7⟩),(506,⟨[],[(3,⟨[(3,false,.dead)],[],[(13,.v 44)]⟩)],c6 ⟨[(3,false,.aap 140 44)],[],[(13,.r 3),(62,.v 3)]⟩⟩),(8102,⟨[],[(0,⟨[(3,false,.aap 140 44)],[],[(13,.r 3)]⟩)],c7⟩),(518558,⟨[],[(0,⟨[(5,false,.dead),(6,false,.dead),(7,true,.box 140 [.v 22,.v 138])],[],[]⟩)],c7⟩),(518559,⟨[2],[],c7⟩),(2074234,⟨[],[(5,⟨[(6,true,.aap 142 138)],[],[]⟩)],c6 ⟨[(6,true,.aap 142 138)],[],[(102,.v 3)]⟩⟩),(531004007,⟨[],[(0,⟨[(6,true,.aap 142 138)],[],[]⟩)],c7⟩)] (fc (wY L) (fc (K5 L) (fc (apm L) (fc (ajR L) (fc (amw L) (fc (aoH L) (fc (QO L) f0))))))) Tryz.func172
def al4:FT (agN L):=kf [] (fc (K5 L) f0) Tryz.func296
def aj1:FT (Xf L):=kf [(26,⟨[],[(1,⟨[],[],[(4,.v 3)]⟩),(2,⟨[],[],[]⟩)],c6 ⟨[],[],[(8,.v 3)]⟩⟩)] (fc (al4 L) f0) ee
def aoX:FT (ady L):=kf [] (fc (aj1 L) f0) ez
def My:FT (ai6 L):=kf [] (fc (K3 L) (fc (K5 L) (fc (aoX L) f0))) Tryz.func241
def Vg:FT (aag L):=kf [(12,⟨[],[(0,⟨[],[],[(43,.v 4)]⟩)],c7⟩),(28,⟨[],[(0,⟨[],[],[(52,.v 4)]⟩)],c7⟩),(250,⟨[],[(2,⟨[(4,true,.aap 3 22)],[],[]⟩)],c6 ⟨[(4,true,.aap 3 22)],[],[(61,.v 3)]⟩⟩),(506,⟨[],[(4,⟨[(4,true,.aap 3 22)],[],[]⟩)],c6 ⟨[(4,true,.aap 3 22)],[],[(76,.v 3)]⟩⟩),(129636,⟨[],[(0,⟨[],[],[(98,.v 4)]⟩)],c7⟩),(129637,⟨[],[(0,⟨[(4,true,.aap 3 22)],[],[]⟩)],c7⟩),(129638,⟨[],[(0,⟨[],[],[(121,.v 4)]⟩)],c7⟩),(129639,⟨[],[(0,⟨[(4,true,.aap 3 22)],[],[]⟩)],c7⟩)] (fc (Aq L) (fc (My L) (fc (Ja L) (fc (DW L) f0)))) y6
def aa7:FT (aao L):=kf [(14,⟨[0],[],c7⟩),(122,⟨[],[(3,⟨[(2,true,.aap 3 22)],[],[]⟩)],c6 ⟨[(2,true,.aap 3 22)],[],[(40,.v 3)]⟩⟩)] (fc (Aq L) (fc (K4 L) (fc (K5 L) (fc (Ca L) (fc (DW L) f0))))) A3
def YV:FT (agb L):=kf [(26,⟨[],[(1,⟨[],[],[(2,.b false)]⟩),(2,⟨[],[],[]⟩)],c6 ⟨[],[],[(14,.v 3)]⟩⟩),(28,⟨[],[(0,⟨[],[],[(30,.v 4)]⟩)],c7⟩)] (fc (K5 L) f0) Tryz.func204
def ad8:FT (alz L):=kf [(58,⟨[],[(1,⟨[],[],[(2,.v 3)]⟩),(2,⟨[],[],[]⟩)],c6 ⟨[],[],[(8,.v 3)]⟩⟩)] f0 Tryz.func265
def QI:FT (acX L):=kf [(6,⟨[10],[],c7⟩)] (fc (Og L) (fc (ad8 L) f0)) Tryz.func205
def PS:FT (air L):=kf [(58,⟨[],[(1,⟨[],[],[(2,.b false)]⟩),(2,⟨[],[],[]⟩)],c6 ⟨[],[],[(10,.v 3)]⟩⟩),(7474,⟨[],[(0,⟨[],[],[(35,.v 4)]⟩)],c7⟩)] (fc (YV L) (fc (QI L) f0)) Tryz.func131
def alA:FT (an4 L):=kf [(60,⟨[],[(2,⟨[],[],[(9,.v 3)]⟩)],c6 ⟨[],[],[(9,.v 3),(10,.v 3)]⟩⟩),(1931,⟨[],[(0,⟨[],[],[(9,.v 3),(10,.v 3)]⟩)],c7⟩)] (fc (QI L) f0) Tryz.func243
def QV:FT (anE L):=kf [(28,⟨[],[(0,⟨[],[],[(32,.v 4)]⟩)],c7⟩),(124,⟨[],[(0,⟨[],[],[(65,.v 4)]⟩)],c7⟩)] (fc (PS L) (fc (K5 L) (fc (alA L) (fc (anc L) (fc (ail L) f0))))) Tryz.func176
def aoy:FT (acP L):=kf [] f0 Tryz.func177
def amk:FT (ana L):=kf [(26,⟨[],[(1,⟨[],[],[(4,.v 3)]⟩),(2,⟨[],[],[]⟩)],c6 ⟨[],[],[(8,.v 3)]⟩⟩)] (fc (aoy L) f0) q7
def UO:FT (acj L):=kf [] (fc (amk L) f0) q8
def aaI:FT (ahX L):=kf [] (fc (iY L) f0) y7
def Ym:FT (anr L):=kf [(6,⟨[5],[],c7⟩)] (fc (iY L) (fc (oH L) f0)) y7
def BU:FT (aeI L):=kf [(414,⟨[],[(0,⟨[],[],[(25,.v 4)]⟩)],c7⟩)] (fc (sA L) (fc (K5 L) (fc (Ym L) f0))) Tryz.func245
def abr:FT (akc L):=kf [] (fc (BU L) f0) Tryz.func178
def ags:FT (apX L):=kf [] (fc (BU L) f0) Tryz.func179
def aek:FT (ag5 L):=kf [] f0 Tryz.func180
def ai9:FT (amy L):=kf [(26,⟨[],[(1,⟨[],[],[(4,.v 3)]⟩),(2,⟨[],[],[]⟩)],c6 ⟨[],[],[(8,.v 3)]⟩⟩)] (fc (aek L) f0) ee
def an5:FT (VU L):=kf [] (fc (ai9 L) f0) ez
def RQ:FT (acp L):=kf [(102,⟨[],[(0,⟨[],[],[(12,.v 4)]⟩)],c7⟩)] (fc (sA L) (fc (Mo L) (fc (aaI L) f0))) Tryz.func246
def Um:FT (aoY L):=kf [] (fc (RQ L) f0) Tryz.func181
def aoL:FT (YW L):=kf [] f0 Tryz.func249
def Xx:FT (aeR L):=kf [(26,⟨[],[(1,⟨[],[],[(4,.v 3)]⟩),(2,⟨[],[],[]⟩)],c6 ⟨[],[],[(8,.v 3)]⟩⟩)] (fc (aoL L) f0) y1
def U5:FT (UQ L):=kf [] (fc (Xx L) f0) y2
def aaV:FT (abu L):=kf [] (fc (U5 L) f0) Tryz.func247
def afX:FT (ag9 L):=kf [(26,⟨[],[(1,⟨[],[],[(4,.v 3)]⟩),(2,⟨[],[],[]⟩)],c6 ⟨[],[],[(8,.v 3)]⟩⟩)] (fc (aaV L) f0) qb
def adW:FT (Xy L):=kf [] (fc (afX L) f0) s6
def aiN:FT (adY L):=kf [(12,⟨[],[(0,⟨[],[],[(16,.v 4)]⟩)],c7⟩),(28,⟨[],[(0,⟨[],[],[(25,.v 4)]⟩)],c7⟩)] (fc (K3 L) (fc (KO L) (fc (QF L) f0))) y8
def agC:FT (ajq L):=kf [(12,⟨[],[(0,⟨[],[],[(16,.v 4)]⟩)],c7⟩),(28,⟨[],[(0,⟨[],[],[(25,.v 4)]⟩)],c7⟩)] (fc (K3 L) (fc (KO L) (fc (Cy L) f0))) y8
def alq:FT (aaw L):=kf [(6,⟨[0],[],c7⟩),(58,⟨[],[(2,⟨[(3,true,.aap 3 22)],[],[]⟩)],c6 ⟨[(3,true,.aap 3 22)],[],[(20,.v 3)]⟩⟩)] (fc (Ca L) (fc (HE L) (fc (agC L) f0))) Tryz.func250
def aqC:FT (agj L):=kf [(252,⟨[],[(0,⟨[],[],[(44,.v 4)]⟩)],c7⟩),(2042,⟨[],[(1,⟨[(3,true,.box 46 [.v 44])],[],[(9,.v 67)]⟩),(2,⟨[],[],[(13,.v 44)]⟩)],c6 ⟨[],[(13,[],.aap 140 44)],[(13,.r 5),(49,.v 3)]⟩⟩),(522854,⟨[],[(0,⟨[(7,false,.dead),(8,true,.box 140 [.v 22,.v 138])],[],[]⟩),(1,⟨[(3,true,.box 46 [.v 44]),(7,false,.dead),(8,false,.dead)],[],[(9,.v 67)]⟩)],c7⟩),(522855,⟨[2],[],c7⟩),(2091418,⟨[],[(1,⟨[(3,true,.box 46 [.v 44]),(7,false,.dead)],[],[(9,.v 67)]⟩),(4,⟨[(7,true,.aap 142 138)],[],[]⟩)],c6 ⟨[(7,true,.aap 142 138)],[],[(58,.v 3)]⟩⟩)] (fc (wY L) (fc (aci L) (fc (adW L) (fc (yz L) (fc (alq L) (fc (QO L) f0)))))) Tryz.func182
def SK:FT (alE L):=kf [] f0 Tryz.func258
def W0:FT (ac3 L):=kf [] (fc (K5 L) f0) Tryz.func261
def Uy:FT (aiB L):=kf [(26,⟨[],[(1,⟨[],[],[(4,.v 3)]⟩),(2,⟨[],[],[]⟩)],c6 ⟨[],[],[(8,.v 3)]⟩⟩)] (fc (W0 L) f0) ee
def aau:FT (aoa L):=kf [] (fc (Uy L) f0) ez
def MA:FT (X4 L):=kf [(26,⟨[],[(1,⟨[],[],[(4,.b false)]⟩),(2,⟨[],[],[]⟩)],c6 ⟨[],[],[(12,.v 3)]⟩⟩),(6758,⟨[],[(1,⟨[],[],[(4,.b false)]⟩),(4,⟨[],[],[]⟩)],c6 ⟨[],[],[(19,.v 3)]⟩⟩)] (fc (aau L) f0) Tryz.func198
def ado:FT (ak1 L):=kf [] (fc (vO L) (fc (sA L) (fc (MA L) f0))) Tryz.func302
def IN:FT (aqH L):=kf [(414,⟨[],[(0,⟨[],[],[(19,.v 4)]⟩)],c7⟩),(6654,⟨[],[(0,⟨[],[],[(33,.v 4)]⟩)],c7⟩),(26622,⟨[],[(0,⟨[],[],[(49,.v 4)]⟩)],c7⟩)] (fc (vO L) (fc (SK L) (fc (sA L) (fc (ado L) f0)))) Tryz.func251
def agi:FT (aaC L):=kf [] (fc (IN L) f0) Tryz.func183
def ak7:FT (anl L):=kf [(12,⟨[],[(0,⟨[],[],[(14,.v 67)]⟩)],c7⟩)] (fc (IN L) f0) Tryz.func184
def ai1:FT (WH L):=kf [] (fc (IN L) f0) Tryz.func185
def anT:FT (ah3 L):=kf [(506,⟨[],[(2,⟨[(2,true,.box 35 (abx amj [(1,.r 3),(3,.r 4)]))],[],[]⟩)],c6 ⟨[(2,true,.box 35 (abx amj [(1,.r 3),(3,.r 4),(5,.r 5)]))],[(100002,[5],.aap 120 32)],[(31,.v 3)]⟩⟩),(4090,⟨[],[(4,⟨[(2,true,.box 35 (abx amj [(1,.r 3),(3,.r 4)]))],[],[]⟩)],c6 ⟨[(2,true,.box 35 (abx amj [(1,.r 3),(3,.r 4),(8,.r 5)]))],[(100002,[8],.aap 22 33)],[(58,.v 3)]⟩⟩),(64819,⟨[3],[],c7⟩),(261785,⟨[4],[],c7⟩)] (fc (oh L) (fc (yo L) (fc (O8 L) (fc (iY L) f0)))) j4
def RN:FT (anx L):=kf [(102,⟨[],[(0,⟨[],[],[(14,.v 4)]⟩)],c7⟩),(250,⟨[],[(3,⟨[(3,true,.aap 88 31)],[],[]⟩)],c6 ⟨[(3,true,.aap 88 31)],[],[(44,.v 3)]⟩⟩),(32051,⟨[],[(0,⟨[(3,true,.aap 88 31)],[],[]⟩)],c7⟩)] (fc (xC L) (fc (K5 L) (fc (anT L) f0))) Tryz.func186
def Lh:FT (afu L):=kf [(12,⟨[],[(0,⟨[],[],[(26,.v 4)]⟩)],c7⟩),(250,⟨[],[(1,⟨[(2,true,.box 46 [.v 44]),(3,false,.dead)],[],[(7,.v 67)]⟩),(2,⟨[(3,true,.box 46 [.v 44])],[],[(9,.v 67)]⟩)],c6 ⟨[(3,true,.box 46 [.r 4])],[(100003,[0],.aap 140 44)],[(9,.v 67),(31,.v 3)]⟩⟩),(64102,⟨[],[(0,⟨[(6,false,.dead),(7,true,.box 140 [.v 22,.v 138])],[],[(9,.v 67)]⟩),(1,⟨[(2,true,.box 46 [.v 44]),(6,false,.dead),(7,false,.dead)],[],[(7,.v 67)]⟩)],c7⟩),(64103,⟨[3],[],c7⟩),(256410,⟨[],[(1,⟨[(2,true,.box 46 [.v 44]),(6,false,.dead)],[],[(7,.v 67)]⟩),(4,⟨[(6,true,.aap 142 138)],[],[(9,.v 67)]⟩)],c6 ⟨[(6,true,.aap 142 138)],[],[(9,.v 67),(40,.v 3)]⟩⟩),(262564253,⟨[],[(0,⟨[],[],[(9,.v 67)]⟩)],c7⟩)] (fc (K3 L) (fc (K5 L) (fc (yz L) (fc (aiN L) f0)))) Tryz.func252
def Z2:FT (VF L):=kf [(12,⟨[],[(0,⟨[],[],[(43,.v 4)]⟩)],c7⟩),(28,⟨[],[(0,⟨[],[],[(52,.v 4)]⟩)],c7⟩),(250,⟨[],[(2,⟨[(5,true,.aap 3 22)],[],[]⟩)],c6 ⟨[(5,true,.aap 3 22)],[],[(61,.v 3)]⟩⟩),(506,⟨[],[(4,⟨[(5,true,.aap 3 22)],[],[]⟩)],c6 ⟨[(5,true,.aap 3 22)],[],[(76,.v 3)]⟩⟩),(129636,⟨[],[(0,⟨[],[],[(98,.v 4)]⟩)],c7⟩),(129637,⟨[],[(0,⟨[(5,true,.aap 3 22)],[],[]⟩)],c7⟩),(129638,⟨[],[(0,⟨[],[],[(121,.v 4)]⟩)],c7⟩),(129639,⟨[],[(0,⟨[(5,true,.aap 3 22)],[],[]⟩)],c7⟩)] (fc (Aq L) (fc (My L) (fc (Ja L) (fc (DW L) f0)))) y6
def Xl:FT (ach L):=kf [] f0 Tryz.func47
def ac2:FT (ahS L):=kf [(58,⟨[],[(2,⟨[],[(5,[],.aap 3 22)],[(5,.r 0)]⟩)],c6 ⟨[],[(5,[],.aap 3 22)],[(5,.r 0),(8,.v 3)]⟩⟩),(7475,⟨[],[(0,⟨[(0,false,.aap 3 22)],[],[(5,.r 0)]⟩)],c7⟩),(14950,⟨[2],[],c7⟩)] (fc (Xl L) f0) o6
def Nz:FT (YP L):=kf [] (fc (ac2 L) f0) Tryz.func16
def afM:FT (aeF L):=kf [] (fc (jP L) f0) Tryz.func303
def akM:FT (aj8 L):=kf [(26,⟨[],[(1,⟨[],[],[(4,.v 3)]⟩),(2,⟨[],[],[]⟩)],c6 ⟨[],[],[(8,.v 3)]⟩⟩)] (fc (afM L) f0) ee
def aiz:FT (apU L):=kf [] (fc (akM L) f0) ez
def ant:FT (ag1 L):=kf [(230,⟨[],[(0,⟨[],[],[(23,.v 4)]⟩)],c7⟩),(250,⟨[],[(3,⟨[(3,true,.aap 115 28)],[],[]⟩)],c6 ⟨[(3,true,.aap 115 28)],[],[(49,.v 3)]⟩⟩),(506,⟨[],[(5,⟨[(3,true,.aap 115 28)],[],[]⟩)],c6 ⟨[(3,true,.aap 115 28)],[],[(61,.v 3)]⟩⟩)] (fc (K3 L) (fc (K4 L) (fc (aiz L) (fc (oh L) (fc (yo L) f0))))) Tryz.func253
def ali:FT (amt L):=kf [(24,⟨[],[(0,⟨[],[],[(11,.v 4)]⟩)],c7⟩),(102,⟨[],[(0,⟨[],[],[(22,.v 4)]⟩)],c7⟩)] (fc (KB L) (fc (wY L) (fc (K5 L) f0))) Tryz.func254
def aqo:FT (VL L):=kf [] (fc (K5 L) f0) Tryz.func50
def an8:FT (ajl L):=kf [(26,⟨[],[(1,⟨[],[],[(4,.v 3)]⟩),(2,⟨[],[],[]⟩)],c6 ⟨[],[],[(8,.v 3)]⟩⟩)] (fc (aqo L) f0) qb
def WR:FT (aoT L):=kf [] (fc (an8 L) f0) s6
def acI:FT (YS L):=kf [] (fc (WR L) f0) Tryz.func48
def aai:FT (aly L):=kf [(58,⟨[],[(2,⟨[],[(5,[],.aap 3 22)],[(5,.r 0)]⟩)],c6 ⟨[],[(5,[],.aap 3 22)],[(5,.r 0),(8,.v 3)]⟩⟩),(7475,⟨[],[(0,⟨[(0,false,.aap 3 22)],[],[(5,.r 0)]⟩)],c7⟩),(14950,⟨[2],[],c7⟩)] (fc (acI L) f0) o6
def Cm:FT (aib L):=kf [] (fc (aai L) f0) Tryz.func17
def adi:FT (ZV L):=kf [(58,⟨[],[(2,⟨[],[],[(3,.v 3)]⟩)],c6 ⟨[],[],[(3,.v 3),(11,.v 3)]⟩⟩),(250,⟨[],[(4,⟨[(0,false,.aap 3 22)],[],[(6,.r 0)]⟩)],c6 ⟨[(0,false,.aap 3 22)],[],[(6,.r 0),(27,.v 3)]⟩⟩)] (fc (abI L) f0) Tryz.func328
def aia:FT (afF L):=kf [] (fc (KB L) (fc (K5 L) f0)) Tryz.func71
def af3:FT (VX L):=kf [] f0 Tryz.func138
def Rr:FT (acv L):=kf [(12,⟨[],[(0,⟨[],[],[(20,.v 4)]⟩)],c7⟩)] (fc (K3 L) (fc (af3 L) (fc (SX L) f0))) Tryz.func77
def SB:FT (YY L):=kf [] f0 Tryz.func75
def Wr:FT (aeU L):=kf [] f0 Tryz.func259
def aqE:FT (akn L):=kf [(58,⟨[],[(2,⟨[(1,true,.aap 275 272)],[],[]⟩)],c6 ⟨[(1,true,.aap 275 272)],[],[(14,.v 3)]⟩⟩),(122,⟨[],[(4,⟨[(1,true,.aap 275 272)],[],[]⟩)],c6 ⟨[(1,true,.aap 275 272)],[],[(5,.v 4)]⟩⟩),(7475,⟨[],[(0,⟨[(1,true,.aap 275 272)],[],[]⟩)],c7⟩),(7830,⟨[],[(6,⟨[(1,true,.aap 275 272)],[],[(5,.v 4)]⟩)],c6 ⟨[(1,true,.aap 275 272)],[],[(5,.v 4),(32,.v 3)]⟩⟩),(2004582,⟨[],[(0,⟨[],[],[(73,.v 4)]⟩)],c7⟩),(2004583,⟨[],[(0,⟨[(1,true,.aap 275 272)],[],[(5,.v 4)]⟩)],c7⟩)] (fc (SB L) (fc (Wr L) f0)) Tryz.func193
def ZW:FT (ap5 L):=kf [] (fc (SB L) f0) Tryz.func194
def W9:FT (ahe L):=kf [(26,⟨[],[(1,⟨[],[],[(4,.v 3)]⟩),(2,⟨[],[],[]⟩)],c6 ⟨[],[],[(8,.v 3)]⟩⟩)] (fc (ZW L) f0) A4
def acT:FT (amH L):=kf [(250,⟨[],[(2,⟨[(2,false,.aap 3 22),(3,false,.dead)],[(4,[],.aap 3 22)],[(4,.r 4),(6,.r 2)]⟩)],c6 ⟨[(2,false,.aap 3 22),(3,false,.dead)],[(4,[],.aap 3 22),(9,[],.box 3 [.v 3])],[(4,.r 4),(6,.r 2),(9,.p 5)]⟩⟩),(16019,⟨[7,11],[],c7⟩)] (fc (aqE L) (fc (W9 L) f0)) Tryz.func117
def Qg:FT (V6 L):=kf [] (fc (jP L) f0) Tryz.func119
def afD:FT (aju L):=kf [(26,⟨[],[(1,⟨[],[],[(4,.v 3)]⟩),(2,⟨[],[],[]⟩)],c6 ⟨[],[],[(8,.v 3)]⟩⟩)] (fc (Qg L) f0) A4
def aky:FT (ao5 L):=kf [(122,⟨[],[(2,⟨[(0,true,.aap 174 167)],[],[(5,.v 3)]⟩)],c6 ⟨[(0,true,.aap 174 167)],[],[(5,.v 3),(6,.v 3)]⟩⟩),(126,⟨[2],[],c7⟩),(7827,⟨[],[(0,⟨[(0,true,.aap 174 167)],[],[(5,.v 3)]⟩)],c7⟩)] (fc (afD L) (fc (Qg L) f0)) Tryz.func118
def aio:FT (Y7 L):=kf [(58,⟨[],[(2,⟨[(3,true,.aap 4 168)],[],[]⟩)],c6 ⟨[(3,true,.aap 4 168)],[],[(31,.v 3)]⟩⟩),(122,⟨[],[(4,⟨[(3,true,.aap 4 168)],[],[]⟩)],c6 ⟨[(3,true,.aap 4 168)],[],[(46,.v 3)]⟩⟩),(250,⟨[],[(6,⟨[(4,true,.aap 4 168)],[],[]⟩)],c6 ⟨[(4,true,.aap 4 168)],[],[(58,.v 3)]⟩⟩),(506,⟨[],[(8,⟨[(5,true,.box 170 [.v 3,.r 6,.r 3,.r 4])],[(100005,[1],.aap 174 167)],[]⟩)],c6 ⟨[(5,true,.box 170 [.v 3,.r 6,.r 3,.r 4])],[(100005,[1],.aap 174 167)],[(70,.v 3)]⟩⟩),(8102,⟨[],[(0,⟨[(5,true,.box 170 [.v 3,.r 6,.r 3,.r 4]),(6,false,.aap 174 167)],[],[]⟩)],c7⟩),(518555,⟨[],[(0,⟨[(5,true,.box 170 [.v 3,.r 6,.r 3,.r 4]),(6,false,.aap 174 167)],[],[]⟩)],c7⟩),(518559,⟨[],[(0,⟨[(5,true,.box 170 [.v 3,.r 6,.r 3,.r 4]),(6,false,.aap 174 167)],[],[]⟩)],c7⟩),(1037110,⟨[9],[],c7⟩),(1037118,⟨[9],[],c7⟩)] (fc (jP L) (fc (Rr L) f0)) Tryz.func72
def Sr:FT (alI L):=kf [(2042,⟨[],[(2,⟨[(5,true,.aap 4 168)],[],[]⟩)],c6 ⟨[(5,true,.aap 4 168)],[],[(46,.v 3)]⟩⟩)] (fc (aia L) (fc (aio L) (fc (acT L) (fc (aky L) f0)))) Tryz.func52
def VW:FT (UY L):=kf [(58,⟨[],[(2,⟨[],[],[(5,.v 3)]⟩)],c6 ⟨[],[],[(5,.v 3),(11,.v 3)]⟩⟩),(14949,⟨[],[(0,⟨[],[],[(5,.v 3)]⟩)],c7⟩),(14951,⟨[],[(0,⟨[],[],[(5,.v 3)]⟩)],c7⟩)] (fc (Rr L) f0) Tryz.func29
def Tw:FT (abF L):=kf [] (fc (Sr L) (fc (VW L) f0)) Tryz.func203
def M3:FT (aod L):=kf [] (fc (Tw L) f0) Tryz.func305
def WD:FT (X6 L):=kf [(26,⟨[],[(1,⟨[],[],[(4,.v 3)]⟩),(2,⟨[],[],[]⟩)],c6 ⟨[],[],[(8,.v 3)]⟩⟩)] (fc (M3 L) f0) ee
def acu:FT (ad6 L):=kf [(122,⟨[],[(2,⟨[(0,true,.aap 3 22)],[],[(5,.v 3)]⟩)],c6 ⟨[(0,true,.aap 3 22)],[],[(5,.v 3),(6,.v 3)]⟩⟩),(126,⟨[2],[],c7⟩),(7827,⟨[],[(0,⟨[(0,true,.aap 3 22)],[],[(5,.v 3)]⟩)],c7⟩)] (fc (WD L) (fc (M3 L) f0)) y9
def Z8:FT (T9 L):=kf [(58,⟨[],[(1,⟨[(0,false,.aap 3 22)],[],[(2,.r 0)]⟩),(2,⟨[],[],[]⟩)],c6 ⟨[],[],[(3,.v 3)]⟩⟩),(59690,⟨[],[(4,⟨[(0,true,.aap 3 22)],[],[(3,.v 3)]⟩)],c6 ⟨[(0,true,.aap 3 22)],[],[(3,.v 3),(5,.v 3)]⟩⟩),(59694,⟨[2],[],c7⟩),(1910089,⟨[],[(0,⟨[(0,true,.aap 3 22)],[],[(3,.v 3)]⟩)],c7⟩)] f0 Tryz.func329
def afh:FT (aaG L):=kf [(6,⟨[2],[],c7⟩)] (fc (adi L) (fc (D5 L) (fc (Z8 L) f0))) Tryz.func304
def aj4:FT (agr L):=kf [(58,⟨[],[(2,⟨[],[(9,[],.aap 3 22)],[(9,.r 3)]⟩)],c6 ⟨[],[(9,[],.aap 3 22)],[(9,.r 3),(17,.v 3)]⟩⟩)] (fc (Cm L) (fc (afh L) (fc (acu L) f0))) Tryz.func255
def Qn:FT (alL L):=kf [] (fc (jP L) f0) Tryz.func257
def amP:FT (ade L):=kf [(26,⟨[],[(1,⟨[],[],[(4,.v 3)]⟩),(2,⟨[],[],[]⟩)],c6 ⟨[],[],[(8,.v 3)]⟩⟩)] (fc (Qn L) f0) ee
def akQ:FT (aiM L):=kf [(122,⟨[],[(2,⟨[(0,true,.aap 3 22)],[],[(5,.v 3)]⟩)],c6 ⟨[(0,true,.aap 3 22)],[],[(5,.v 3),(6,.v 3)]⟩⟩),(126,⟨[2],[],c7⟩),(7827,⟨[],[(0,⟨[(0,true,.aap 3 22)],[],[(5,.v 3)]⟩)],c7⟩)] (fc (amP L) (fc (Qn L) f0)) y9
def apO:FT (aoh L):=kf [] (fc (ant L) (fc (ali L) (fc (Lh L) (fc (aj4 L) (fc (oH L) (fc (akQ L) f0)))))) Tryz.func188
def afZ:FT (afy L):=kf [(1662,⟨[],[(0,⟨[],[],[(25,.v 4)]⟩)],c7⟩)] (fc (vO L) (fc (SK L) f0)) Tryz.func189
def Wi:FT (ak5 L):=kf [] (fc (RQ L) f0) Tryz.func190
def ab1:FT (Ud L):=kf [] (fc (BU L) f0) Tryz.func191
def ZJ:FT (ahV L):=kf [] (fc (BU L) f0) Tryz.func192
def aeT:FT (V8 L):=kf [(262138,⟨[],[(2,⟨[(2,true,.box 56 (abx amv [(35,.r 3)]))],[(100002,[35],.aap 83 54)],[]⟩)],c6 ⟨[(2,true,.box 56 (abx amv [(35,.r 3)]))],[(100002,[35],.aap 83 54)],[(104,.v 3)]⟩⟩),(33553715,⟨[3],[],c7⟩)] (fc (zh L) (fc (oh L) (fc (sP L) (fc (G7 L) (fc (iY L) (fc (SU L) (fc (Hc L) (fc (IE L) f0)))))))) s5
def acM:FT (afk L):=kf [] (fc (zh L) f0) Tryz.func103
def ahI:FT (apV L):=kf [(262138,⟨[],[(2,⟨[(2,true,.box 56 (abx amv [(19,.r 3),(20,.r 4),(35,.r 5)]))],[(100002,[35],.aap 83 54)],[]⟩)],c6 ⟨[(2,true,.box 56 (abx amv [(19,.r 3),(20,.r 4),(35,.r 5)]))],[(100002,[35],.aap 83 54)],[(104,.v 3)]⟩⟩),(33553715,⟨[3],[],c7⟩)] (fc (zh L) (fc (oh L) (fc (sP L) (fc (G7 L) (fc (iY L) (fc (Wv L) (fc (Hc L) (fc (IE L) f0)))))))) s5
def amm:FT (acQ L):=kf [] (fc (Ps L) (fc (jP L) (fc (K93 L) f0))) Tryz.func104
def akm:FT (VQ L):=kf [] (fc (K94 L) f0) Tryz.func105
def apf:FT (aff L):=kf [] (fc (mI L) (fc (Zr L) f0)) Tryz.func167
def am6:FT (YU L):=kf [(11,⟨[],[(0,⟨[(2,true,.box 133 (abx adU [(19,.r 0),(35,.r 1)]))],[],[]⟩)],c7⟩),(14,⟨[1002],[],c7⟩)] (fc (apf L) (fc (zQ L) (fc (Ch L) f0))) ya
def VC:FT (ahD L):=kf [(11,⟨[],[(0,⟨[(2,true,.box 133 (abx adU [(19,.r 0),(35,.r 1)]))],[],[]⟩)],c7⟩),(14,⟨[1002],[],c7⟩)] (fc (Vt L) (fc (zQ L) (fc (Ch L) f0))) ya
def ap3:FT (abq L):=kf [(60,⟨[],[(0,⟨[],[],[(43,.v 4)]⟩)],c7⟩)] (fc (V9 L) (fc (mI L) (fc (VC L) f0))) Tryz.func170
def Zk:FT (ajT L):=kf [(510,⟨[7],[],c7⟩),(65530,⟨[],[(3,⟨[(0,true,.aap 101 41),(1,true,.aap 83 54),(2,true,.box 133 (abx adU [(19,.r 0),(35,.r 1)])),(3,false,.dead),(4,true,.box 130 [.p 2]),(8,false,.dead)],[],[]⟩)],c6 ⟨[(0,true,.aap 101 41),(1,true,.aap 83 54),(2,true,.box 133 (abx adU [(19,.r 0),(35,.r 1)])),(3,false,.dead),(4,true,.box 130 [.p 2]),(8,true,.box 120 (alh [22,3,3,3]))],[],[(135,.v 3)]⟩⟩),(131066,⟨[],[(5,⟨[(0,true,.aap 101 41),(1,true,.aap 83 54),(2,true,.box 133 (abx adU [(19,.r 0),(35,.r 1)]))],[],[]⟩)],c6 ⟨[(0,true,.aap 101 41),(1,true,.aap 83 54),(2,true,.box 133 (abx adU [(19,.r 0),(35,.r 1)]))],[],[(154,.v 3)]⟩⟩),(4193944,⟨[],[(0,⟨[(3,false,.dead)],[(11,[],.box 251 (alh [3,3,3,3]))],[(11,.p 9)]⟩)],c7⟩),(16776499,⟨[],[(0,⟨[(0,true,.aap 101 41),(1,true,.aap 83 54),(2,true,.box 133 (abx adU [(19,.r 0),(35,.r 1)]))],[],[]⟩)],c7⟩)] (fc (K5 L) (fc (Xd L) (fc (afL L) (fc (acy L) (fc (aac L) (fc (am6 L) (fc (iY L) (fc (jP L) (fc (ap3 L) f0))))))))) Tryz.func106
def aen:FT (adV L):=kf [(30,⟨[1002],[],c7⟩),(58,⟨[],[(0,⟨[],[],[(55,.v 4)]⟩)],c7⟩)] (fc (aiW L) (fc (mI L) (fc (ahn L) (fc (zQ L) (fc (Ch L) f0))))) Tryz.func107
def acf:FT (al7 L):=kf [(14,⟨[12],[],c7⟩),(125,⟨[],[(0,⟨[(5,true,.aap 3 22)],[],[]⟩),(1,⟨[],[],[(4,.v 67)]⟩)],c7⟩),(4014,⟨[],[(2,⟨[(5,true,.aap 3 22)],[],[]⟩)],c6 ⟨[(5,true,.aap 3 22)],[],[(89,.v 3)]⟩⟩)] (fc (K5 L) (fc (mI L) (fc (aa7 L) (fc (Vg L) (fc (QV L) f0))))) Tryz.func108
def ahd:FT (agf L):=kf [] (fc (K5 L) (fc (UO L) (fc (abr L) (fc (ags L) (fc (an5 L) (fc (Um L) (fc (mI L) (fc (aqC L) f0)))))))) Tryz.func109
def ae8:FT (aoB L):=kf [] (fc (mI L) (fc (agi L) f0)) Tryz.func110
def ajV:FT (aby L):=kf [] (fc (mI L) (fc (ak7 L) f0)) Tryz.func111
def ahQ:FT (Uo L):=kf [] (fc (mI L) (fc (ai1 L) f0)) Tryz.func112
def Sd:FT (adZ L):=kf [(62,⟨[],[(0,⟨[(3,true,.box 133 (abx adU [(19,.r 0),(20,.r 1),(35,.r 2)])),(4,true,.aap 90 36),(6,false,.dead)],[],[]⟩)],c7⟩),(509,⟨[],[(0,⟨[(3,true,.box 133 (abx adU [(19,.r 0),(20,.r 1),(35,.r 2)]))],[],[]⟩),(1,⟨[(3,true,.box 133 (abx adU [(19,.r 0),(20,.r 1),(35,.r 2)]))],[],[(4,.v 67)]⟩)],c7⟩),(2036,⟨[1002],[],c7⟩)] (fc (VN L) (fc (oh L) (fc (yo L) (fc (mI L) (fc (Lh L) (fc (zQ L) (fc (Ch L) (fc (Z2 L) f0)))))))) Tryz.func187
def U8:FT (W7 L):=kf [] (fc (RN L) (fc (Sd L) f0)) yk
def apA:FT (agl L):=kf [] (fc (RN L) (fc (Sd L) f0)) yk
def YM:FT (Z7 L):=kf [(12,⟨[],[(0,⟨[],[],[(40,.v 4)]⟩)],c7⟩),(254,⟨[13],[],c7⟩),(506,⟨[],[(2,⟨[],[],[(6,.v 22)]⟩)],c6 ⟨[],[(6,[],.aap 3 22)],[(6,.r 6),(62,.v 3)]⟩⟩),(2045,⟨[],[(0,⟨[(3,true,.box 133 (abx adU [(19,.r 0),(20,.r 1),(35,.r 2)]))],[],[]⟩)],c7⟩),(16362,⟨[],[(4,⟨[(3,true,.box 133 (abx adU [(19,.r 0),(20,.r 1),(35,.r 2)]))],[],[]⟩)],c6 ⟨[(3,true,.box 133 (abx adU [(19,.r 0),(20,.r 1),(35,.r 2)]))],[],[(105,.v 3)]⟩⟩),(64819,⟨[],[(0,⟨[(6,false,.aap 3 22)],[],[(6,.r 6)]⟩)],c7⟩),(129638,⟨[3],[],c7⟩),(4188775,⟨[],[(0,⟨[(3,true,.box 133 (abx adU [(19,.r 0),(20,.r 1),(35,.r 2)]))],[],[]⟩)],c7⟩)] (fc (K5 L) (fc (mI L) (fc (Nz L) (fc (apO L) (fc (QV L) (fc (apA L) f0)))))) Tryz.func114
def V5:FT (aiD L):=kf [(29,⟨[],[(0,⟨[(3,true,.box 133 (abx adU [(19,.r 0),(20,.r 1),(35,.r 2)]))],[],[]⟩),(1,⟨[(3,true,.box 133 (abx adU [(19,.r 0),(20,.r 1),(35,.r 2)]))],[],[(4,.v 67)]⟩)],c7⟩),(61,⟨[],[(0,⟨[(3,true,.box 133 (abx adU [(19,.r 0),(20,.r 1),(35,.r 2)]))],[],[]⟩),(1,⟨[(3,true,.box 133 (abx adU [(19,.r 0),(20,.r 1),(35,.r 2)]))],[],[(4,.v 67)]⟩)],c7⟩),(250,⟨[],[(1,⟨[(3,true,.box 133 (abx adU [(19,.r 0),(20,.r 1),(35,.r 2)]))],[],[(4,.v 67)]⟩),(2,⟨[(3,true,.box 133 (abx adU [(19,.r 0),(20,.r 1),(35,.r 2)]))],[],[]⟩)],c6 ⟨[(3,true,.box 133 (abx adU [(19,.r 0),(20,.r 1),(35,.r 2)]))],[],[(73,.v 3)]⟩⟩),(64101,⟨[],[(0,⟨[(3,true,.box 133 (abx adU [(19,.r 0),(20,.r 1),(35,.r 2)]))],[],[]⟩),(1,⟨[(3,true,.box 133 (abx adU [(19,.r 0),(20,.r 1),(35,.r 2)]))],[],[(4,.v 67)]⟩)],c7⟩),(64103,⟨[],[(0,⟨[(3,true,.box 133 (abx adU [(19,.r 0),(20,.r 1),(35,.r 2)]))],[],[]⟩),(1,⟨[(3,true,.box 133 (abx adU [(19,.r 0),(20,.r 1),(35,.r 2)]))],[],[(4,.v 67)]⟩)],c7⟩)] (fc (Ps L) (fc (mI L) (fc (afZ L) (fc (Wi L) (fc (ab1 L) (fc (ZJ L) f0)))))) Tryz.func115
def NW:FT (ZG L):=kf [(507,⟨[],[(0,⟨[(3,true,.aap 101 41),(4,false,.dead),(5,true,.aap 83 54),(6,true,.box 133 (abx adU [(19,.r 3),(35,.r 5)]))],[],[(7,.v 67)]⟩)],c7⟩),(1014,⟨[],[(0,⟨[(3,true,.aap 101 41),(4,false,.dead),(5,true,.aap 83 54),(6,true,.box 133 (abx adU [(19,.r 3),(35,.r 5)]))],[],[(7,.v 67)]⟩)],c7⟩),(1021,⟨[],[(0,⟨[(3,false,.dead),(5,false,.dead),(7,true,.box 56 (abx amv [(35,.r 8)]))],[(100007,[35],.aap 83 54)],[]⟩)],c7⟩),(1022,⟨[12],[],c7⟩),(4084,⟨[1],[],c7⟩),(8171,⟨[],[(0,⟨[(7,true,.box 56 (abx amv [(35,.r 8)]))],[],[]⟩)],c7⟩)] (fc (K87 L) (fc (ahI L) (fc (K88 L) (fc (acM L) (fc (amm L) (fc (akm L) (fc (Zk L) (fc (aen L) (fc (acf L) (fc (ahd L) (fc (ae8 L) (fc (ajV L) (fc (ahQ L) (fc (U8 L) (fc (YM L) (fc (V5 L) (fc (aeT L) f0))))))))))))))))) Tryz.func15
def Zy:FT (afr L):=kf [(26,⟨[],[(2,⟨[(0,true,.box 56 amv)],[],[]⟩)],c6 ⟨[(0,true,.box 56 amv)],[],[(9,.v 3)]⟩⟩)] (fc (NW L) (fc (NB L) f0)) Tryz.func20
def aeE:FT (ak3 L):=kf [(6,⟨[0],[],c7⟩)] f0 Tryz.func65
def ajt:FT (ZY L):=kf [] (fc (Bs L) f0) Tryz.func195
def ahw:FT (akB L):=kf [(26,⟨[],[(1,⟨[],[],[(4,.v 3)]⟩),(2,⟨[],[],[]⟩)],c6 ⟨[],[],[(8,.v 3)]⟩⟩)] (fc (ajt L) f0) qb
def amc:FT (anU L):=kf [] (fc (ahw L) f0) s6
def Q9:FT (afg L):=kf [(26,⟨[],[(1,⟨[],[],[(4,.b false)]⟩),(2,⟨[],[],[]⟩)],c6 ⟨[],[],[(11,.v 3)]⟩⟩)] (fc (Cm L) (fc (jP L) (fc (amc L) f0))) Tryz.func122
def ao4:FT (akN L):=kf [] (fc (Q9 L) f0) Tryz.func121
def Yd:FT (aqp L):=kf [] (fc (Q9 L) f0) Tryz.func123
def Vq:FT (afp L):=kf [] (fc (jP L) f0) Tryz.func260
def abl:FT (ap0 L):=kf [(58,⟨[],[(2,⟨[],[(5,[],.aap 3 22)],[(5,.r 0)]⟩)],c6 ⟨[],[(5,[],.aap 3 22)],[(5,.r 0),(8,.v 3)]⟩⟩),(7475,⟨[],[(0,⟨[(0,false,.aap 3 22)],[],[(5,.r 0)]⟩)],c7⟩),(14950,⟨[2],[],c7⟩)] (fc (Vq L) f0) o6
def MS:FT (aha L):=kf [] (fc (abl L) f0) Tryz.func197
def aee:FT (amC L):=kf [(12,⟨[],[(0,⟨[],[],[(21,.v 4)]⟩)],c7⟩)] (fc (MS L) (fc (MA L) f0)) Tryz.func124
def ab2:FT (abQ L):=kf [] (fc (jP L) f0) Tryz.func199
def ag0:FT (ama L):=kf [(26,⟨[],[(1,⟨[],[],[(4,.v 3)]⟩),(2,⟨[],[],[]⟩)],c6 ⟨[],[],[(8,.v 3)]⟩⟩)] (fc (ab2 L) f0) q7
def alJ:FT (apP L):=kf [] (fc (ag0 L) f0) q8
def ajM:FT (agW L):=kf [] (fc (alJ L) f0) Tryz.func126
def aoE:FT (amn L):=kf [] (fc (ajM L) f0) Tryz.func125
def R7:FT (VE L):=kf [] (fc (jP L) f0) Tryz.func133
def UX:FT (aje L):=kf [(26,⟨[],[(1,⟨[],[],[(4,.v 3)]⟩),(2,⟨[],[],[]⟩)],c6 ⟨[],[],[(8,.v 3)]⟩⟩)] (fc (R7 L) f0) ee
def api:FT (aoP L):=kf [] (fc (UX L) f0) ez
def Yx:FT (YN L):=kf [] (fc (R7 L) f0) Tryz.func134
def adK:FT (alu L):=kf [(26,⟨[],[(1,⟨[],[],[(4,.v 3)]⟩),(2,⟨[],[],[]⟩)],c6 ⟨[],[],[(8,.v 3)]⟩⟩)] (fc (Yx L) f0) ee
def abD:FT (UH L):=kf [] (fc (adK L) f0) ez
def agy:FT (abm L):=kf [(126,⟨[4],[],c7⟩)] (fc (HE L) (fc (api L) (fc (abD L) f0))) Tryz.func69
def aet:FT (anY L):=kf [(58,⟨[],[(2,⟨[(2,true,.box 90 [.v 3,.v 3])],[],[]⟩)],c6 ⟨[(2,true,.box 90 [.v 3,.v 3])],[],[(18,.v 3)]⟩⟩),(59802,⟨[],[(4,⟨[],[],[(10,.v 3),(11,.v 3)]⟩)],c6 ⟨[],[],[(10,.v 3),(11,.v 3),(26,.v 3)]⟩⟩),(59805,⟨[],[(0,⟨[(2,true,.box 90 [.v 3,.v 3])],[],[]⟩)],c7⟩),(30618829,⟨[],[(0,⟨[],[],[(10,.v 3)]⟩)],c7⟩),(30618831,⟨[],[(0,⟨[],[],[(11,.v 3)]⟩)],c7⟩)] (fc (agy L) f0) Tryz.func27
def aji:FT (Xq L):=kf [] (fc (aet L) (fc (MS L) (fc (K5 L) f0))) Tryz.func127
def aoc:FT (adL L):=kf [] f0 Tryz.func264
def alZ:FT (aqr L):=kf [(26,⟨[],[(1,⟨[],[],[(4,.v 3)]⟩),(2,⟨[],[],[]⟩)],c6 ⟨[],[],[(8,.v 3)]⟩⟩)] (fc (aoc L) f0) Tryz.func306
def Us:FT (aal L):=kf [] (fc (alZ L) f0) Tryz.func263
def SZ:FT (aga L):=kf [] (fc (Us L) f0) Tryz.func202
def X5:FT (Ua L):=kf [] (fc (SZ L) f0) Tryz.func201
def Va:FT (afK L):=kf [(26,⟨[],[(1,⟨[],[],[(4,.v 3)]⟩),(2,⟨[],[],[]⟩)],c6 ⟨[],[],[(8,.v 3)]⟩⟩)] (fc (X5 L) f0) Tryz.func262
def aa4:FT (aqg L):=kf [] (fc (Va L) f0) Tryz.func200
def af6:FT (aab L):=kf [] (fc (aa4 L) f0) Tryz.func128
def ad5:FT (afU L):=kf [(28,⟨[],[(0,⟨[],[],[(40,.v 4)]⟩)],c7⟩),(506,⟨[],[(1,⟨[],[],[(2,.b false)]⟩),(2,⟨[],[],[]⟩)],c6 ⟨[],[],[(48,.v 3)]⟩⟩),(129638,⟨[],[(1,⟨[],[],[(2,.b false)]⟩),(4,⟨[],[],[]⟩)],c6 ⟨[],[],[(59,.v 3)]⟩⟩),(16593714,⟨[],[(0,⟨[],[],[(74,.v 4)]⟩)],c7⟩)] (fc (Cm L) (fc (Tw L) (fc (SZ L) f0))) Tryz.func129
def anV:FT (Wk L):=kf [] (fc (PS L) (fc (sA L) (fc (vO L) f0))) Tryz.func130
def agJ:FT (acO L):=kf [(58,⟨[],[(2,⟨[],[],[(3,.v 22)]⟩)],c6 ⟨[],[(3,[],.aap 3 22)],[(3,.r 1),(8,.v 3)]⟩⟩),(7474,⟨[],[(0,⟨[],[],[(16,.v 4)]⟩)],c7⟩),(7475,⟨[],[(0,⟨[(1,false,.aap 3 22)],[],[(3,.r 1)]⟩)],c7⟩),(14950,⟨[3],[],c7⟩)] (fc (aeE L) (fc (ao4 L) (fc (Yd L) (fc (aee L) (fc (aoE L) (fc (aji L) (fc (af6 L) (fc (ad5 L) (fc (anV L) f0))))))))) Tryz.func23
def alw:FT (aih L):=kf [(62,⟨[3,6],[],c7⟩),(126,⟨[1,3,4,5,6,8,10],[],c7⟩),(254,⟨[6],[],c7⟩)] (fc (Py L) (fc (Zy L) (fc (agJ L) f0))) Tryz.func9
def ajw:FT (Zq L):=kf [] f0 Tryz.func10
def aor:FT (afa L):=kf [] f0 Tryz.func19
def oC:FT (akI L):=kf [] (fc (aor L) f0) Tryz.func13
def zn:FT (abV L):=kf [] (fc (oC L) f0) Tryz.func32
def tf:FT (ahA L):=kf [] (fc (oC L) f0) Tryz.func40
def Yf:FT (am1 L):=kf [(61,⟨[],[(0,⟨[],[],[(4,.v 3)]⟩)],c7⟩),(250,⟨[],[(2,⟨[(0,true,.box 122 [.v 22,.v 3]),(2,true,.box 30 [.v 27,.r 3])],[(100002,[1],.aap 115 28)],[]⟩)],c6 ⟨[(0,true,.box 122 [.v 22,.v 3]),(2,true,.box 30 [.r 3,.r 4])],[(100002,[0],.aap 117 27),(100002,[1],.aap 115 28)],[(5,.v 3)]⟩⟩),(1018,⟨[],[(4,⟨[(0,true,.box 122 [.v 22,.v 3]),(2,true,.box 30 [.v 27,.r 3]),(3,false,.aap 115 28)],[],[]⟩)],c6 ⟨[(0,true,.box 122 [.v 22,.v 3]),(2,true,.box 30 [.v 27,.r 3]),(3,false,.aap 115 28)],[],[(7,.v 3)]⟩⟩),(2042,⟨[],[(6,⟨[(0,true,.box 122 [.v 22,.v 3]),(2,true,.box 30 [.v 27,.r 3]),(3,false,.aap 115 28)],[],[]⟩)],c6 ⟨[(0,true,.box 122 [.v 22,.v 3]),(2,true,.box 30 [.v 27,.r 3]),(3,false,.aap 115 28)],[],[(9,.v 3)]⟩⟩),(4004,⟨[12],[(0,⟨[(0,true,.box 122 [.v 22,.v 3]),(2,true,.box 30 [.r 3,.r 4]),(3,false,.aap 117 27)],[],[]⟩)],c7⟩),(16336,⟨[],[(0,⟨[],[],[(83,.v 4)]⟩)],c7⟩),(65170,⟨[9,13],[],c7⟩),(65171,⟨[3],[],c7⟩),(130706,⟨[7,11],[],c7⟩),(522831,⟨[],[(0,⟨[(2,true,.box 30 [.v 27,.r 3]),(3,false,.aap 115 28)],[],[]⟩)],c7⟩),(1045662,⟨[3],[],c7⟩)] (fc (oC L) (fc (zn L) (fc (tf L) f0))) Tryz.func37
def adv:FT (aeh L):=kf [(58,⟨[],[(2,⟨[(0,true,.box 122 [.v 22,.v 3])],[],[(5,.v 22)]⟩)],c6 ⟨[(0,true,.box 122 [.v 22,.v 3])],[(5,[],.aap 3 22)],[(5,.r 1),(6,.v 3)]⟩⟩),(1865,⟨[],[(0,⟨[(1,false,.aap 3 22)],[],[(5,.r 1)]⟩)],c7⟩),(3730,⟨[2],[],c7⟩)] (fc (oC L) f0) Tryz.func24
def abn:FT (ajQ L):=kf [(58,⟨[],[(2,⟨[(0,true,.box 122 [.v 22,.v 3])],[],[(5,.v 32)]⟩)],c6 ⟨[(0,true,.box 122 [.v 22,.v 3])],[(5,[],.aap 120 32)],[(5,.r 2),(6,.v 3)]⟩⟩),(1864,⟨[6,12],[],c7⟩),(3731,⟨[2],[],c7⟩),(7461,⟨[],[(0,⟨[(0,true,.box 122 [.v 22,.v 3]),(3,true,.box 120 (alh [22,3,3,3]))],[],[]⟩)],c7⟩),(14922,⟨[5],[],c7⟩)] (fc (oC L) (fc (adv L) (fc (tf L) f0))) Tryz.func38
def agq:FT (apq L):=kf [(58,⟨[],[(2,⟨[(0,true,.box 122 [.v 22,.v 3])],[],[(5,.v 36)]⟩)],c6 ⟨[(0,true,.box 122 [.v 22,.v 3])],[(5,[],.aap 90 36)],[(5,.r 2),(6,.v 3)]⟩⟩),(1864,⟨[1],[],c7⟩),(3730,⟨[3,8,12],[],c7⟩),(7463,⟨[],[(0,⟨[(2,true,.aap 90 36)],[],[]⟩)],c7⟩)] (fc (tf L) (fc (zn L) f0)) Tryz.func39
def alb:FT (Zt L):=kf [] f0 Tryz.func275
def ai4:FT (al3 L):=kf [(12,⟨[],[(0,⟨[],[],[(16,.v 4)]⟩)],c7⟩),(58,⟨[],[(1,⟨[],[],[(2,.i .i64 1)]⟩),(2,⟨[],[],[]⟩)],c6 ⟨[],[],[(3,.v 3)]⟩⟩),(122,⟨[],[(1,⟨[],[],[(2,.v 67)]⟩),(4,⟨[],[],[]⟩)],c6 ⟨[],[],[(5,.v 3)]⟩⟩),(3730,⟨[],[(0,⟨[],[],[(35,.v 4)]⟩)],c7⟩),(15652,⟨[],[(0,⟨[],[],[(78,.v 4)]⟩)],c7⟩),(15654,⟨[],[(0,⟨[],[],[(108,.v 4)]⟩)],c7⟩)] (fc (alb L) f0) Tryz.func219
def an1:FT (Vh L):=kf [] f0 Tryz.func220
def alK:FT (abZ L):=kf [(12,⟨[],[(0,⟨[],[],[(48,.v 4)]⟩)],c7⟩),(509,⟨[],[(0,⟨[],[],[(17,.v 3)]⟩)],c7⟩),(1021,⟨[],[(0,⟨[],[],[(17,.v 3)]⟩)],c7⟩)] (fc (ai4 L) (fc (an1 L) f0)) Tryz.func151
def Uk:FT (aox L):=kf [] (fc (alK L) f0) Tryz.func91
def aaa:FT (Yn L):=kf [(26,⟨[],[(1,⟨[],[],[(4,.b true)]⟩),(2,⟨[],[],[]⟩)],c6 ⟨[],[],[(5,.v 3)]⟩⟩)] f0 Tryz.func26
def Xt:FT (ael L):=kf [(58,⟨[],[(2,⟨[],[],[(5,.v 22)]⟩)],c6 ⟨[],[(5,[],.aap 3 22)],[(5,.r 1),(6,.v 3)]⟩⟩),(3730,⟨[],[(0,⟨[],[],[(8,.v 4)]⟩)],c7⟩),(7462,⟨[],[(0,⟨[],[],[(47,.v 4)]⟩)],c7⟩),(7463,⟨[],[(0,⟨[(1,false,.aap 3 22)],[],[(5,.r 1)]⟩)],c7⟩),(14926,⟨[2],[],c7⟩)] (fc (Uk L) (fc (aaa L) f0)) Tryz.func41
def ada:FT (Ul L):=kf [(250,⟨[],[(2,⟨[(0,true,.box 122 [.v 22,.v 3]),(2,true,.box 60 [.v 27,.v 28,.v 32,.v 22,.v 22,.v 36,.v 22,.v 22,.v 22,.i .i64 0,.v 22,.i .i64 0,.i .i64 0,.v 22])],[],[]⟩)],c6 ⟨[(0,true,.box 122 [.v 22,.v 3]),(2,true,.box 60 [.v 27,.v 28,.v 32,.r 3,.r 4,.v 36,.v 22,.v 22,.v 22,.i .i64 0,.v 22,.i .i64 0,.i .i64 0,.v 22])],[(100002,[3],.aap 3 22),(100002,[4],.aap 3 22)],[(5,.v 3)]⟩⟩),(254,⟨[1],[],c7⟩),(1021,⟨[],[(0,⟨[(0,true,.box 122 [.v 22,.v 3]),(2,true,.box 60 [.v 27,.v 28,.v 32,.v 22,.v 22,.v 36,.v 22,.v 22,.v 22,.v 3,.v 22,.i .i64 0,.i .i64 0,.v 22])],[],[]⟩)],c7⟩),(1022,⟨[2,4,8],[],c7⟩),(2042,⟨[3],[],c7⟩),(4004,⟨[5,12],[],c7⟩),(4092,⟨[],[(0,⟨[(0,true,.box 122 [.v 22,.v 3])],[],[(77,.v 4)]⟩)],c7⟩),(4093,⟨[],[(0,⟨[(2,true,.box 60 (alh [27,28,32,22,22,36,22,22,22,3,22,3,3,22]))],[],[]⟩)],c7⟩),(8186,⟨[4],[],c7⟩),(16380,⟨[],[(0,⟨[(0,true,.box 122 [.v 22,.v 3])],[],[(99,.v 4)]⟩)],c7⟩),(32762,⟨[6],[],c7⟩)] (fc (Yf L) (fc (abn L) (fc (oC L) (fc (agq L) (fc (tf L) (fc (zn L) (fc (Xt L) f0))))))) Tryz.func12
def aaR:FT (aaU L):=kf [] (fc (Py L) f0) Tryz.func11
def afT:FT (agD L):=kf [(6,⟨[1],[],c7⟩),(117,⟨[],[(0,⟨[(0,true,.box 122 [.v 22,.v 3]),(2,true,.box 65 (alh [3,3,3,3]))],[],[]⟩)],c7⟩),(234,⟨[1],[],c7⟩),(942,⟨[7],[],c7⟩),(3774,⟨[4,7],[],c7⟩),(120831,⟨[],[(0,⟨[(0,true,.box 122 [.v 22,.v 3]),(2,true,.box 65 [.v 3,.v 3,.v 3,.i .i64 0])],[],[]⟩)],c7⟩),(3866621,⟨[],[(0,⟨[],[],[(82,.v 4)]⟩)],c7⟩),(61865981,⟨[],[(0,⟨[],[],[(95,.v 4)]⟩)],c7⟩)] (fc (tf L) (fc (oC L) f0)) Tryz.func42
def adO:FT (WZ L):=kf [(58,⟨[],[(2,⟨[(0,true,.box 122 [.v 22,.v 3])],[],[(7,.v 62)]⟩)],c6 ⟨[(0,true,.box 122 [.v 22,.v 3])],[(7,[],.aap 65 62)],[(7,.r 2),(8,.v 3)]⟩⟩),(464,⟨[],[(0,⟨[],[],[(21,.v 4)]⟩)],c7⟩),(466,⟨[],[(0,⟨[(0,true,.box 122 [.v 22,.v 3]),(2,false,.aap 65 62)],[],[(7,.r 2)]⟩)],c7⟩),(3731,⟨[25],[],c7⟩),(7460,⟨[],[(0,⟨[(0,true,.box 122 [.v 22,.v 3])],[],[(54,.v 4)]⟩)],c7⟩),(29834,⟨[5],[],c7⟩),(59666,⟨[],[(4,⟨[(2,false,.aap 65 62)],[],[(7,.r 2)]⟩)],c6 ⟨[(2,false,.aap 65 62)],[],[(7,.r 2),(9,.v 3)]⟩⟩),(59690,⟨[3,9,12],[],c7⟩),(954660,⟨[3],[],c7⟩)] (fc (oC L) (fc (zn L) (fc (tf L) (fc (afT L) f0)))) Tryz.func14
def aqc:FT (arE L):=kf [(58,⟨[],[(1,⟨[],[],[(4,.b false)]⟩),(2,⟨[],[],[]⟩)],c6 ⟨[],[],[(5,.v 3)]⟩⟩)] f0 Tryz.func57
def asA:FT (arZ L):=kf [] (fc (aqc L) f0) Tryz.func35
def ajd:FT (asQ L):=kf [(58,⟨[],[(2,⟨[],[],[(3,.v 3)]⟩)],c6 ⟨[],[],[(3,.v 3),(10,.v 3)]⟩⟩),(14950,⟨[],[(4,⟨[],[],[(3,.v 3)]⟩)],c6 ⟨[],[],[(3,.v 3),(6,.v 3)]⟩⟩),(1913639,⟨[],[(0,⟨[],[],[(3,.v 3)]⟩)],c7⟩)] f0 Tryz.func80
def alF:FT (ao1 L):=kf [(12,⟨[],[(0,⟨[],[],[(23,.v 4)]⟩)],c7⟩),(126,⟨[6],[],c7⟩)] (fc (ajd L) f0) Tryz.func31
def asR:FT (arm L):=kf [(124,⟨[],[(2,⟨[(2,false,.dead)],[],[(6,.v 95),(7,.v 107),(8,.v 3)]⟩)],c6 ⟨[(2,false,.dead)],[(7,[],.aap 97 107)],[(6,.v 95),(7,.r 3),(8,.v 3)]⟩⟩),(126,⟨[1],[],c7⟩),(497,⟨[],[(0,⟨[(3,false,.aap 97 107)],[],[(6,.v 95),(7,.r 3),(8,.v 3)]⟩),(2,⟨[],[],[(6,.v 95),(7,.r 3),(8,.v 3)]⟩)],c7⟩),(3976,⟨[],[(0,⟨[],[],[(35,.v 4)]⟩)],c7⟩),(7956,⟨[],[(0,⟨[],[],[(52,.v 4)]⟩)],c7⟩),(31838,⟨[13,15],[],c7⟩)] (fc (ajd L) f0) Tryz.func33
def aoD:FT (agO L):=kf [(12,⟨[],[(0,⟨[],[],[(31,.v 4)]⟩)],c7⟩),(2042,⟨[],[(1,⟨[(0,false,.dead)],[],[(4,.b false)]⟩),(2,⟨[(0,true,.box 122 [.v 22,.v 3])],[],[(8,.v 95)]⟩)],c6 ⟨[(0,true,.box 122 [.v 22,.v 3])],[(8,[],.aap 5 95)],[(8,.r 2),(9,.v 3)]⟩⟩),(131066,⟨[],[(1,⟨[],[],[(4,.b false)]⟩),(6,⟨[],[],[]⟩)],c6 ⟨[],[],[(20,.v 3)]⟩⟩),(262138,⟨[],[(1,⟨[],[],[(4,.b false)]⟩),(8,⟨[],[],[]⟩)],c6 ⟨[],[],[(23,.v 3)]⟩⟩),(522828,⟨[],[(0,⟨[],[],[(74,.v 4)]⟩)],c7⟩),(2091322,⟨[],[(4,⟨[(0,true,.box 122 [.v 22,.v 3]),(2,false,.aap 5 95)],[],[(8,.r 2)]⟩)],c6 ⟨[(0,true,.box 122 [.v 22,.v 3]),(2,false,.aap 5 95)],[],[(8,.r 2),(14,.v 3)]⟩⟩),(8388242,⟨[],[(0,⟨[],[],[(156,.v 4)]⟩)],c7⟩),(16730576,⟨[],[(0,⟨[(0,true,.box 122 [.v 22,.v 3])],[],[(82,.v 4)]⟩)],c7⟩),(66922313,⟨[],[(0,⟨[(2,false,.aap 5 95)],[],[(8,.r 2)]⟩)],c7⟩),(133844626,⟨[5],[],c7⟩)] (fc (K0 L) (fc (alw L) (fc (ajw L) (fc (ada L) (fc (aaR L) (fc (adO L) (fc (Zy L) (fc (Xd L) (fc (alF L) (fc (zn L) (fc (oC L) (fc (asR L) (fc (afL L) (fc (asA L) (fc (Cm L) (fc (aaa L) f0)))))))))))))))) Tryz.func7
end Go.X.T
namespace Go.X.T
open Go Go.Aml
def ae2{a:Int}(b: -9223372036854775808<=a)(c:a<=9223372036854775807):c3 c4 a=a:=by
 rw[h8];omega
def aoI{a:Int}(b:0<=a)(c:a<=255):Kr.wrap a=a:=by
 unfold yl;simp[yn,u0];omega
def U3{a:Int}(b:0<=a)(c:a<=18446744073709551615):E3.wrap a=a:=by
 unfold yl;simp[yn,u0];omega
def Ok{a:Type}(c:Option a)(Q:a->Prop):Prop:=∃b,c=c6 b/\Q b
def ae{b:Type}{a:b}{Q:b->Prop}(c:Q a):Ok (c6 a) Q:=⟨a,rfl,c⟩
def aD{b f:Type}{e:Option b}{c:b->Option f}{Q:b->Prop}{d:f->Prop}(g:Ok e Q)(h:∀a,Q a->Ok (c a) d):Ok (e.bind c) d:=by
 obtain⟨a,rfl,i⟩:=g;exact h a i
def WI{b:Type}{d:Option b}{Q c:b->Prop}(g:Ok d Q)(e:∀a,Q a->c a):Ok d c:=by
 obtain⟨a,f,h⟩:=g;exact⟨a,f,e a h⟩
def dy{c:Type}{a:Bool}{d e:Option c}{b:c->Prop}(f:a=true->Ok d b)(g:a=false->Ok e b):Ok (bif a then d else e) b:=by
 cases a with
 |true=>exact f rfl
 |false=>exact g rfl
def aV{c:Type}{p:Prop}[Decidable p]{d e:Option c}{b:c->Prop}(f:p->Ok d b)(g:¬p->Ok e b):Ok (bif decide p then d else e) b:=
 dy (λa=>f (of_decide_eq_true a)) (λa=>g (of_decide_eq_false a))
def ok_eq{a:Type}{d:Option a}{b:a}{c:a->Prop}(f:d=c6 b)(e:c b):Ok d c:=⟨b,f,e⟩
def c8{b e:Type}{m:Option b}{a:b}{c:b->Option e}{d:e->Prop}(f:m=c6 a)(g:Ok (c a) d):Ok (m.bind c) d:=by subst f;exact g
def Ok.val{c:Type}{m:Option c}{a:c}(h:Ok m (·=a)):m=c6 a:=by
 obtain⟨b,h,rfl⟩:=h;exact h
def aC{b:Type}{p:Prop}[Decidable p]{a c:b}(d:p:=by omega):(bif decide p then a else c)=a:=by rw[decide_eq_true d];rfl
def aG{b:Type}{p:Prop}[Decidable p]{d a:b}(c:¬p:=by omega):(bif decide p then d else a)=a:=by rw[decide_eq_false c];rfl
def wL{d:Type}{p:Prop}[Decidable p]{c b:d}:(bif decide p then c else b)=if p then c else b:=by
 by_cases a:p
 .rw[aC a,if_pos a]
 .rw[aG a,if_neg a]
def aa{a d:Type}{c:a}{b:a->Option d}:(c6 c).bind b=b c:=rfl
def ew{p q:Prop}[Decidable p][Decidable q]{c:Option Bool}(b:c=c6 (decide q)):(bif decide p then c6 true else c)=c6 (c5 (p\/q)):=by
 subst b
 by_cases a:p
 .rw[aC a,decide_eq_true (Or.inl a)]
 .rw[aG a];congr 1;exact decide_eq_decide.2 ⟨Or.inr,λb=>b.resolve_left a⟩
def fm{p q:Prop}[Decidable p][Decidable q]{c:Option Bool}(a:c=c6 (decide q)):(bif decide p then c else c6 false)=c6 (c5 (p/\q)):=by
 subst a
 by_cases b:p
 .rw[aC b];congr 1;exact decide_eq_decide.2 ⟨λa=>⟨b,a⟩,λa=>a.2⟩
 .rw[aG b,decide_eq_false (λa=>b a.1)]
def qC{b:Type}{a:List b}{i:Int}(h0:0<=i)(c:i<(a.length:Int)):aj a i=c6 (a[i.toNat]'(by omega)):=by
 unfold aj;rw[if_pos h0];exact dk (by omega)
def bn{c:Type}{a:List c}{b:Nat}:aj a (b:Int)=a[b]? :=by
 unfold aj;rw[if_pos (by omega),la]
def fC{a:Type}{b:List a}{i:Nat}{c:a}(d:b[i]?=c6 c):c∈b:=fe d
def l8{d:Type}{c:List d}{a b:Int}(h0:0<=a)(e:a<=b)(f:b<=(c.length:Int)):eG c a b=c6 ((c.take b.toNat).drop a.toNat):=by
 unfold eG;rw[if_pos ⟨h0,e,f⟩]
def pN{d:Type}{c:Nat}{b a:List d}(e:(b.length+a.length)*c<=140737488355328):bj c b a=c6 (b++a):=by
 unfold bj;rw[if_pos e]
def nS{c:Type}{b:Nat}{z:c}{a:Int}(h0:0<=a)(d:a.toNat*b<=140737488355328):gP b z a=c6 (List.replicate a.toNat z):=by
 unfold gP;rw[if_pos ⟨h0,d⟩]
def D7{a b:Int}(c:b≠0):nG a b=c6 (a.tmod b):=by
 unfold nG;rw[if_neg c]
def Ek{a:IntKind}{c b:Int}(d:b≠0):ph a c b=c6 (a.wrap (c.tdiv b)):=by
 unfold ph;rw[if_neg d]
def AD{a:IntKind}{c b:Int}(d:0<=b):iN a c b=c6 (c.fdiv (2^ (min b.toNat a.bits))):=by
 unfold iN;rw[if_pos d]
def ahO{a:IntKind}{c b:Int}(d:0<=b):uU a c b=c6 (a.wrap (c*2^ (min b.toNat a.bits))):=by
 unfold uU;rw[if_pos d]
def aJ{n:Int}(a: -9223372036854775808<=n:=by omega)(b:n<=9223372036854775807:=by omega):c3 c4 n=n:=ae2 a b
def w8{n:Int}(a:0<=n)(b:n<=255):Kr.wrap n=n:=aoI a b
def mB{n:Int}(a:0<=n)(b:n<=18446744073709551615):E3.wrap n=n:=U3 a b
def iO{a d:Type}{f:a->Option (a⊕d)}{b a':a}(c:f b=c6 (.inl a')):bO f b=bO f a':=by
 rw[Qk,c];rfl
def fZ{a c:Type}{f:a->Option (a⊕c)}{d:a}{b:c}(e:f d=c6 (.inr b)):bO f d=c6 b:=by
 rw[Qk,e];rfl
def oa{c m:Type}{f:c->Option (c⊕m)}(i:c->Prop)(g:c->Nat)(k:m->Prop)
 (step:∀a,i a->Ok (f a) λh=>match h with | .inl d=>i d/\g d<g a | .inr b=>k b):∀a,i a->Ok (bO f a) k:=by
 intro a o;generalize p:g a=l
 induction l using sp generalizing a with
 |_ l n=>
  obtain⟨h,j,e⟩:=step a o;cases h with
  |inl d=>
   rw[iO j];exact n _ (p▸e.2) d e.1 rfl
  |inr b=>exact⟨b,fZ j,e⟩
def Bytes(a:List Int):Prop:=∀b∈a,0<=b/\b<=255
def Bytes.nil:Bytes []:=by intro b h;cases h
def Bytes.aX{a b:List Int}(h:Bytes a)(k:Bytes b):Bytes (a++b):=by
 intro x d;rcases j9.1 d with c |c
 .exact h x c
 .exact k x c
def Bytes.cons{a:Int}{b:List Int}(h:0<=a/\a<=255)(k:Bytes b):Bytes (a::b):=by
 intro x d;rcases hI.1 d with rfl |c
 .exact h
 .exact k x c
def Bytes.take{a:List Int}(h:Bytes a)(n:Nat):Bytes (a.take n):=λx c=>h x (ie c)
def Bytes.drop{a:List Int}(h:Bytes a)(n:Nat):Bytes (a.drop n):=λx c=>h x (ih c)
end Go.X.T
namespace Go.Top
abbrev T5:Int:=1099511627776
abbrev SM:Int:=2147483648
abbrev vG:=Int->Int->Int->Prop
structure Tr where
 pl:Int->Int
 L3:Int->Int
def adJ(A:vG)(e b:Int)(c:Tr):Prop:=
 ∀a,e<=a->a<b->(c.pl (a+1)=c.pl a/\c.L3 (a+1)=c.L3 a)\/∃d,A (c.pl a) (c.pl (a+1)) d/\c.L3 a+d<=a+1/\c.L3 (a+1)=a+1
def pG(A:vG)(b:Int)(c:Int->Prop)(g:Int->Int):Prop:=
 ∀p q a,A p q a->c q->g p<T5->max (g p+a) b<=SM->g q<=max (g p+a) b
def eN(A:vG)(a:Int)(g:Int->Int):Prop:=pG A a (λ_=>True) g
structure Tr.Ok (tr:Tr) (T:Int):Prop where
 hi:T<=SM
 L3:∀u,0<=u->u<=T->0<=tr.L3 u/\tr.L3 u<=u
structure Snd (A:vG) (tr:Tr) (T τ:Int) (g:Int->Int):Prop where
 lo:0<=τ
 le:τ<=T
 mv:adJ A τ T tr
 ok:∀u,τ<=u->u<=T->g (tr.pl u)<=tr.L3 u
section
variable {A:vG}{tr:Tr}{T τ:Int}{g g':Int->Int}
def adJ.less{a b c d:Int}(h:adJ A a b tr)(j:a<=c)(k:d<=b):adJ A c d tr:=λe m l=>h e (by omega) (by omega)
def stay(i:tr.Ok T){S:Int->Prop}{h a b:Int}(q:pG A h S g)(x:0<=a)(y:b<=T)(t:adJ A a b tr)(z:h<=a+1)(n:∀d,a<d->d<=b->S (tr.pl d))(h0:g (tr.pl a)<=tr.L3 a):
 ∀d,a<=d->d<=b->g (tr.pl d)<=tr.L3 d:=by
 have u:∀c:Nat,a+c<=b->g (tr.pl (a+c))<=tr.L3 (a+c):=by
  intro c
  induction c with
  |zero=>intro _;simpa using h0
  |succ c r=>
   intro v;have k:=r (by omega);have f:a+((c+1:Nat):Int)=a+(c:Int)+1:=by omega
   have m:=i.L3 (a+c) (by omega) (by omega);have w:=i.hi;rw[f];rcases t (a+c) (by omega) (by omega) with⟨e,l⟩ |⟨j,e,l,o⟩
   .rw[e,l];exact k
   .have p:=q _ _ j e (n _ (by omega) (by omega)) (by unfold T5 SM at*;omega);rw[o];have s:max (g (tr.pl (a+c))+j) h<=a+c+1:=by omega
    exact hz (p (by unfold SM at*;omega)) s
 intro d k m;have:=u (d -a).toNat (by omega);have f:a+((d -a).toNat:Int)=d:=by omega
 rwa [f] at this
def Snd.raise(h:Snd A tr T τ g){c:Int}(e:τ<=c)(j:c<=T)(k:∀a,c<=a->a<=T->g' (tr.pl a)<=g (tr.pl a)):Snd A tr T c g':=
 ⟨by have:=h.lo;omega,j,h.mv.less e (by omega),λa l d=>hz (k a l d) (h.ok a (by omega) d)⟩
def Snd.Ls(j:tr.Ok T)(h:Snd A tr T τ g){L from_ to:Int}(m:τ<=from_)(n:from_<=L)(s:L<=to)(k:to<=T)(d:g' (tr.pl L)<=g (tr.pl L))(c:eN A from_ g'):Snd A tr T to g':=by
 have t:=h.lo;have:=stay j (S:=λ_=>True) (a:=L) (b:=T) c (by omega) (ej _) (h.mv.less (by omega) (ej _)) (by omega) (λ_ _ _=>trivial) (hz d (h.ok L (by omega) (by omega)));exact⟨by omega,k,h.mv.less (by omega) (ej _),λl o e=>this l (by omega) e⟩
def am4(h:Int->Prop)(d b:Int)(m:d<=b)(k:¬∀a,d<=a->a<=b->h a):∃a,d<=a/\a<=b/\¬h a/\∀v,a<v->v<=b->h v:=by
 generalize t:(b -d).toNat=j
 induction j generalizing b with
 |zero=>
  have c:d=b:=by omega
  subst c;refine⟨d,by omega,by omega,λo=>k λa e f=>?_,λv e f=>by omega⟩
  have c:a=d:=by omega
  rw[c];exact o
 |succ j n=>
  by_cases i:h b
  .obtain⟨a,e,f,r,q⟩:=n (b -1) (by omega) (λl=>k λa e f=>by
    by_cases c:a=b
    .rw[c];exact i
    .exact l a e (by omega)) (by omega)
   refine⟨a,e,by omega,r,λv p s=>?_⟩
   by_cases c:v=b
   .rw[c];exact i
   .exact q v p (by omega)
  .exact⟨b,m,ej _,i,λv e f=>by omega⟩
def Snd.agP(n:tr.Ok T)(h:Snd A tr T τ g){S:Int->Prop}[DecidablePred S]{b to blind:Int}{g1:Int->Int}(I:τ<=b)(k:to<=T)(K:0<=blind)(L:blind<to -b)
 (l:∀s e,b<=s->e<=to->s<=e->(∀c,s<=c->c<=e->S (tr.pl c))->e -s<=blind)
 (u:∀c,b<=c->c<=to->¬S (tr.pl c)->g1 (tr.pl c)<=g (tr.pl c)) (E:pG A (to -blind) S g1) (C:g' (tr.pl to)<=g1 (tr.pl to)) (G:eN A to g'):Snd A tr T to g':=by
 have J:=h.lo;have y:g1 (tr.pl to)<=tr.L3 to:=by
  by_cases m:S (tr.pl to)
  .have H:¬∀c,b<=c->c<=to->S (tr.pl c):=λB=>by
    have:=l b to (ej _) (ej _) (by omega) B;omega
   obtain⟨d,F,o,w,x⟩:=am4 (λc=>S (tr.pl c)) b to (by omega) H;have M:d<to:=by
    rcases Int.lt_or_eq_of_le o with h |h
    .exact h
    .subst h;exact absurd m w
   have:=l (d+1) to (by omega) (ej _) (by omega) λc t j=>x c (by omega) j
   exact stay n (S:=S) (a:=d) (b:=to) E (by omega) k (h.mv.less (by omega) (by omega)) (by omega) (λc t j=>x c t j) (hz (u d F o w) (h.ok d (by omega) (by omega))) to (by omega) (ej _)
  .exact hz (u to (by omega) (ej _) m) (h.ok to (by omega) (by omega))
 have:=stay n (S:=λ_=>True) (a:=to) (b:=T) G (by omega) (ej _) (h.mv.less (by omega) (ej _)) (by omega) (λ_ _ _=>trivial) (hz C y);exact⟨by omega,k,h.mv.less (by omega) (ej _),λc N D=>this c (by omega) D⟩
def Tr.ext(tr:Tr)(T d p a:Int):Tr:=⟨λc=>if c<=T then tr.pl c else if c<d then tr.pl T else p,λc=>if c<=T then tr.L3 c else if c<d then tr.L3 T else a⟩
def Tr.abS{d p a c:Int}(h:c<=T):(tr.ext T d p a).pl c=tr.pl c/\(tr.ext T d p a).L3 c=tr.L3 c:=by
 unfold Tr.ext;exact⟨if_pos h,if_pos h⟩
def Tr.ab8{d p a c:Int}(h:T<=c)(j:c<d):(tr.ext T d p a).pl c=tr.pl T/\(tr.ext T d p a).L3 c=tr.L3 T:=by
 unfold Tr.ext
 by_cases e:c<=T
 .have:c=T:=by omega
  subst this;exact⟨if_pos e,if_pos e⟩
 .exact⟨by dsimp only;rw[if_neg e,if_pos j],by dsimp only;rw[if_neg e,if_pos j]⟩
def Tr.acW{c p a:Int}(h:T<c):(tr.ext T c p a).pl c=p/\(tr.ext T c p a).L3 c=a:=by
 unfold Tr.ext;exact⟨by dsimp only;rw[if_neg (by omega),if_neg (by omega)],by dsimp only;rw[if_neg (by omega),if_neg (by omega)]⟩
def Tr.Ok.ext(j:tr.Ok T){c p a:Int}(h0:0<=T)(h:T<c)(l:c<=SM)(n:0<=a/\a<=c):(tr.ext T c p a).Ok c:=⟨l,λd m o=>by
 by_cases e:d<=T
 .rw[(Tr.abS e).2];exact j.L3 d m e
 .by_cases k:d<c
  .rw[(Tr.ab8 (by omega) k).2];have:=j.L3 T h0 (ej _);omega
  .have:d=c:=by omega
   subst this;rw[(Tr.acW h).2];exact n⟩
def Snd.tick(y:tr.Ok T)(h:Snd A tr T τ g)(D:eN A τ g){d p a:Int}(m:T<d)(F:d<=SM)(w:(p=tr.pl T/\a=tr.L3 T)\/∃n,A (tr.pl T) p n/\tr.L3 T+n<=d/\a=d):Snd A (tr.ext T d p a) d τ g:=by
 have B:=h.lo;have C:=h.le;have G:=y.L3 T (by omega) (ej _);have x:=h.ok T C (ej _);refine⟨B,by omega,λc t u=>?_,λc t u=>?_⟩
 .by_cases e:c<T
  .rw[(Tr.abS (show c<=T by omega)).1,(Tr.abS (show c<=T by omega)).2,(Tr.abS (show c+1<=T by omega)).1,(Tr.abS (show c+1<=T by omega)).2];exact h.mv c t e
  .rw[(Tr.ab8 (show T<=c by omega) u).1,(Tr.ab8 (show T<=c by omega) u).2]
   by_cases l:c+1<d
   .rw[(Tr.ab8 (show T<=c+1 by omega) l).1,(Tr.ab8 (show T<=c+1 by omega) l).2];exact .inl ⟨rfl,rfl⟩
   .have s:c+1=d:=by omega
    rw[s,(Tr.acW m).1,(Tr.acW m).2];rcases w with⟨j,k⟩ |⟨n,j,k,o⟩
    .exact .inl ⟨j,k⟩
    .exact .inr ⟨n,j,k,o⟩
 .by_cases e:c<=T
  .rw[(Tr.abS e).1,(Tr.abS e).2];exact h.ok c t e
  .by_cases l:c<d
   .rw[(Tr.ab8 (show T<=c by omega) l).1,(Tr.ab8 (show T<=c by omega) l).2];exact x
   .have s:c=d:=by omega
    rw[s,(Tr.acW m).1,(Tr.acW m).2];rcases w with⟨j,k⟩ |⟨n,j,k,o⟩
    .rw[j,k];exact x
    .rw[o];have E:max (g (tr.pl T)+n) τ<=d:=by omega
     exact hz (D _ _ n j trivial (by unfold T5 SM at*;omega) (by unfold SM at*;omega)) E
end
structure abc where
 t:Int
 num:Int
 bo:List Int
structure aaA (S:Int->Prop) (P M:Int) (tp:Int->Int->Int) (T:Int) (lk:Nat->abc) (c:Nat):Prop where
 bG:∀i,i<c->(lk i).t<=T
 seen:∀i X,i<c->X∈(lk i).bo->S (tp X (lk i).t)
 adj:∀i,i+1<c->(lk i).t<=(lk (i+1)).t/\(((lk (i+1)).num=(lk i).num+1/\(lk (i+1)).t - (lk i).t<=P)\/(lk (i+1)).num=(lk i).num+2)
 win:∀X (i:Nat),i+M.toNat<c->∃j,i<=j/\j<=i+M.toNat/\(S (tp X (lk j).t)->X∈(lk j).bo)
def aaA.mono{d:Int->Prop}{m l T:Int}{tp:Int->Int->Int}{lk:Nat->abc}{c:Nat}(h:aaA d m l tp T lk c):∀i k:Nat,i+k<c->(lk i).num+k<=(lk (i+k)).num:=by
 intro i k
 induction k with
 |zero=>intro _;simp
 |succ k j=>
  intro o;have n:=j (by omega);have a:=(h.adj (i+k) (by omega)).2;have e:i+(k+1)=i+k+1:=by omega
  rw[e];rcases a with a |a <;> omega
def aaA.next{j:Int->Prop}{d l T:Int}{tp:Int->Int->Int}{lk:Nat->abc}{c:Nat}(h:aaA j d l tp T lk c){i a:Nat}(hi:i<c)(m:a<c)(o:(lk a).num=(lk i).num+1):a=i+1/\(lk a).t - (lk i).t<=d:=by
 have e:a=i+1:=by
  by_cases n:a<=i
  .have:=h.mono a (i -a) (by omega);rw[show a+(i -a)=i by omega] at this;omega
  .have:=h.mono i (a -i) (by omega);rw[show i+(a -i)=a by omega] at this;omega
 subst e;refine⟨rfl,?_⟩
 rcases(h.adj i m).2 with k |k <;> omega
def aaA.run{e:Int->Prop}{l k T:Int}{tp:Int->Int->Int}{lk:Nat->abc}{c:Nat}(h:aaA e l k tp T lk c)(ix:Nat->Nat)(m:Nat)(d:∀a,a<=m->ix a<c)(o:∀a,a<m->(lk (ix (a+1))).num=(lk (ix a)).num+1):
 ∀a,a<=m->ix a=ix 0+a:=by
 intro a
 induction a with
 |zero=>intro _;rfl
 |succ a j=>
  intro n;have:=(h.next (d a (by omega)) (d (a+1) n) (o a (by omega))).1;rw[this,j (by omega)];omega
def aqQ(f:Nat->Int)(c:Int)(d:Nat)(p:c<f d):∃e,e<=d/\c<f e/\∀i,i<e->f i<=c:=by
 induction d with
 |zero=>exact⟨0,dv _,p,λi l=>by omega⟩
 |succ d h=>
  by_cases o:c<f d
  .obtain⟨e,u,b,r⟩:=h o;exact⟨e,by omega,b,r⟩
  .by_cases j:∀i,i<d+1->f i<=c
   .exact⟨d+1,dv _,p,j⟩
   .have ⟨i,l,t⟩:∃i,i<d+1/\c<f i:=j7 λk=>j λi l=>by
     by_cases n:f i<=c
     .exact n
     .exact absurd ⟨i,l,by omega⟩ k
    clear h o j
    induction i using sp with
    |_ i h=>
     by_cases q:∀a,a<i->f a<=c
     .exact⟨i,by omega,t,q⟩
     .have ⟨a,m,s⟩:∃a,a<i/\c<f a:=j7 λk=>q λa m=>by
       by_cases n:f a<=c
       .exact n
       .exact absurd ⟨a,m,by omega⟩ k
      exact h a m (by omega) s
def aaA.agP{S:Int->Prop}{j k T:Int}{tp:Int->Int->Int}{lk:Nat->abc}{c:Nat}(h:aaA S j k tp T lk c)(B:0<=j)(aa:0<=k){X:Int}(ix:Nat->Nat)(m:Nat)(t:∀d,d<=m->ix d<c)(H:∀d,d<m->(lk (ix (d+1))).num=(lk (ix d)).num+1)
 (P:∀d,d<=m->X∉(lk (ix d)).bo) {s s':Int} (h0:(lk (ix 0)).t<=s) (L:s'<=(lk (ix m)).t) (K:∀y,s<=y->y<=s'->S (tp X y)):s' -s<=(k+1)*j:=by
 by_cases Q:s' -s<=(k+1)*j
 .exact Q
 exfalso
 have U:0<=(k+1)*j:=Int.mul_nonneg (by omega) B;have l:=h.run ix m t H
 let f:Nat->Int:=λd=>(lk (ix d)).t
 obtain⟨a,a1,E,J⟩:=aqQ f s m (show s<f m by show s<(lk (ix m)).t;omega);have Z:1<=a:=by
  by_cases e:a=0
  .subst e;have:s<(lk (ix 0)).t:=E;omega
  .omega
 have G:∀d,d<m->f (d+1) -f d<=j:=λd w=>(h.next (t d (by omega)) (t (d+1) w) (H d w)).2
 have key:∀r:Nat,a+r<=m->f (a+r)<=s+(r+1:Int)*j:=by
  intro r
  induction r with
  |zero=>
   intro _;have n:=J (a -1) (by omega);have o:=G (a -1) (by omega);rw[show a -1+1=a by omega] at o;have e:((0:Nat)+1:Int)*j=j:=by simp
   rw[e];show f a<=s+j
   omega
  |succ r u=>
   intro D;have n:=u (by omega);have o:=G (a+r) (by omega);have e:(((r+1:Nat):Int)+1)*j=((r:Int)+1)*j+j:=by rw[show((r+1:Nat):Int)+1=((r:Int)+1)+1 by omega,Int.add_mul ((r:Int)+1),Int.one_mul]
   rw[e];show f (a+r+1)<=_
   omega
 have x:∀r:Nat,r<=k.toNat->a+r<=m:=by
  intro r
  induction r with
  |zero=>intro _;omega
  |succ r u=>
   intro D;have n:=u (by omega)
   by_cases e:a+r=m
   .have o:=key r n;rw[e] at o;have R:((r:Int)+1)*j<=(k+1)*j:=kl (by omega) B;have I:s'<=f m:=L;omega
   .omega
 have O:∀r:Nat,a+r<=m->s<f (a+r):=by
  intro r
  induction r with
  |zero=>intro _;exact E
  |succ r u=>
   intro D;have n:=u (by omega);have M:=(h.adj (ix (a+r)) (by rw[l (a+r) (by omega)];have:=t (a+r+1) (by omega);rw[l (a+r+1) (by omega)] at this;omega)).1;have e:ix (a+r)+1=ix (a+r+1):=by rw[l (a+r) (by omega),l (a+r+1) (by omega)];omega
   rw[e] at M;show s<(lk (ix (a+r+1))).t
   have o:s<(lk (ix (a+r))).t:=n;omega
 obtain⟨d,V,ab,N⟩:=h.win X (ix a) (by
  have:=t (a+k.toNat) (x _ (dv _));rw[l _ (x _ (dv _))] at this;rw[l a a1];omega)
 have w:d=ix (a+(d -ix a)):=by
  have W:=l a a1;have Y:=l (a+(d -ix a)) (x _ (by omega));omega
 have C:=x (d -ix a) (by omega);have n:=key (d -ix a) C;have o:=O (d -ix a) C;have R:(((d -ix a:Nat):Int)+1)*j<=(k+1)*j:=kl (by omega) B;have I:f (a+(d -ix a))=(lk d).t:=by show(lk (ix (a+(d -ix a)))).t=_;rw[<-w]
 rw[I] at n o;have F:=N (K _ (by omega) (by omega));rw[w] at F;exact P _ C F
def aaA.look{k:Int->Prop}{o j T:Int}{tp:Int->Int->Int}{lk:Nat->abc}{c:Nat}(h:aaA k o j tp T lk c){x:abc}(ht:x.t=T)(y:∀a,a∈x.bo->k (tp a T))
 (w:∀n,0<c->n=lk (c -1)->(x.num=n.num+1/\T -n.t<=o)\/x.num=n.num+2)
 (u:∀a,j.toNat<c+1->∃d,c -j.toNat<=d/\d<=c/\(k (tp a (if d=c then x else lk d).t)->a∈(if d=c then x else lk d).bo)):aaA k o j tp T (λi=>if i=c then x else lk i) (c+1):=by
 refine⟨λi hi=>?_,λi a hi l=>?_,λi hi=>?_,λa i hi=>?_⟩
 .by_cases e:i=c
  .rw[if_pos e,ht];exact ej _
  .rw[if_neg e];exact h.bG i (by omega)
 .by_cases e:i=c
  .rw[if_pos e] at l⊢;rw[ht];exact y a l
  .rw[if_neg e] at l⊢;exact h.seen i a (by omega) l
 .by_cases e:i+1=c
  .rw[if_neg (show i≠c by omega),if_pos e,ht];have m:=h.bG i (by omega);exact⟨m,w (lk i) (by omega) (by rw[<-e];rfl)⟩
  .rw[if_neg (show i≠c by omega),if_neg e];exact h.adj i (by omega)
 .by_cases e:i+j.toNat=c
  .obtain⟨d,m,t,s⟩:=u a (by omega);exact⟨d,by omega,by omega,s⟩
  .obtain⟨d,m,t,s⟩:=h.win a i (by omega);refine⟨d,m,t,?_⟩
   rw[if_neg (show d≠c by omega)];exact s
end Go.Top
namespace Go.X.T
open Go Go.Aml
def nV{e g:Type}{f:e->Option (e⊕g)}(c:Nat)(a:Nat->e)(b:g)(k:∀i,i<c->f (a i)=c6 (.inl (a (i+1))))(h:f (a c)=c6 (.inr b)):bO f (a 0)=c6 b:=by
 have l:∀d i,i+d=c->bO f (a i)=c6 b:=by
  intro d
  induction d with
  |zero=>intro i m;have:i=c:=by omega
         subst this;exact fZ h
  |succ d j=>intro i m;rw[iO (k i (by omega))];exact j (i+1) (by omega)
 exact l c 0 (by omega)
def di{m o:Type}{f:m->Option (m⊕o)}(e:Nat)(g:Nat->m->Prop)(k:o->Prop)(t:∀i a,i<e->g i a->Ok (f a) λc=>match c with | .inl r=>g (i+1) r | .inr b=>k b)
 (s:∀a,g e a->Ok (f a) λc=>match c with | .inl _=>False | .inr b=>k b):∀a,g 0 a->Ok (bO f a) k:=by
 have p:∀h i a,i+h=e->g i a->Ok (bO f a) k:=by
  intro h
  induction h with
  |zero=>
   intro i a u l;have:i=e:=by omega
   subst this;obtain⟨c,j,d⟩:=s a l;cases c with
   |inl n=>exact d.elim
   |inr b=>exact⟨b,fZ j,d⟩
  |succ h v=>
   intro i a u l;obtain⟨c,j,d⟩:=t i a (by omega) l;cases c with
   |inl n=>rw[iO j];exact v (i+1) n (by omega) d
   |inr b=>exact⟨b,fZ j,d⟩
 intro a q;exact p e 0 a (by omega) q
def jv{a:Type}(r:Nat->Option a):Nat->Nat->Option a
 |_,0=>c7
 |i,c+1=>match r i with
  |some b=>c6 b
  |none=>jv r (i+1) c
def xk{h:Type}{r:Nat->Option h}:∀{k i:Nat},jv r i k=c7↔∀a,i<=a->a<i+k->r a=c7
 |0,i=>⟨λ_ a d e=>by omega,λ_=>rfl⟩
 |k+1,i=>by
  unfold jv;cases f:r i with
  |some b=>exact⟨λc=>by simp at c,λc=>by have:=c i (dv _) (by omega);rw[f] at this;cases this⟩
  |none=>
   show jv r (i+1) k=c7↔_
   rw[xk];refine⟨λc a d e=>?_,λc a d e=>c a (by omega) (by omega)⟩
   by_cases g:a=i
   .rw[g];exact f
   .exact c a (by omega) (by omega)
def yO{f:Type}{r:Nat->Option f}{b:f}:∀{k i:Nat},jv r i k=c6 b->∃d,i<=d/\d<i+k/\r d=c6 b/\∀c,i<=c->c<d->r c=c7
 |0,i,a=>by cases a
 |k+1,i,a=>by
  unfold jv at a;cases e:r i with
  |some o=>rw[e] at a;injection a with a;subst a;exact⟨i,dv _,by omega,e,λc g h=>by omega⟩
  |none=>
   rw[e] at a;obtain⟨d,g,h,n,m⟩:=yO (r:=r) (i:=i+1) (k:=k) a;refine⟨d,by omega,by omega,n,λc p l=>?_⟩
   by_cases j:c=i
   .rw[j];exact e
   .exact m c (by omega) l
def Kp{c a:Type}(d:Option c)(e:a):c⊕a:=match d with |some b=>.inl b |none=>.inr e
def Xv{a d:Type}(c:Option a)(i:Nat):Int⊕(a⊕d):=match c with |some b=>.inr (.inl b) |none=>.inl ((i:Int)+1)
def Hf{j g:Type}{f:Int->Option (Int⊕(j⊕g))}(a:Nat)(r:Nat->Option j)(e:g)(m:∀i:Nat,i<a->f (i:Int)=c6 (Xv (r i) i))(k:f (a:Int)=c6 (.inr (.inr e))):
 bO f 0=c6 (Kp (jv r 0 a) e):=by
 have n:∀c i,i+c=a->bO f (i:Int)=c6 (Kp (jv r i c) e):=by
  intro c
  induction c with
  |zero=>intro i o;have:i=a:=by omega
         subst this;exact fZ k
  |succ c l=>
   intro i o;have d:=m i (by omega);unfold jv;cases h:r i with
   |some b=>rw[h] at d;exact fZ d
   |none=>
    rw[h] at d;rw[iO d];have:=l (i+1) (by omega);rw[show((i+1:Nat):Int)=(i:Int)+1 by omega] at this;exact this
 exact n a 0 (by omega)
def sy(b:Nat->Bool)(i:Nat):Option Unit:=bif b i then c6 () else c7
def oD{e:Type}{f:Int->Option (Int⊕(Unit⊕e))}(a:Nat)(b:Nat->Bool)(d:e)(j:∀i:Nat,i<a->f (i:Int)=c6 (bif b i then .inr (.inl ()) else .inl ((i:Int)+1)))(h:f (a:Int)=c6 (.inr (.inr d))):
 bO f 0=c6 (if ∀i,i<a->b i=false then .inr d else .inl ()):=by
 rw[Hf a (sy b) d (λi g=>by rw[j i g];unfold sy;cases b i <;> rfl) h]
 congr 1
 by_cases c:∀i,i<a->b i=false
 .rw[if_pos c,(xk (r:=sy b) (i:=0) (k:=a)).2 λn _ o=>by unfold sy;rw[c n (by omega)];rfl]
  rfl
 .rw[if_neg c];cases m:jv (sy b) 0 a with
  |some p=>rfl
  |none=>exact absurd (λi g=>by
   have:=(xk.1 m) i (ei _) (by omega);unfold sy at this;cases l:b i with
   |false=>rfl
   |true=>rw[l] at this;cases this) c
def mj{a:Type}(p:a->Bool)(b:List a)(i:Nat):Option Int:=match b[i]? with |some c=>bif p c then c6 (i:Int) else c7 |none=>c7
def gg{a:Type}(p:a->Bool)(b:List a):Int:=match jv (mj p b) 0 b.length with |some i=>i |none=>-1
def fF{c:Type}{l:List c}{P:c->Option Bool}{p:c->Bool}{f:Int->Option (Int⊕(Int⊕Unit))}(n:l.length<=4611686018427387904)(m:∀b,b∈l->P b=c6 (p b))
 (e:∀a,f a=bif c5 (a<(l.length:Int)) then(aj l a).bind λb=>(P b).bind λh=>bif h then c6 (.inr (.inl a)) else c6 (.inl (c3 c4 (a+1))) else c6 (.inr (.inr ()))):
 ((bO f 0).bind λj=>Sum.elim (λk=>c6 k) (λ_=>c6 (-1)) j)=c6 (gg p l):=by
 rw[Hf l.length (mj p l) () (λi d=>?_) (by rw[e,aG])]
 .unfold gg;cases jv (mj p l) 0 l.length <;> rfl
 .rw[e,aC,bn,dk d,aa,m _ (j6 d),aa];unfold mj;rw[dk d];cases g:p l[i] with
  |true=>simp only[g,cond_true];rfl
  |false=>simp only[g,cond_false];rw[aJ];rfl
def Aw{h:Type}{p:h->Bool}{f:List h}:(0<=gg p f)↔∃c,c∈f/\p c=true:=by
 unfold gg;cases g:jv (mj p f) 0 f.length with
 |none=>
  refine⟨λg=>by simp at g,?_⟩
  rintro⟨c,e,d⟩;obtain⟨i,k,rfl⟩:=j1.1 e;have:=(xk.1 g) i (ei _) (by omega);unfold mj at this;rw[dk k] at this;simp only[d,cond_true] at this;cases this
 |some b=>
  obtain⟨j,_,l,a,_⟩:=yO g;unfold mj at a;cases e:f[j]? with
  |none=>rw[e] at a;cases a
  |some c=>
   rw[e] at a;cases d:p c with
   |false=>simp only[d,cond_false] at a;cases a
   |true=>
    simp only[d,cond_true] at a;injection a with a
    refine⟨λ_=>⟨c,fC e,d⟩,λ_=>?_⟩
    show(0:Int)<=b
    omega
def HN{f:Type}{p:f->Bool}{c:List f}(h:0<=gg p c):∃(i:Nat) (d:f),gg p c=(i:Int)/\c[i]?=c6 d/\p d=true/\∀(e:Nat) (g:f),e<i->c[e]?=c6 g->p g=false:=by
 unfold gg at h⊢;cases l:jv (mj p c) 0 c.length with
 |none=>rw[l] at h;simp at h
 |some b=>
  obtain⟨e,_,s,a,n⟩:=yO l;unfold mj at a;cases k:c[e]? with
  |none=>rw[k] at a;cases a
  |some d=>
   rw[k] at a;cases j:p d with
   |false=>simp only[j,cond_false] at a;cases a
   |true=>
    simp only[j,cond_true] at a;injection a with a
    refine⟨e,d,a.symm,k,j,λq g o r=>?_⟩
    have:=n q (ei _) o;unfold mj at this;rw[r] at this;cases m:p g with
    |false=>rfl
    |true=>simp only[m,cond_true] at this;cases this
def gm{a:Type}{p:a->Bool}{b:List a}:c5 (0<=gg p b)=b.any p:=by
 rw[sT,decide_eq_true_iff,Aw,List.any_eq_true]
def cF(a b c:Int):cp LC a b c=c6 (c5 (b<=a/\a<=c)):=by
 unfold cp;exact fm rfl
def cj(c b:Int)(a:List Int):Prop:=∀i:Nat,i<a.length->c<=a.getD i 0/\a.getD i 0<=b/\(0<i->a.getD (i -1) 0<a.getD i 0)
instance (c b:Int) (a:List Int):Decidable (cj c b a):=by unfold cj;exact Nat.decidableBallLT _ _
def pu{a:Type}{c:List a}{i:Nat}{e b:a}(d:c[i]?=c6 b):c.getD i e=b:=by rw[List.getD_eq_getElem?_getD,d];rfl
def uu{a:List Int}{i:Nat}(b:i<a.length):aj a (i:Int)=c6 (a.getD i 0):=by rw[bn,dk b,pu (dk b)]
def kw(a:List Int)(d b:Int)(l:a.length<=4611686018427387904):iU LC a d b=c6 (c5 (cj d b a)):=by
 unfold iU;have j:bO (λg=>wx LC a d b g) 0=c6 (if ∀i,i<a.length->(λi:Nat=>c5 (¬(d<=a.getD i 0/\a.getD i 0<=b/\(0<i->a.getD (i -1) 0<a.getD i 0)))) i=false then .inr () else .inl ()):=by
  refine oD a.length _ () (λi e=>?_) ?_
  .unfold wx;rw[aC,uu e,aa];have h:(bif c5 (0<(i:Int)) then(aj a (c3 c4 ((i:Int) -1))).bind λk=>c6 (c5 (a.getD i 0<=k)) else c6 false)=c6 (c5 (0<i/\a.getD i 0<=a.getD (i -1) 0)):=by
    by_cases h0:0<i
    .rw[aC,aJ,show(i:Int) -1=((i -1:Nat):Int) by omega,uu (by omega),aa]
     congr 1
     exact decide_eq_decide.2 ⟨λc=>⟨h0,c⟩,λc=>c.2⟩
    .rw[aG]
     congr 1
     exact(decide_eq_false λc=>h0 c.1).symm
   rw[h,ew (ew rfl),aa,aJ]
   by_cases f:d<=a.getD i 0/\a.getD i 0<=b/\(0<i->a.getD (i -1) 0<a.getD i 0)
   .rw[decide_eq_false (by omega),decide_eq_false (by rw[hD];exact f)];rfl
   .rw[decide_eq_true (show a.getD i 0<d\/b<a.getD i 0\/(0<i/\a.getD i 0<=a.getD (i -1) 0) by omega),decide_eq_true f];rfl
  .unfold wx;rw[aG]
 rw[show LC.loop (λg=>wx LC a d b g) 0=_ from j,aa]
 by_cases c:cj d b a
 .rw[if_pos (λi e=>decide_eq_false (by rw[hD];exact c i e)),decide_eq_true c];rfl
 .rw[if_neg (λf=>c λi e=>by have:=of_decide_eq_false (f i e);rw[hD] at this;exact this),decide_eq_false c];rfl
def cj.mem{a b:Int}{l:List Int}(h:cj a b l){x:Int}(c:x∈l):a<=x/\x<=b:=by
 obtain⟨i,hi,rfl⟩:=j1.1 c;have:=h i hi;rw[pu (dk hi)] at this;exact⟨this.1,this.2.1⟩
def cj.lt{a b:Int}{l:List Int}(h:cj a b l):∀{i c:Nat},i<c->c<l.length->l.getD i 0<l.getD c 0:=by
 intro i c m
 induction c with
 |zero=>omega
 |succ c j=>
  intro k;have d:=(h (c+1) k).2.2 (by omega);rw[show c+1 -1=c by omega] at d
  by_cases e:i=c
  .rw[e];exact d
  .exact Int.lt_trans (j (by omega) (by omega)) d
def cj.len{a b:Int}{l:List Int}(h:cj a b l)(j:a<=b+1):(l.length:Int)<=b -a+1:=by
 have key:∀i:Nat,i<l.length->a+i<=l.getD i 0:=by
  intro i
  induction i with
  |zero=>intro hi;have:=(h 0 hi).1;omega
  |succ i c=>
   intro hi;have d:=c (by omega);have e:=h.lt (show i<i+1 by omega) hi;omega
 by_cases h0:l.length=0
 .omega
 .have d:=key (l.length -1) (by omega);have e:=(h (l.length -1) (by omega)).2.1;omega
def cj.nil{a b:Int}:cj a b []:=λi hi=>by simp at hi
def cj.one{a b x:Int}(c:a<=x)(d:x<=b):cj a b [x]:=λi hi=>by
 have:i=0:=by simpa using hi
 subst this;exact⟨c,d,λh=>by omega⟩
def jx(a:Nat)(r:aZ):Prop:=
 (0<=r.an/\r.an<a/\0<=r.To/\r.To<a/\r.an≠r.To)/\(1<=r.aj3/\r.aj3<=100000/\1<=r.bT/\r.bT<=1000)/\
 (1<=r.anC.eF/\r.anC.eF<=r.anC.fk/\r.anC.fk<=262144)/\(-2199023255552<=r.eI.eF/\r.eI.eF<=r.eI.fk/\r.eI.fk<=2199023255552)
instance (a:Nat) (r:aZ):Decidable (jx a r):=by unfold jx;infer_instance
def cP(a:ak):Prop:=a.ai.length<=64/\a.af.length<=128/\(∀p,p∈a.ai->-10000<=p.eU/\p.eU<=10000)/\∀r,r∈a.af->jx a.ai.length r
instance (a:ak):Decidable (cP a):=by unfold cP;infer_instance
def Tp(a:bI)(c b:Int):yQ LC a c b=c6 (c5 (c<=a.eF/\a.eF<=a.fk/\a.fk<=b)):=by
 unfold yQ;exact fm (fm rfl)
def de{d:Type}{b:Bool}{c a:d}:(bif (!b) then c else a)=bif b then a else c:=by cases b <;> rfl
def fh{p q:Prop}[Decidable p][Decidable q]{b:Option Bool}(d:b=c6 (decide q)):(bif (!decide p) then c6 true else b)=c6 (c5 (¬p\/q)):=by
 by_cases a:p
 .rw[decide_eq_true a,oq,cond_false,d]
  congr 1
  exact decide_eq_decide.2 ⟨.inr,λe=>e.resolve_left (λc=>c a)⟩
 .rw[decide_eq_false a,o7,cond_true,decide_eq_true (.inl a)]
def lA{p:Prop}[Decidable p]:c6 (!decide p)=c6 (c5 (¬p)):=by rw[decide_not]
def VM(a:ak):∃h:Int,zG LC a=c6 h/\(h=0↔cP a):=by
 unfold zG;rw[ew rfl,aa]
 by_cases h0:64<(a.ai.length:Int)\/128<(a.af.length:Int)
 .rw[aC h0];exact⟨2,rfl,⟨λb=>absurd b (by decide),λb=>by have g:=b.1;have A:=b.2.1;omega⟩⟩
 rw[aG h0];have w:bO (λe=>yL LC a e) 0=c6 (if ∀i,i<a.ai.length->(λi:Nat=>match a.ai[i]? with |some p=>c5 (p.eU< -10000\/10000<p.eU) |none=>false) i=false then .inr () else .inl ()):=by
  refine oD _ _ () (λi c=>?_) ?_
  .unfold yL;rw[aC,bn,dk c,aa,ew rfl,aa,aJ]
   by_cases f:a.ai[i].eU< -10000\/10000<a.ai[i].eU
   .rw[decide_eq_true f];simp only[dk c,decide_eq_true f,cond_true]
   .rw[decide_eq_false f];simp only[dk c,decide_eq_false f,cond_false]
  .unfold yL;rw[aG]
 rw[show LC.loop (λe=>yL LC a e) 0=_ from w,aa]
 by_cases g:∀p,p∈a.ai->-10000<=p.eU/\p.eU<=10000
 .rw[if_pos (λi c=>by
   dsimp only;rw[dk c];have:=g _ (j6 c);exact decide_eq_false (by omega))]
  rw[yv];have v:bO (λe=>vX LC a e) 0=c6 (Kp (jv (λi=>match a.af[i]? with
   |some r=>if ¬(0<=r.an/\r.an<a.ai.length/\0<=r.To/\r.To<a.ai.length/\r.an≠r.To) then c6 (4:Int) else if jx a.ai.length r then c7 else c6 1
   |none=>c7) 0 a.af.length) ()):=by
   refine Hf _ _ () (λi c=>?_) ?_
   .unfold vX;rw[aC,bn,dk c,aa,ew (ew (ew (ew rfl))),aa];dsimp only;generalize a.af[i]=r
    by_cases k:0<=r.an/\r.an<a.ai.length/\0<=r.To/\r.To<a.ai.length/\r.an≠r.To
    .rw[aG,if_neg (λb=>b k),ew (ew (ew rfl)),aa]
     by_cases n:1<=r.aj3/\r.aj3<=100000/\1<=r.bT/\r.bT<=1000
     .rw[aG,Tp,Tp,aa,aa,lA,fh rfl,aa]
      by_cases j:jx a.ai.length r
      .rw[if_pos j,aG (by have x:=j.2.2.1;have d:=j.2.2.2;omega),aJ];rfl
      .rw[if_neg j,aC (by
        by_cases q:1<=r.anC.eF/\r.anC.eF<=r.anC.fk/\r.anC.fk<=262144
        .exact .inr λu=>j ⟨k,n,q,u⟩
        .exact .inl q)];rfl
     .rw[aC,if_neg (λb=>n b.2.1)];rfl
    .rw[aC,if_pos k];rfl
   .unfold vX;rw[aG]
  rw[show LC.loop (λe=>vX LC a e) 0=_ from v,aa];cases o:jv (λi=>match a.af[i]? with
   |some r=>if ¬(0<=r.an/\r.an<a.ai.length/\0<=r.To/\r.To<a.ai.length/\r.an≠r.To) then c6 (4:Int) else if jx a.ai.length r then c7 else c6 1
   |none=>c7) 0 a.af.length with
  |some h=>
   obtain⟨m,_,x,d,_⟩:=yO o;have t:m<a.af.length:=by omega
   rw[dk t] at d;dsimp only at d;have s:h≠0/\¬jx a.ai.length a.af[m]:=by
    split at d
    .rename_i l;injection d with d
     exact⟨by omega,λb=>l b.1⟩
    .split at d
     .cases d
     .rename_i l;injection d with d
      exact⟨by omega,l⟩
   exact⟨h,rfl,⟨λb=>absurd b s.1,λb=>absurd (b.2.2.2 _ (j6 t)) s.2⟩⟩
  |none=>
   refine⟨0,rfl,⟨λ_=>⟨by omega,by omega,g,λr y=>?_⟩,λ_=>rfl⟩⟩
   obtain⟨i,c,rfl⟩:=j1.1 y;have:=(xk.1 o) i (ei _) (by omega);rw[dk c] at this;dsimp only at this
   split at this
   .cases this
   .split at this
    .assumption
    .cases this
 .rw[if_neg (λf=>g λp z=>by
   obtain⟨i,c,rfl⟩:=j1.1 z;have:=f i c;dsimp only at this;rw[dk c] at this;have:=of_decide_eq_false this;omega)]
  exact⟨1,rfl,⟨λb=>absurd b (by decide),λb=>absurd b.2.2.1 g⟩⟩
def ko(a:ak):ij LC a=c6 (c5 (cP a)):=by
 obtain⟨d,b,c⟩:=VM a;unfold ij;rw[b,aa]
 congr 1
 exact decide_eq_decide.2 c
def Sm{a:Type}(b:List a):Prop:=b.length<=1000000
def pr{c:Type}{b:Nat}{a:List c}(f:b<=100)(e:Sm a):bj b [] a=c6 a:=by
 rw[pN]
 .rfl
 .have d:a.length<=1000000:=e;have:a.length*b<=1000000*100:=vd d f;simp only[ta,j3];omega
def dm{c:Type}{b:Nat}{a:List c}{d:c}(e:b<=100)(f:a.length<=2000000):bj b a [d]=c6 (a++[d]):=by
 refine pN ?_
 have:(a.length+1)*b<=2000001*100:=vd (by omega) e;simp only[m4,ta,j3];omega
def bV{a:List Int}(b:Sm a):cc LC a=c6 a:=pr (by decide) b
def mV{a:List bP}(b:Sm a):kF LC a=c6 a:=pr (by decide) b
def nk{a:List aZ}(b:Sm a):kQ LC a=c6 a:=pr (by decide) b
def Ep{a:List bC}(b:Sm a):rf LC a=c6 a:=pr (by decide) b
def zS{a:List bI}(b:Sm a):q9 LC a=c6 a:=pr (by decide) b
def wE{a:List cy}(b:Sm a):pI LC a=c6 a:=pr (by decide) b
def jg{a:Type}{b done rest:List a}{c:a}(d:b=done++c::rest):aj b (done.length:Int)=c6 c:=by
 subst d;rw[bn,e6 (dv _),q5]
 rfl
def jm{b e j:Type}{f:e->Option (e⊕j)}(a:List b)(c:List b->Int->e)(d:List b->j)
 (m:∀(done:List b) (h:b) (o:List b),a=done++h::o->f (c done (done.length:Int))=c6 (.inl (c (done++[h]) ((done.length:Int)+1)))) (k:f (c a (a.length:Int))=c6 (.inr (d a))):bO f (c [] 0)=c6 (d a):=by
 have:=nV (f:=f) a.length (λi=>c (a.take i) (i:Int)) (d a) (λi n=>?_) (by simpa using k)
 .simpa using this
 .have g:=m (a.take i) a[i] (a.drop (i+1)) (by rw[<-List.drop_eq_getElem_cons n,kd]);have l:(a.take i).length=i:=by rw[dt];omega
  rw[l,List.take_append_getElem] at g;exact g
def iy{a:Type}{b done e:List a}{d:a}(c:b=done++d::e):(done.length:Int)<(b.length:Int):=by
 subst c;rw[ea,m4];omega
def ks{a:Type}{c done e:List a}{b:a}(d:c=done++b::e):b∈c:=by subst d;simp
def MZ(c:Int):∀a,(mM c a).Perm (c::a)
 |[]=>.refl _
 |b::a=>by
  unfold mM;cases c5 (c<=b) with
  |true=>exact .refl _
  |false=>exact((MZ c a).cons b).trans (.swap c b a)
def uK:∀a,(dQ a).Perm a
 |[]=>.refl _
 |b::a=>(MZ b (dQ a)).trans ((uK a).cons b)
def uP(a:List Int):(dQ a).length=a.length:=(uK a).length_eq
def zF{a:List Int}(b:Sm a):rl LC a=c6 (dQ a):=by
 unfold rl rC;have c:a.length<=1000000:=b;rw[show x2 a.length 140737488355328=true from ng (by omega)]
 rfl
def Iy{a:List Int}(b:Sm a):rG LC a=c6 (dQ a):=by
 unfold rG Kx IA;rw[pr (by decide) b,aa,aa,zF b,aa]
def lz(a:List Int):Prop:=cj 1 65535 (dQ a)
instance (a:List Int):Decidable (lz a):=by unfold lz;infer_instance
def KN{a:List Int}(b:Sm a):ym LC a=c6 (c5 (lz a)):=by
 unfold ym qK;have c:a.length<=1000000:=b;rw[aa,Iy b,aa,kw _ _ _ (by rw[uP];omega),aa]
 rfl
def O6{a:List Int}(b:Sm a):AI LC a=c6 (c5 (lz a)):=KN b
def cj.nodup{a b:Int}{l:List Int}(h:cj a b l):l.Nodup:=by
 refine List.pairwise_iff_getElem.2 λi k hi c d e=>?_
 have j:=h.lt d c;rw[pu (dk hi),pu (dk c),e] at j;omega
def lz.nodup{l:List Int}(h:lz l):l.Nodup:=(uK l).nodup_iff.1 (cj.nodup h)
def lS(a:Nat)(r:aS):Prop:=r.ai.length≠0/\cj 0 ((a:Int) -1) r.ai/\(1<=r.dX/\r.dX<=600)/\(0<=r.dY/\r.dY<=10)/\0<=r.cR/\r.cR<=60
instance (a:Nat) (r:aS):Decidable (lS a r):=by unfold lS;infer_instance
def uG(a:ak)(b:List aS):Prop:=cP a/\b.length<=32/\∀r,r∈b->lS a.ai.length r
instance (a:ak) (b:List aS):Decidable (uG a b):=by unfold uG;infer_instance
def X7{d:ak}{r:aS}(g:d.ai.length<=64)(f:r.ai.length<=4611686018427387904):wN LC r d=c6 (!c5 (lS d.ai.length r)):=by
 unfold wN;rw[aJ,kw _ _ _ f,aa,cF,aa,cF,aa,cF,aa,lA,fh (fh (fh rfl)),ew rfl,lA]
 congr 1
 apply decide_eq_decide.2
 unfold lS
 by_cases e:(r.ai.length:Int)=0
 .exact⟨λ_ a=>a.1 (by omega),λ_=>.inl e⟩
 .refine⟨λa c=>?_,λa=>.inr ?_⟩
  .rcases a with a |a |a |a |a
   .exact e a
   .exact a c.2.1
   .exact a c.2.2.1
   .exact a c.2.2.2.1
   .exact a c.2.2.2.2
  .refine gb λb=>a ?_
   simp only[not_or,hD] at b;exact⟨by omega,b.1,b.2.1,b.2.2.1,b.2.2.2⟩
def ot{b:Type}{p:b->Prop}[DecidablePred p]{c:List b}:(!c.any λa=>!c5 (p a))=c5 (∀a,a∈c->p a):=by
 rw[sT,decide_eq_true_iff];simp
abbrev Fit{a:Type}(b:List a):Prop:=b.length<=4611686018427387904
def Pm(a:ak)(l:List aS)(g:∀r,r∈l->Fit r.ai):wI LC a l=c6 (c5 (uG a l)):=by
 unfold wI;rw[ko,aa]
 by_cases c:cP a
 .rw[aC c]
  by_cases e:(l.length:Int)<=32
  .rw[aC e];have h:El LC l a=c6 (l.any λr=>!c5 (lS a.ai.length r)):=by
    unfold El Fh;have:=fF (l:=l) (P:=λr=>wN LC r a) (p:=λr=>!c5 (lS a.ai.length r)) (f:=λd=>Ha LC l a d) (by omega) (λr i=>X7 c.1 (g r i)) (λd=>rfl);rw[show(LC.loop (λd=>Ha LC l a d) 0).bind _=_ from this,aa,gm]
   rw[h,aa,ot]
   congr 1
   exact decide_eq_decide.2 ⟨λb=>⟨c,by omega,b⟩,λb=>b.2.2⟩
  .rw[aG e,decide_eq_false (λb=>e (by have:=b.2.1;omega))]
 .rw[aG c,decide_eq_false (λb=>c b.1)]
def jo(a:ak)(p:Int):Int:=match a.ai[p.toNat]? with |some b=>b.eU |none=>0
def fy(a:ak)(r:aZ)(b:Bool):Int:=if b then -(jo a r.To -jo a r.an) else jo a r.To -jo a r.an
def wt(b:ak)(r:aZ)(a:Bool)(d c e:Int):Int:=
 if r.eN=true\/r.jy=false then -1 else(10*r.aj3+(if r.aj3<10*fy b r a then d else if r.aj3< -10*fy b r a then c else e) -1)/ (if r.aj3<10*fy b r a then d else if r.aj3< -10*fy b r a then c else e)
def Ph{a:ak}(g:cP a){i:Nat}{r:aZ}(j:a.af[i]?=c6 r)(b:Bool)(p:kD)(f:(1<=p.up/\p.up<=100)/\(1<=p.down/\p.down<=100)/\1<=p.level/\p.level<=100):
 xu LC a (i:Int) b p=c6 (wt a r b p.up p.down p.level):=by
 obtain⟨⟨t,F,o,C,G⟩,⟨E,I,D,B⟩,_⟩:=g.2.2.2 r (fC j);unfold xu;rw[bn,j,aa];unfold wt;have u:(bif r.eN then c6 true else c6 (!r.jy))=c6 (c5 (r.eN=true\/r.jy=false)):=by cases r.eN <;> cases r.jy <;> rfl
 rw[u,aa]
 by_cases e:r.eN=true\/r.jy=false
 .rw[aC e,if_pos e]
 rw[aG e,if_neg e];have m:aj a.ai r.To=c6 (a.ai[r.To.toNat]'(by omega)):=qC o (by omega);have z:aj a.ai r.an=c6 (a.ai[r.an.toNat]'(by omega)):=qC t (by omega);have k:jo a r.To=(a.ai[r.To.toNat]'(by omega)).eU:=by unfold jo;rw[dk (by omega)]
 have h:jo a r.an=(a.ai[r.an.toNat]'(by omega)).eU:=by unfold jo;rw[dk (by omega)]
 have x:=g.2.2.1 _ (j6 (show r.To.toNat<a.ai.length by omega));have y:=g.2.2.1 _ (j6 (show r.an.toNat<a.ai.length by omega));rw[m,aa,z,aa, <-k, <-h];rw[<-k] at x;rw[<-h] at y;have q:(bif b then c6 (c3 c4 (0 -c3 c4 (jo a r.To -jo a r.an))) else c6 (c3 c4 (jo a r.To -jo a r.an)))=c6 (fy a r b):=by
  unfold fy;rw[aJ (n:=jo a r.To -jo a r.an),aJ (n:=0 - (jo a r.To -jo a r.an))];cases b
  .rfl
  .simp only[cond_true,if_true];congr 1;omega
 have H: -20000<=fy a r b/\fy a r b<=20000:=by unfold fy;split <;> omega
 rw[q,aa,aJ (n:=10*fy a r b),aJ (n:=-10*fy a r b)];have s:(bif c5 (r.aj3<10*fy a r b) then c6 p.up else(bif c5 (r.aj3< -10*fy a r b) then c6 p.down else c6 p.level).bind λA=>c6 A)=c6 (if r.aj3<10*fy a r b then p.up else if r.aj3< -10*fy a r b then p.down else p.level):=by
  by_cases c:r.aj3<10*fy a r b
  .rw[aC c,if_pos c]
  .rw[aG c,if_neg c]
   by_cases d:r.aj3< -10*fy a r b
   .rw[aC d,if_pos d];rfl
   .rw[aG d,if_neg d];rfl
 rw[s,aa];have w:1<=(if r.aj3<10*fy a r b then p.up else if r.aj3< -10*fy a r b then p.down else p.level)/\(if r.aj3<10*fy a r b then p.up else if r.aj3< -10*fy a r b then p.down else p.level)<=100:=by
  split
  .exact f.1
  .split
   .exact f.2.1
   .exact f.2.2
 generalize (if r.aj3<10*fy a r b then p.up else if r.aj3< -10*fy a r b then p.down else p.level)=v at w⊢;rw[aJ (n:=10*r.aj3),aJ (n:=10*r.aj3+v),aJ (n:=10*r.aj3+v -1),Ek (by omega),aa];have l:(10*r.aj3+v -1).tdiv v=(10*r.aj3+v -1)/v:=Int.tdiv_eq_ediv_of_nonneg (by omega);have h0:0<=(10*r.aj3+v -1)/v:=Int.ediv_nonneg (by omega) (by omega);have c:(10*r.aj3+v -1)/v<=10*r.aj3+v -1:=r4 _ (by omega);rw[l,aJ]
def aoC{a:ak}{r:aZ}{b:Bool}{d c e:Int}(i:1<=r.aj3/\r.aj3<=100000)(f:(1<=d/\d<=100)/\(1<=c/\c<=100)/\1<=e/\e<=100):wt a r b d c e= -1\/(1<=wt a r b d c e/\wt a r b d c e<=1000099):=by
 unfold wt
 split
 .exact .inl rfl
 .right
  have g:1<=(if r.aj3<10*fy a r b then d else if r.aj3< -10*fy a r b then c else e)/\(if r.aj3<10*fy a r b then d else if r.aj3< -10*fy a r b then c else e)<=100:=by
   split
   .exact f.1
   .split
    .exact f.2.1
    .exact f.2.2
  generalize (if r.aj3<10*fy a r b then d else if r.aj3< -10*fy a r b then c else e)=v at g⊢;have h:(10*r.aj3+v -1)/v<=10*r.aj3+v -1:=r4 _ (by omega);refine⟨?_,by omega⟩
  refine Int.le_ediv_of_mul_le (by omega) ?_
  omega
def wT(a:ak)(i:Int)(b:Bool)(e d c:Int):Int:=if cP a/\0<=i then(match a.af[i.toNat]? with |some r=>wt a r b e d c |none=>-1) else -1
def rF(a:ak)(i:Int)(b:Bool){u d l:Int}(c:(1<=u/\u<=100)/\(1<=d/\d<=100)/\1<=l/\l<=100):wT a i b u d l= -1\/(1<=wT a i b u d l/\wT a i b u d l<=1000099):=by
 unfold wT
 split
 .rename_i f
  split
  .rename_i r e;have:=(f.1.2.2.2 r (fC e)).2.1;exact aoC ⟨this.1,this.2.1⟩ c
  .exact .inl rfl
 .exact .inl rfl
def Oz(a:ak)(i:Int):((ij LC a).bind λb=>bif (!b) then c6 true else bif c5 (i<0) then c6 true else c6 (c5 ((a.af.length:Int)<=i)))=c6 (c5 (¬cP a\/i<0\/(a.af.length:Int)<=i)):=by
 rw[ko,aa,fh (ew rfl)]
def Cv(c:ak)(i:Int)(b:Bool):rO LC c i b=c6 (wT c i b 6 9 12):=by
 unfold rO;rw[Oz,aa];unfold wT
 by_cases a:¬cP c\/i<0\/(c.af.length:Int)<=i
 .rw[aC a]
  split
  .rename_i d;have j:(c.af.length:Int)<=i:=by
    rcases a with a |a |a
    .exact absurd d.1 a
    .omega
    .exact a
   rw[hQ (by omega)]
  .rfl
 .rw[aG a];have e:cP c:=gb λh=>a (.inl h)
  have f:i.toNat<c.af.length:=by
   have:¬(c.af.length:Int)<=i:=λd=>a (.inr (.inr d))
   have:¬i<0:=λd=>a (.inr (.inl d))
   omega
  have h0:¬i<0:=λd=>a (.inr (.inl d))
  rw[if_pos ⟨e,by omega⟩,dk f];unfold FX G5;have g:i=((i.toNat:Nat):Int):=by omega
  rw[aa]
  conv=>lhs;rw[g]
  rw[Ph e (dk f) b _ (by decide)]
  rfl
def AF(c:ak)(i:Int)(b:Bool):nK LC c i b=c6 (wT c i b 2 3 4):=by
 unfold nK;rw[Oz,aa];unfold wT
 by_cases a:¬cP c\/i<0\/(c.af.length:Int)<=i
 .rw[aC a]
  split
  .rename_i d;have j:(c.af.length:Int)<=i:=by
    rcases a with a |a |a
    .exact absurd d.1 a
    .omega
    .exact a
   rw[hQ (by omega)]
  .rfl
 .rw[aG a];have e:cP c:=gb λh=>a (.inl h)
  have f:i.toNat<c.af.length:=by
   have:¬(c.af.length:Int)<=i:=λd=>a (.inr (.inr d))
   have:¬i<0:=λd=>a (.inr (.inl d))
   omega
  have h0:¬i<0:=λd=>a (.inr (.inl d))
  rw[if_pos ⟨e,by omega⟩,dk f];unfold Fx;have g:i=((i.toNat:Nat):Int):=by omega
  rw[aa]
  conv=>lhs;rw[g]
  rw[Ph e (dk f) b _ (by decide)]
  rfl
def mQ(a:ak)(i p:Int):Int:=
 if 0<=i then(match a.af[i.toNat]? with |some r=>if p=r.an then wT a i false 6 9 12 else if p=r.To then wT a i true 6 9 12 else -1 |none=>-1) else -1
def Tt(a:ak)(i p:Int)(f:a.af.length<=4611686018427387904):yM LC a i p=c6 (mQ a i p):=by
 unfold yM mQ;rw[aJ,cF,aa,de]
 by_cases d:0<=i/\i<=(a.af.length:Int) -1
 .have e:i.toNat<a.af.length:=by omega
  have g:aj a.af i=c6 a.af[i.toNat]:=qC d.1 (by omega);rw[aC d,g,aa,aa,if_pos d.1,dk e];dsimp only
  by_cases b:p=a.af[i.toNat].an
  .rw[aC b,if_pos b,Cv,aa]
  .rw[aG b,if_neg b]
   by_cases c:p=a.af[i.toNat].To
   .rw[aC c,if_pos c,Cv,aa]
   .rw[aG c,if_neg c]
 .rw[aG d]
  by_cases h0:0<=i
  .rw[if_pos h0,hQ (by omega)]
  .rw[if_neg h0]
def sq(b:ak)(a:bC):Prop:=(0<=a.abG/\a.abG<=(b.ai.length:Int) -1)/\(if a.akw= -1 then a.ami=0 else 0<=mQ b a.akw a.abG/\1<=a.ami/\a.ami<=2147483648)
instance (a:ak) (b:bC):Decidable (sq a b):=by unfold sq;infer_instance
def Vs{b:ak}(a:bC)(d:cP b):BS LC b a=c6 (c5 (sq b a)):=by
 have e:=d.1;have f:=d.2.1;unfold BS sq;rw[aJ,cF,aa,de,Tt _ _ _ (by omega),aa,cF,aa,fm (p:=0<=mQ b a.akw a.abG) rfl]
 by_cases c:a.akw= -1
 .simp only[if_pos c];rw[aC c];exact fm rfl
 .simp only[if_neg c];rw[aG c];exact fm rfl
def sj(a:aB)(i:Nat):Prop:=∃r c b e,a.aQ[i]?=c6 r/\a.cn[i]?=c6 c/\a.cf[i]?=c6 b/\a.bp[i]?=c6 e/\(-1<=c/\c<=65535)/\(-1<=b/\b<=a.aa0)/\(c= -1↔b= -1)/\e.length=a.aN.length/\∀d,d∈e->0<=d/\d<=r.dY
def fw(a:aB):Prop:=uG a.ao a.aQ/\(1<=a.aN.length/\a.aN.length<=12)/\a.aw.length=a.aN.length/\lz a.aw/\(0<=a.aa0/\a.aa0<=2147483648)/\a.cn.length=a.aQ.length/\a.cf.length=a.aQ.length/\a.bp.length=a.aQ.length/\
 (∀i,i<a.aQ.length->sj a i)/\∀b,b∈a.aN->sq a.ao b
noncomputable instance (a:aB) (i:Nat):Decidable (sj a i):=m6 _
noncomputable instance (a:aB):Decidable (fw a):=m6 _
def abJ{l:List Int}{b:aB}{i:Nat}{r:aS}(d:b.aQ[i]?=c6 r)(e:Fit l):BW LC l b (i:Int)=c6 (l.any λa=>!c5 (0<=a/\a<=r.dY)):=by
 unfold BW Iq;have:=fF (l:=l) (P:=λa=>Ao LC a b (i:Int)) (p:=λa=>!c5 (0<=a/\a<=r.dY)) (f:=λc=>Kl LC l b (i:Int) c) e (λa g=>by
  unfold Ao;rw[bn,d,aa,cF,aa]) (λc=>rfl)
 rw[show(LC.loop (λc=>Kl LC l b (i:Int) c) 0).bind _=_ from this,aa,gm]
def ajZ{l:List bC}{a:aB}(e:cP a.ao)(g:Fit l):zH LC l a=c6 (l.any λd=>!c5 (sq a.ao d)):=by
 unfold zH Gd;have:=fF (l:=l) (P:=λb=>DB LC b a) (p:=λb=>!c5 (sq a.ao b)) (f:=λc=>Gl LC l a c) g (λb h=>by
  unfold DB;rw[Vs _ e,aa]) (λc=>rfl)
 rw[show(LC.loop (λc=>Gl LC l a c) 0).bind _=_ from this,aa,gm]
def HA{c:Type}{p:c->Prop}[DecidablePred p]{b:List c}:(b.any λa=>!c5 (p a))=c5 (¬∀a,a∈b->p a):=by
 rw[<-Bool.not_not (b.any _),ot,decide_not]
def xf(c:aB)(K:∀r,r∈c.aQ->Fit r.ai):pV LC c=c6 (c5 (fw c)):=by
 unfold pV;rw[Pm _ _ K,aa,cF,aa]
 by_cases g:uG c.ao c.aQ
 rotate_left
 .rw[decide_eq_false g];simp only[o7,cond_true,aa];rw[decide_eq_false (λa=>g a.1)]
 by_cases m:1<=(c.aN.length:Int)/\(c.aN.length:Int)<=12
 rotate_left
 .rw[decide_eq_true g,decide_eq_false m];simp only[o7,oq,cond_true,cond_false,aa];rw[decide_eq_false (λa=>m (by have:=a.2.1;omega))]
 by_cases z:(c.aw.length:Int)=(c.aN.length:Int)
 rotate_left
 .rw[decide_eq_true g,decide_eq_true m];simp only[oq,cond_false];rw[aC z,aa];simp only[cond_true];rw[decide_eq_false (λa=>z (by have:=a.2.2.1;omega))]
 rw[KN (by show c.aw.length<=1000000;omega),aa,cF,aa,ew (ew rfl),fh rfl,fh rfl,ew rfl,fh rfl,fh rfl,aa]
 by_cases D:lz c.aw/\(0<=c.aa0/\c.aa0<=2147483648)/\(c.cn.length:Int)=c.aQ.length/\(c.cf.length:Int)=c.aQ.length/\(c.bp.length:Int)=c.aQ.length
 rotate_left
 .rw[aC (by
   refine .inr (.inr (.inr (gb λd=>D ?_)))
   simp only[not_or,hD] at d;exact⟨d.1,d.2.1,d.2.2.1,d.2.2.2.1,d.2.2.2.2⟩)]
  rw[decide_eq_false (λa=>D (by obtain⟨_,_,_,u,p,F,G,E,_⟩:=a;exact⟨u,p,by omega,by omega,by omega⟩))]
 obtain⟨u,p,F,G,E⟩:=D;rw[aG (by
  intro a;rcases a with a |a |a |a |a |a |a |a
  .exact a g
  .exact a m
  .exact a z
  .exact a u
  .exact a p
  .exact a F
  .exact a G
  .exact a E)]
 have N:=g.2.1;have J:bO (λw=>xm LC c w) 0=c6 (if ∀i,i<c.aQ.length->(λi:Nat=>c5 (¬sj c i)) i=false then .inr () else .inl ()):=by
  refine oD _ _ () (λi l=>?_) ?_
  .obtain⟨r,A⟩:∃r,c.aQ[i]?=c6 r:=⟨_,dk l⟩;obtain⟨e,x⟩:∃e,c.cn[i]?=c6 e:=⟨_,dk (by omega)⟩;obtain⟨b,y⟩:∃b,c.cf[i]?=c6 b:=⟨_,dk (by omega)⟩;obtain⟨f,C⟩:∃f,c.bp[i]?=c6 f:=⟨_,dk (by omega)⟩;have k:sj c i↔((-1<=e/\e<=65535)/\(-1<=b/\b<=c.aa0)/\(e= -1↔b= -1)/\f.length=c.aN.length/\∀h,h∈f->0<=h/\h<=r.dY):=by
    constructor
    .rintro⟨L,O,M,P,o,s,t,n,B⟩;rw[A] at o;rw[x] at s;rw[y] at t;rw[C] at n;injection o with o;injection s with s;injection t with t;injection n with n
     subst o s t n;exact B
    .exact λa=>⟨r,e,b,f,A,x,y,C,a⟩
   unfold xm;rw[aC,bn,x,aa,cF,aa,bn,y,aa,cF,aa,aa,aa,bn,C,aa,aa];have B:(bif (c5 (e= -1) != c5 (b= -1)) then c6 true else c6 (c5 ((f.length:Int)≠(c.aN.length:Int))))=c6 (c5 (¬(e= -1↔b= -1)\/(f.length:Int)≠(c.aN.length:Int))):=by
    by_cases I:e= -1 <;> by_cases j:b= -1 <;> simp[I,j]
   rw[B,fh rfl,fh rfl,aa,aJ]
   by_cases q:(-1<=e/\e<=65535)/\(-1<=b/\b<=c.aa0)/\(e= -1↔b= -1)/\f.length=c.aN.length
   .rw[aG (by
     rintro(a |a |a |a)
     .exact a q.1
     .exact a q.2.1
     .exact a q.2.2.1
     .exact a (by have:=q.2.2.2;omega)),abJ A (by have:=q.2.2.2;show f.length<=_;omega),aa,HA]
    by_cases j:∀h,h∈f->0<=h/\h<=r.dY
    .rw[decide_eq_false (λa=>a j),decide_eq_false (λa=>a (k.2 ⟨q.1,q.2.1,q.2.2.1,q.2.2.2,j⟩))];rfl
    .rw[decide_eq_true j,decide_eq_true (show ¬sj c i from λa=>j (k.1 a).2.2.2.2)];rfl
   .rw[aC (by
     refine gb λd=>q ?_
     simp only[not_or,hD] at d;exact⟨d.1,d.2.1,d.2.2.1,by have:=d.2.2.2;omega⟩),decide_eq_true (show ¬sj c i from λa=>q ⟨(k.1 a).1,(k.1 a).2.1,(k.1 a).2.2.1,(k.1 a).2.2.2.1⟩)]
    rfl
  .unfold xm;rw[aG]
 rw[show LC.loop (λw=>xm LC c w) 0=_ from J,aa]
 by_cases v:∀i,i<c.aQ.length->sj c i
 .rw[if_pos (λi l=>decide_eq_false (λa=>a (v i l))),yv,ajZ g.1 (by show c.aN.length<=_;omega),aa,ot]
  congr 1
  exact decide_eq_decide.2 ⟨λa=>⟨g,by omega,by omega,u,p,by omega,by omega,by omega,v,a⟩,λa=>a.2.2.2.2.2.2.2.2.2⟩
 .rw[if_neg (λH=>v λi l=>by have:=of_decide_eq_false (H i l);exact j7 this),Sum.elim_inl,decide_eq_false (λa=>v a.2.2.2.2.2.2.2.2.1)]
end Go.X.T
