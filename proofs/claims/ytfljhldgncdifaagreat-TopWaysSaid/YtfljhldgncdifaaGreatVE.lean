/- For TopWays, part 5. -/
import Derived.Test.YtfljhldgncdifaaGreatVD
import Derived.Lib.AppendZerosOnto
import Derived.Lib.AppendZeros
import Derived.Lib.Walk
import Derived.Laws.Externs
import Derived.Laws.NewBlocks
import Derived.Deep.RegionLaw
import Derived.Shelf.Sort.Plain
import Derived.Shelf.Slices.In.SortNone
import Derived.Ground.Names2Prog
import Derived.Lib.Overlaps
import Derived.WalkKit
import Derived.Test.YtfljhldgncdifaaGreatProg
set_option linter.defProp false
set_option linter.unusedVariables false
set_option linter.unusedSimpArgs false
set_option maxHeartbeats 2000000
set_option maxRecDepth 100000
set_option maxHeartbeats 4000000
set_option maxHeartbeats 0
set_option maxRecDepth 1000000
open Go.IntKind renaming wrap → c3, i64 → c4, wrap_i64 → h8, signed → vd, wrap → yn, bits → yv, u64 → Kr, u8 → L0
open Decidable renaming decide → c5, byContradiction → gb, not_not → hD
open Option renaming some → c6, none → c7, bind_some → ef, bind_eq_some_iff → m1, map → tx
open Go.Proofs.Tryz renaming prog → dd, func147 → ee, func86 → ez, underlying53 → hB, func143 → j3, f163 → kc, f171 → m3, func46 → o6, func340 → pc, func244 → q2, func217 → q6, func221 → q7, func153 → q8, func160 → qa, func116 → qb, underlying3 → qq, f143 → r3, func44 → s5, func49 → s6, func73 → s7, f34 → u0, ntmps340 → vw, ntmps244 → wb, func145 → xv, func274 → xx, func273 → y0, func100 → y1, func300 → y2, func248 → y3, func228 → y4, func240 → y5, func284 → y6, func175 → y7, func299 → y8, func301 → y9, func256 → ya, func166 → yk, func113 → yl, func45 → z1, func78 → z8, func34 → A3, func84 → A4, func72 → E3
open List renaming getElem?_eq_getElem → dk, length_take → dt, getElem?_eq_some_iff → e4, length_drop → e5, getElem?_append_right → e6, length_append → ea, getElem?_append_left → ev, mem_singleton → eH, mem_of_getElem? → fe, getElem?_take → gv, getElem?_take_of_lt → h5, length_map → hq, mem_cons → hI, eq_nil_of_length_eq_zero → hM, getElem?_drop → hP, getElem?_eq_none → hQ, getElem?_map → hS, mem_of_mem_take → ie, mem_iff_getElem → ih, mem_map → j1, not_mem_nil → j4, getElem_mem → j5, pairwise_cons → j8, size_toArray → k0, take_append_drop → k8, mem_of_mem_drop → km, append_nil → l0, mem_append → l1, append_assoc → l3, length_cons → m4, drop_eq_nil_of_le → mb, take_of_length_le → n1, length → o3, map → o4, getElem?_range → oi, Pairwise → oj, take_left' → sn, length_nil → tc, take_take → tt, take → x1, drop → x2, append → z7
open Nat renaming le_refl → dv, zero_le → ei, beq → ey, mul_le_mul_right → hY, zero_add → j2, min_eq_left → j7, add_mul → l4, ble_eq_true_of_le → ng, min_def → o2, eq_zero_or_pos → p0, le_trans → q4, sub_self → q5, one_pos → r5, mul_one → rb, strongRecOn → sT, mul_le_mul → vl, ble → x3, le_of_eq → x9
open Go.Builtin renaming zeroCells → dT, copy_ → h7, firstCells → p6, append_ → sa
open Array renaming length_toList → e0, getElem?_toList → eE, getD_eq_getD_getElem? → ft, getElem?_setIfInBounds_self_of_lt → gx, getElem?_eq_getElem → h9, size_append → j9, getElem?_modify → k7, getElem?_push → o9
open Go.Result renaming andThen_ok → ec, andThen → k6, ok → x0
open Int renaming le_refl → ej, le_trans → hz, mul_le_mul_of_nonneg_right → kd, toNat_natCast → la, ediv_le_self → r4
open Go.Sem renaming run_bind → eo, run_pure → h6
open Go.Value renaming agg → ga, int → hK, slice → s3
open Go.World renaming cell?_setCells_out → gy, alloc_heap_new → hU, cell?_setCells_in → m2, putObj_heap_other → m5, frozen?_setCells → mx, cell?_alloc_past → my, frozen? → w3, setCell → wa, cell? → z6
open Go.RowKit.Below renaming heap_alloc → hL
open Go.Instr renaming checkKey → hX, findNow → kh, findKey → m0, lookup → ma, mapUpdate → s8
open Classical renaming byContradiction → j6, propDecidable → m6
open Go.Sort renaming putCells → kl, putRow → o1, ahead → p4, onCells → x5
open Go.Addr renaming add_lit → l2
open Sum renaming inr → n0, inl → o8, elim_inr → yy
open Go.Lib renaming wpList_append_run → n2
open Bool renaming not_false → o7, not_true → oq, false_eq_true → oS, eq_iff_iff → ta
open Go.Region renaming wanted → oo
open Go.Fence renaming wide → p7
open Go.Act renaming eval → q3, put → x6
open Go.Extern.SlicesOverlaps renaming overlaps → r0
open Option.some renaming inj → sp
open Go.Oper renaming wp → tj
namespace Go.X.T
open Go Go.Aml Go.Bml Go.X Go.RowKit Go.Proofs
def YQ(a:World)(e b:Obj):(a.alloc e).putObj a.heap.size b=a.alloc b:=by
 unfold World.putObj World.alloc;have:(a.heap.push e).setIfInBounds a.heap.size b=a.heap.push b:=by
  apply Array.ext_getElem?
  intro i;rw[Array.getElem?_setIfInBounds,o9,o9]
  by_cases c:a.heap.size=i
  .subst c;simp
  .rw[if_neg c,if_neg (λd=>c d.symm),if_neg (λd=>c d.symm)]
 rw[this]
def LK(b:World)(a:Obj):(b.alloc a).heap[b.heap.size]?=c6 a:=hU b a
def PG{c:Program}(b:World)(a:Array MapEntry)(i:Nat):(getObj b.heap.size).run c (b.alloc (.map a i))= .ok (.map a i) (b.alloc (.map a i)):=by
 have d:=LK b (.map a i);simp only[getObj,Sem.run,d]
def ag2{e:Program}(a:World)(b c:Array MapEntry)(i d:Nat):(setObj a.heap.size (.map c d)).run e (a.alloc (.map b i))= .ok () (a.alloc (.map c d)):=by
 have g:=LK a (.map b i);have f:=YQ a (.map b i) (.map c d);simp only[setObj,Sem.run,g];exact congrArg (x0 ()) f
def aaO{P:Program}{w0:World}{t kt et:TypeId}{es:Array MapEntry}{i:Nat}{k:Int}{v:Value}(c:P.underlying t=c6 (.map kt et))(a:P.underlying kt=c6 (.int .i64))(e:kh (.int .i64) (.int .i64 k) es.toList 0=c6 c7):
 (s8 t (.map (c6 w0.heap.size)) (.int .i64 k) v).run P (w0.alloc (.map es i))= .ok () (w0.alloc (.map (es.push ⟨.int .i64 k,v,i⟩) (i+1))):=by
 have d:(hX false (9999+1) kt (.int .i64 k)).run P (w0.alloc (.map es i))= .ok () (w0.alloc (.map es i)):=by
  unfold hX;simp only[eo,run_underlying a,ec,h6]
 have b:(m0 kt (.int .i64 k) es.toList).run P (w0.alloc (.map es i))= .ok c7 (w0.alloc (.map es i)):=by
  unfold m0;simp only[eo,run_underlying a,ec,e,h6]
 unfold s8;simp only[eo,run_underlying c,ec,PG];have f:(hX false 10000 kt (.int .i64 k)).run P (w0.alloc (.map es i))= .ok () (w0.alloc (.map es i)):=d;rw[f];simp only[ec,b,eo,ag2]
def PB(z:Value):Option (Nat×Value)->Value
 |some p=>p.2
 |none=>z
def anN{P:Program}{w0:World}{t kt et:TypeId}{es:Array MapEntry}{i:Nat}{k:Int}{r:Option (Nat×Value)}{z:Value}(d:P.underlying t=c6 (.map kt et))(a:P.underlying kt=c6 (.int .i64))(f:dV P et=c6 z)(g:kh (.int .i64) (.int .i64 k) es.toList 0=c6 r):
 (ma t (.map (c6 w0.heap.size)) (.int .i64 k) false).run P (w0.alloc (.map es i))= .ok (PB z r) (w0.alloc (.map es i)):=by
 have e:∀b,(hX b 10000 kt (.int .i64 k)).run P (w0.alloc (.map es i))= .ok () (w0.alloc (.map es i)):=λb=>by
  show(hX b (9999+1) kt (.int .i64 k)).run P _=_
  unfold hX;simp only[eo,run_underlying a,ec,h6]
 have c:(m0 kt (.int .i64 k) es.toList).run P (w0.alloc (.map es i))= .ok r (w0.alloc (.map es i)):=by
  unfold m0;simp only[eo,run_underlying a,ec,g,h6]
 unfold ma;simp only[eo,run_underlying d,ec,PG,h6,e,c];cases r with
 |none=>simp only[eo,Ey f,ec,h6,oS,if_false];rfl
 |some p=>simp only[eo,ec,h6,oS,if_false];rfl
def nv:Nat->Array MapEntry
 |0=>#[]
 |i+1=>(nv i).push ⟨.int .i64 ((i:Int)+1),.func (.func (103+i)) #[] #[],i⟩
def uj{b:Program}{f:Array Oper}{g:Exit->Act->World->Prop}{a:Oper}{d:List Oper}{c:Act}{h e:World}{v:Value}(j:a.guard=c7)(k:(execOp c.eval a).run b h= .ok (.value v) e)(l:wpList b f g d (c.put a.dst v) e):wpList b f g (a::d) c h:=
 wpList_plain j λm i=>by
  unfold tj;rw[k];exact i _ _ l
def lr{b:Program}{f:Array Oper}{g:Exit->Act->World->Prop}{a:Oper}{d:List Oper}{c:Act}{h e:World}(j:a.guard=c7)(k:(execOp c.eval a).run b h= .ok .skip e)(l:wpList b f g d (c.put a.dst undef) e):wpList b f g (a::d) c h:=
 wpList_plain j λm i=>by
  unfold tj;rw[k];exact i _ _ l
def kZ{a:Act}{w0:World}{k:Int}{f:Nat}{m:TypeId}{g:String}{c:Array Edge}(i:Nat)(h:a.eval (.tmp 3)= .map (c6 w0.heap.size))(b:k=(i:Int)+1:=by rfl)(j:f=103+i:=by rfl)(e:kh (.int .i64) (.int .i64 ((i:Int)+1)) (nv i).toList 0=c6 c7:=by rfl):
 (execOp a.eval ⟨c7,.insert 209 (.tmp 3) (.const (.int .i64 k)) (.func f),m,g,c,c7⟩).run dd (w0.alloc (.map (nv i) i))= .ok .skip (w0.alloc (.map (nv (i+1)) (i+1))):=by
 subst b;subst j;have d:a.eval (.const (.int .i64 ((i:Int)+1)))= .int .i64 ((i:Int)+1):=rfl;have l:a.eval (.func (103+i))= .func (.func (103+i)) #[] #[]:=rfl;have:=aaO (P:=dd) (w0:=w0) (t:=209) (kt:=3) (et:=134) (es:=nv i) (i:=i) (k:=(i:Int)+1) (v:=.func (.func (103+i)) #[] #[]) (by kernel_rfl) (by kernel_rfl) e;simp only[execOp,h,d,l,eo,this,ec,h6]
 rfl
def afd{b:Act}{d a:World}{c:Int}{v:Value}{f:TypeId}{g:String}{e:Array Edge}(h:b.eval (.tmp 4)= .map (c6 d.heap.size))(i:b.eval (.tmp 5)= .int .i64 c)(j:(ma 209 (.map (c6 d.heap.size)) (.int .i64 c) false).run dd a= .ok v a):
 (execOp b.eval ⟨c6 6,.lookup 209 (.tmp 4) (.tmp 5) false,f,g,e,c7⟩).run dd a= .ok (.value v) a:=by
 simp only[execOp,h,i];simp[j]
def apG(a:Int):∃r,kh (.int .i64) (.int .i64 a) (nv 13).toList 0=c6 r/\PB .nilFunc r=(match lK a with |none=>.nilFunc |some f=>.func (.func f) #[] #[]):=by
 by_cases e:1<=a/\a<=13
 .have:a=1\/a=2\/a=3\/a=4\/a=5\/a=6\/a=7\/a=8\/a=9\/a=10\/a=11\/a=12\/a=13:=by omega
  rcases this with rfl |rfl |rfl |rfl |rfl |rfl |rfl |rfl |rfl |rfl |rfl |rfl |rfl <;> exact⟨_,rfl,rfl⟩
 .have g:∀d:Int,1<=d->d<=13->(a==d)=false:=λd c b=>by
   rw[beq_eq_false_iff_ne];intro h;exact e ⟨by omega,by omega⟩
  refine⟨c7,?_,?_⟩
  .simp[nv,kh,Instr.sameNow,g]
  .have:lK a=c7:=by
    unfold lK
    by_cases c:1<=a
    .have b:¬a<=13:=λb=>e ⟨c,b⟩
     rw[decide_eq_true c,decide_eq_false b]
     rfl
    .rw[decide_eq_false c]
     rfl
   rw[this]
   rfl
def amx{a:Act}{e b:World}{d:Int}{v:Value}{j p:TypeId}{g n:String}{l r:Array Edge}{f:Array Oper}{c:Ending->World->Prop}(s:a.eval (.tmp 4)= .map (c6 e.heap.size))(h:a.eval (.tmp 5)= .int .i64 d)(t:a.tmps.size=7)(o:a.defers=[])
 (q:(ma 209 (.map (c6 e.heap.size)) (.int .i64 d) false).run dd b= .ok v b) (i:c (.returned v) b):
 wpList dd f (Exit.then (Code.ret.wp dd (bodyPost dd Tryz.f45 c)) (bodyPost dd Tryz.f45 c)) [⟨c6 6,.lookup 209 (.tmp 4) (.tmp 5) false,j,g,l,c7⟩,⟨c6 2,.assign (.tmp 6),p,n,r,c7⟩] a b:=by
 refine uj rfl (afd s h q) ?_
 have m:(a.put (c6 6) v).eval (.tmp 6)=v:=by
  show(a.tmps.setIfInBounds 6 v).getD 6 undef=v
  rw[ft,gx (by omega)]
  rfl
 refine uj (v:=v) rfl (by
  show x0 (Next.value ((a.put (c6 6) v).eval (.tmp 6))) b=_
  rw[m]) ?_
 refine wpList_nil (wp_ret ⟨o,v,?_,i⟩)
 rw[results_tmp rfl];have k:(((a.put (c6 6) v).put (c6 2) v).tmps).getD 2 undef=v:=by
  show((a.tmps.setIfInBounds 6 v).setIfInBounds 2 v).getD 2 undef=v
  rw[ft,gx (by simp;omega)]
  rfl
 exact congrArg (λz=>x0 z b) k
def K88(j:Lp):FT (FZ j):=by
 refine⟨pA z1 rfl rfl,λc l e g w vs q h n=>?_⟩
 have e:c6 (lK c)=c6 l:=e;injection e with e
 match vs,q with
 |[v],_=>
 have h0:=n 0;have s:v= .int .i64 c:=VR.fQ (g:=g) (w:=w) h0;subst s;refine calls_of_wp z1 rfl ?_
 refine wp_seq (wp_region_lit (uj rfl rfl ?_))
 show Code.wp _ _ _ _ _
 refine wp_seq (wp_region_lit (uj rfl rfl ?_))
 refine lr rfl (kZ 0 rfl) ?_
 refine lr rfl (kZ 1 rfl) ?_
 refine lr rfl (kZ 2 rfl) ?_
 refine lr rfl (kZ 3 rfl) ?_
 refine lr rfl (kZ 4 rfl) ?_
 refine lr rfl (kZ 5 rfl) ?_
 refine lr rfl (kZ 6 rfl) ?_
 refine lr rfl (kZ 7 rfl) ?_
 refine lr rfl (kZ 8 rfl) ?_
 refine lr rfl (kZ 9 rfl) ?_
 refine lr rfl (kZ 10 rfl) ?_
 refine lr rfl (kZ 11 rfl) ?_
 refine lr rfl (kZ 12 rfl) ?_
 refine uj rfl rfl (uj rfl rfl ?_)
 obtain⟨r,u,z⟩:=apG c;have o:dV dd 134=c6 .nilFunc:=by kernel_rfl
 have m:=anN (P:=dd) (w0:=w) (t:=209) (kt:=3) (et:=134) (es:=nv 13) (i:=13) (k:=c) (by kernel_rfl) (by kernel_rfl) o u;rw[z] at m;refine amx rfl rfl rfl rfl m ?_
 have a:Below w.heap.size w (w.alloc (.map (nv 13) 13)):=(Below.refl _ w).alloc (dv _) _;have p:(cz BT (FZ j).par c).H=[]:=rfl;have y:(cz BT (FZ j).az l)=⟨[(0,.jC l)],[]⟩:=rfl;rw[p] at h⊢;rw[y];obtain⟨x,A⟩:=GStep.lF (w':=w.alloc (.map (nv 13) 13)) (GStep.refl 0 g (av BT []) w) h a.os a.tape a.output a.size (λb d=>a.block b (h.fb b d)) (λr b B d=>a.block b (h.qD d)) (λb d=>a.block b d);refine⟨_,g,rfl,A,x,?_⟩
 subst e;show VR g (av BT []) _ (pv BT (.jC (lK c))) _
 cases lK c with
 |none=>exact .aW .dB
 |some f=>exact .aW (.fn f [] [] [] [] rfl (by simp) rfl (by simp))
def aiC(g:Program)(f:FuncId)(j h i:Nat):Prop:=
 ∀(a:World) (c:Nat),c*i<=140737488355328->c<=140737488355328->Calls g f #[.slice c7 0 0,.int .i64 c] a λe d=>(e= .returned (.slice c7 0 0)/\d=a)\/∃b cells,e= .returned (.slice (c6 ⟨a.heap.size,0,c7⟩) 0 b)/\cells.size=b*h/\b<=maxLen/\d=a.drew.alloc (.cells cells j)
section
open Go.RowKit
def acK:(dd.info? 3).map (λi=>(i.zero,i.size,i.bytes))=c6 (c6 (hK .i64 0),1,8):=by kernel_rfl
def aaj(w:World):Calls dd 340 #[.slice c7 0 0,.int .i64 0] w λe w'=>e= .returned (.slice c7 0 0)/\w'=w:=by
 go_enter pc,vw
 go_wp2
 go_ret
 exact⟨rfl,rfl⟩
def ak2(w:World)(n:Nat)(h0:0<n)(hb:n*8<=140737488355328)(hb2:n<=140737488355328):Calls dd 340 #[.slice c7 0 0,.int .i64 n] w λe w'=>e= .returned (.slice (c6 ⟨w.heap.size,0,c7⟩) 0 (grownCap w n 0 3))/\w'=w.drew.alloc (.cells (dT ((hK .i64 0):Value).cells n++dT ((hK .i64 0):Value).cells (grownCap w n 0 3 -n)) 3):=by
 obtain⟨i0,hi0,hz0,hzs,hzb⟩:=info_parts acK;have hrz:∀ty,(sa #[22,3] ty #[.slice c7 0 0,.int .i64 (n:Int)]).run dd w=_:=λty=>
  Lib.run_append_nil_zeros w 22 3 ty 3 i0 _ .i64 .i64 Tryz.underlying22 qq hi0 hz0 n h0 (by omega) (by omega) (by rw[hzb];omega)
 have hG:=grownCap_ge w n 0 3;have hG63:grownCap w n 0 3<=9223372036854775807:=grownCap_le_maxLen w n 0 3 (by unfold maxLen;omega);have hp:(0:Int)<(n:Int):=by omega
 generalize grownCap w n 0 3=G at hrz hG hG63⊢;have hG0:¬(G=0):=by omega
 go_enter pc,vw
 go_wp2_with (at_builtin;refine n2 _ rfl _ _ _ _ rfl _ _ rfl rfl _ _ (hrz _) ?_)
 go_ret
 exact⟨rfl,rfl⟩
def V0:aiC dd 340 3 1 8:=by
 intro b a c g;rcases p0 a with rfl |h0
 .exact(aaj b).mono λe d h=>.inl h
 .refine(ak2 b a h0 c g).mono ?_
  rintro e d ⟨rfl,rfl⟩;refine .inr ⟨_,_,rfl,?_,grownCap_le_maxLen b a 0 3 (by unfold maxLen;omega),rfl⟩
  have i:=grownCap_ge b a 0 3;have f:((hK .i64 0):Value).cells.size=1:=by decide
  simp only[j9,size_zeroCells,f];omega
def anw{g:Gh}{c:World}(l:bF g [] c)(f:Nat)(cells:Array Value)(h:Nat)(p:cells.size=h*1)(q:h<=maxLen):
 Bml.GStep 0 g [] c ⟨g.F,λr=>if r=0 then c6 (c.heap.size,h) else c7⟩ [⟨f,1,[],0⟩] (c.alloc (.cells cells f))/\bF ⟨g.F,λr=>if r=0 then c6 (c.heap.size,h) else c7⟩ [⟨f,1,[],0⟩] (c.alloc (.cells cells f)):=by
 refine⟨⟨rfl,rfl,rfl,by simp,λ_ a=>a,λb a=>hL c _ b (l.fb b a),λb a _=>hL c _ b a,λb a=>.inl a,λr b o a=>?_,λr m y e=>?_⟩,⟨λb a=>?_,λr s b C1 C2 k j=>?_,λr b o a=>?_,λr m e=>?_⟩⟩
 .dsimp only at a
  by_cases d:r=0
  .rw[if_pos d] at a;injection a with a
   injection a with a
   exact .inl (by omega)
  .rw[if_neg d] at a;cases a
 .omega
 .have:=l.fb b a;simp;omega
 .dsimp only at k j
  by_cases d:r=0
  .by_cases t:s=0
   .omega
   .rw[if_neg t] at j;cases j
  .rw[if_neg d] at k;cases k
 .dsimp only at a
  by_cases d:r=0
  .subst d;exact r5
  .rw[if_neg d] at a;cases a
 .match r,e with
  |0,e=>
   have e:c6 (⟨f,1,[],0⟩:aO)=c6 m:=e;injection e with e
   subst e;refine⟨r5,λi d u=>by simp at u,?_⟩
   simp only[if_true];exact⟨λn=>Nat.lt_irrefl _ (l.fb _ n),cells,hU c _,p,q,ei _,λi w x v=>by simp[abk] at v⟩
def aeg{by_:Nat}{n:Int}{y:List Int}(a:Ct by_ n=c6 y):∃d:Nat,n=(d:Int)/\d*by_<=140737488355328/\y=[]:=by
 unfold Ct at a;cases c:c5 ((0:Int)<=n) with
 |false=>rw[c] at a;cases a
 |true=>
  rw[c] at a;have h0:=of_decide_eq_true c;obtain⟨h,f,b⟩:=m1.1 a;obtain⟨i,e,g⟩:=SF f;injection b with b
  exact⟨n.toNat,by omega,e,b.symm⟩
def abI(d:Lp):FT (J7 d):=by
 refine⟨pA pc rfl rfl,λa y l g w vs u f c=>?_⟩
 obtain⟨n,p,k,h⟩:=aeg (by_:=8) (n:=a) (y:=y) l;have t:cz BT (J7 d).par a=⟨[(0,.bg),(1,.int .i64 a)],[]⟩:=rfl;rw[t] at f c⊢
 match vs,u with
 |[s,v],_=>
 have x:s= .slice c7 0 0:=VR.pF (g:=g) (w:=w) (H:=[]) (c 0);have o:v= .int .i64 a:=VR.fQ (g:=g) (w:=w) (H:=[]) (c 1);subst x o;have A:(cz BT (J7 d).az y)=⟨[(0,.fl 0 0)],[⟨0,0,.aap 3 y⟩]⟩:=rfl;rw[A];have i:=V0 w n k (by omega);rw[<-p] at i;refine i.mono ?_
 rintro D E (⟨rfl,rfl⟩ |⟨j,cells,rfl,q,r,rfl⟩)
 .obtain⟨e,b⟩:=f.T6 3 1 (by omega);subst h;refine⟨_,_,rfl,b,e.less (ei _),.fl 0 0 ⟨3,1,[],0⟩ _ rfl (dv _) rfl λ_=>⟨by simp,?_⟩⟩
  have:=Gh.kg g 0 c7;rw[show(av BT ([]:List (Ob BT.D))).length=0 from rfl,this];exact⟨rfl,rfl,c7,rfl⟩
 .obtain⟨z,C⟩:=Ez (m:=0) f;subst h;obtain⟨e,b⟩:=anw C 3 cells j q r;refine⟨_,_,rfl,b,z.trans e,.fl 0 0 ⟨3,1,[],0⟩ _ rfl (dv _) rfl λ_=>⟨by simp,?_⟩⟩
  exact⟨j,_,rfl,ei _,λB=>absurd rfl B,λ_=>⟨rfl,rfl⟩⟩
end
end Go.X.T
namespace Go.X.T
open Go Go.Aml Go.Bml Go.X Go.RowKit Go.Proofs
def FC(a:Int):∀c,(mM a c).Perm (a::c)
 |[]=>.refl _
 |b::c=>by
  unfold mM;cases c5 (a<=b) with
  |true=>exact .refl _
  |false=>exact((FC a c).cons b).trans (.swap a b c)
def Ji:∀a,(dQ a).Perm a
 |[]=>.refl _
 |b::a=>(FC b (dQ a)).trans ((Ji a).cons b)
def L7(f:Int):∀d,oj (λa g=>a<=g) d->oj (λa g=>a<=g) (mM f d)
 |[],_=>by simp[mM]
 |b::d,e=>by
  unfold mM;rw[j8] at e;cases i:c5 (f<=b) with
  |true=>
   have h:=of_decide_eq_true i;refine j8.2 ⟨λa c=>?_,j8.2 e⟩
   rcases hI.1 c with rfl |c
   .exact h
   .exact hz h (e.1 a c)
  |false=>
   have h:=of_decide_eq_false i;refine j8.2 ⟨λa c=>?_,L7 f d e.2⟩
   rcases hI.1 ((FC f d).mem_iff.1 c) with rfl |c
   .omega
   .exact e.1 a c
def Qe:∀a,oj (λc b=>c<=b) (dQ a)
 |[]=>.nil
 |d::a=>L7 d _ (Qe a)
def apt(c:List Int):(c.mergeSort λd a=>c5 (d<=a))=dQ c:=by
 refine List.Perm.eq_of_pairwise (le:=λd a=>d<=a) (λh b _ _ g f=>Int.le_antisymm g f) ?_ (Qe c) ((List.mergeSort_perm _ _).trans (Ji c).symm)
 refine(List.pairwise_mergeSort (le:=λd a=>c5 (d<=a)) (λh b i g f=>?_) (λh b=>?_) c).imp λe=>of_decide_eq_true e
 .exact decide_eq_true (hz (of_decide_eq_true g) (of_decide_eq_true f))
 .rcases Int.le_total h b with e |e
  .simp[e]
  .simp[e]
def ahq{l y:List Int}(a:rC l=c6 y):l.length<=140737488355328/\y=dQ l:=by
 unfold rC at a;cases b:x3 l.length 140737488355328 with
 |false=>rw[b] at a;cases a
 |true=>
  rw[b] at a;injection a with a
  exact⟨Nat.le_of_ble_eq_true b,a.symm⟩
def HB(a:List Int):(dQ a).length=a.length:=(Ji a).length_eq
def atX:Go.Shelf.Ren:=⟨λ|189=>225 |125=>278 |257=>277 |128=>319 |129=>320 |294=>310 |295=>311 |296=>312 |297=>313 |298=>314 |299=>315 |216=>316 |300=>317 |301=>318 |328=>331 |329=>332 |330=>333 |331=>334 |332=>335 |215=>307 |343=>341 |a=>a,λ|28=>22 |3=>3 |46=>181 |0=>0 |51=>347 |53=>179 |4=>4 |183=>379 |182=>378 |131=>323 |5=>5 |9=>9 |218=>390 |222=>304 |228=>398 |229=>298 |a=>a,λa=>a⟩
open Go.Proofs.Tryz in
def asf:Go.Proofs.Lays.n189 dd atX:=⟨by kernel_rfl,func278.trans (congrArg c6 (by kernel_rfl)),func319.trans (congrArg c6 (by kernel_rfl)),func320.trans (congrArg c6 (by kernel_rfl)),func225.trans (congrArg c6 (by kernel_rfl)),func307.trans (congrArg c6 (by kernel_rfl)),func316.trans (congrArg c6 (by kernel_rfl)),func277.trans (congrArg c6 (by kernel_rfl)),func310.trans (congrArg c6 (by kernel_rfl)),func311.trans (congrArg c6 (by kernel_rfl)),func312.trans (congrArg c6 (by kernel_rfl)),func313.trans (congrArg c6 (by kernel_rfl)),func314.trans (congrArg c6 (by kernel_rfl)),func315.trans (congrArg c6 (by kernel_rfl)),func317.trans (congrArg c6 (by kernel_rfl)),func318.trans (congrArg c6 (by kernel_rfl)),func331.trans (congrArg c6 (by kernel_rfl)),func332.trans (congrArg c6 (by kernel_rfl)),func333.trans (congrArg c6 (by kernel_rfl)),func334.trans (congrArg c6 (by kernel_rfl)),func335.trans (congrArg c6 (by kernel_rfl)),func341.trans (congrArg c6 (by kernel_rfl)),underlying0,isAgg0,sizeOf0,zeroValue0,underlying3,isAgg3,sizeOf3,zeroValue3,underlying4,isAgg4,sizeOf4,zeroValue4,underlying5,isAgg5,sizeOf5,zeroValue5,underlying9,isAgg9,sizeOf9,zeroValue9,underlying22,isAgg22,sizeOf22,zeroValue22,underlying181,isAgg181,sizeOf181,zeroValue181,underlying347,isAgg347,sizeOf347,zeroValue347,underlying179,isAgg179,sizeOf179,zeroValue179,underlying323,isAgg323,sizeOf323,zeroValue323,underlying378,isAgg378,sizeOf378,zeroValue378,underlying379,isAgg379,sizeOf379,zeroValue379,underlying390,isAgg390,sizeOf390,zeroValue390,underlying304,isAgg304,sizeOf304,zeroValue304,underlying398,isAgg398,sizeOf398,zeroValue398,underlying298,isAgg298,sizeOf298,zeroValue298⟩
def ajH{g:Gh}{c:World}{a:List Int}{b l o:Nat}{q:Array Obj}(B:bF g [⟨3,1,a.map (PV.int .i64),0⟩] c)(m:g.β 0=c6 (b,l)){w':World}(k:w'=Sort.grow (o1 (hK .i64) (p4 c o) b 0 (dQ a).toArray) q):
 ∃z,Bml.GStep 1 g [⟨3,1,a.map (PV.int .i64),0⟩] c z [⟨3,1,(dQ a).map (PV.int .i64),0⟩] w'/\bF z [⟨3,1,(dQ a).map (PV.int .i64),0⟩] w':=by
 have x:=(B.obj 0 _ rfl).mem;rw[m] at x;obtain⟨P,cells,y,A,K,C,O⟩:=x;have H:b<c.heap.size:=nN y;rw[hq] at C;have v:(o1 (hK .i64) (p4 c o) b 0 (dQ a).toArray).heap=c.heap.modify b (x5 (kl (hK .i64) 0 (dQ a).toArray)):=rfl;have D:(o1 (hK .i64) (p4 c o) b 0 (dQ a).toArray).heap.size=c.heap.size:=by rw[v];simp
 have w:∀j,j<c.heap.size->w'.heap[j]?=(c.heap.modify b (x5 (kl (hK .i64) 0 (dQ a).toArray)))[j]? :=λj t=>by
  rw[k,Sort.heap_grow_old _ q (by rw[D];exact t),v]
 have G:=bF.set (r:=0) (o':=⟨3,1,(dQ a).map (PV.int .i64),0⟩) (w':=w') (p:=c6 (b,l)) B rfl (by rw[k];rfl) (by rw[k];rfl) (by rw[k];rfl)
  (by rw[k];show c.heap.size<=((o1 (hK .i64) (p4 c o) b 0 (dQ a).toArray).heap++q).size;rw[j9,D];omega)
  (λj t M=>by
   rw[w j t,k7];rw[if_neg (λn=>M l (by rw[<-n];exact m))])
  (dv _) (λ_=>⟨rfl,by simp[HB],m.symm⟩) (λR N u=>by injection u with u;injection u with h1 h2;subst h1;exact .inl ⟨l,m⟩) r5
  (λi n d=>by
   obtain⟨e,_,rfl⟩:=j1.1 (fe d)
   rfl) ?_
 .exact⟨_,G⟩
 .refine⟨kl (hK .i64) 0 (dQ a).toArray cells,?_,?_,K,by simpa[HB] using C,λi I L h=>?_⟩
  .rw[w b H,k7,if_pos rfl,y]
   rfl
  .unfold kl;rw[Array.size_mapIdx,A]
  .obtain⟨n,d,E⟩:=gw h;obtain⟨e,f,rfl⟩:∃e,(dQ a)[i]?=c6 e/\PV.int .i64 e=n:=by
    rw[hS] at d;cases f:(dQ a)[i]? with
    |none=>rw[f] at d;cases d
    |some e=>rw[f] at d;injection d with d;exact⟨e,rfl,d⟩
   match I,E with
   |0,_=>
    have h:L=PV.int .i64 e:=by
     unfold abk at h;rw[d] at h;injection h with h
     exact h.symm
    subst h;have s:i<(dQ a).length:=(e4.1 f).1;have F:i<cells.size:=by
     have Q:cells.size=l*1:=A;rw[HB] at s;omega
    refine⟨.int .i64 e,?_,rfl,.aW (.int _ _)⟩
    unfold kl;rw[Array.getElem?_mapIdx,rb,Nat.add_zero,h9 F];simp only[Option.map_some,ei,j2,true_and,k0,s,if_true,Nat.sub_zero];have J:(dQ a).toArray[i]! =e:=by
     rw[e4] at f;obtain⟨_,f⟩:=f;simp[s,f]
    rw[J]
def ak4(a:List Int){g:Gh}{c:World}{p:Value}(R:a.length<=140737488355328)(r:bF g [⟨3,1,a.map (PV.int .i64),0⟩] c)(h0:VR g [⟨3,1,a.map (PV.int .i64),0⟩] c (.fl 0 0) p):
 Calls dd 225 #[p] c λd f=>d= .returned (.tuple #[])/\∃i,Bml.GStep 1 g [⟨3,1,a.map (PV.int .i64),0⟩] c i [⟨3,1,(dQ a).map (PV.int .i64),0⟩] f/\bF i [⟨3,1,(dQ a).map (PV.int .i64),0⟩] f:=by
 have y:SL g ⟨3,1,a.map (PV.int .i64),0⟩ 0 0 a.length p:=by
  cases h0 with
  |aW s=>cases s
  |fl _ _ x _ j G M o=>
   have j:c6 (⟨3,1,a.map (PV.int .i64),0⟩:aO)=c6 x:=j;injection j with j
   subst j;have:=o rfl;have d:(⟨3,1,a.map (PV.int .i64),0⟩:aO).es.length=a.length:=hq _
   rwa [d] at this
 obtain⟨N,m⟩:=y;have v:∀(e:Option Addr) (cap:Nat),a.length=0->Calls dd 225 #[.slice e 0 cap] c λd f=>(d= .returned (.tuple #[])/\∃i,Bml.GStep 1 g [⟨3,1,a.map (PV.int .i64),0⟩] c i [⟨3,1,(dQ a).map (PV.int .i64),0⟩] f/\bF i [⟨3,1,(dQ a).map (PV.int .i64),0⟩] f):=λe cap s=>by
  have o:a=[]:=hM s;subst o;refine(Any.slices_Sort_int_none asf e cap c).mono ?_
  rintro d f ⟨rfl,rfl⟩;exact⟨rfl,g,Bml.GStep.refl _ _ _ _,r⟩
 cases k:g.β 0 with
 |none=>
  rw[k] at m;obtain⟨_,l,e,rfl⟩:=m;exact v e 0 l
 |some z=>
  obtain⟨b,L⟩:=z;rw[k] at m;obtain⟨cap,e,rfl,F,Q,D⟩:=m;rcases p0 a.length with l |T
  .rw[l];exact v e cap l
  .obtain rfl:=(D rfl).1;have t:=(r.obj 0 _ rfl).mem;rw[k] at t;obtain⟨K,cells,q,O,J,S,A⟩:=t;have C:Sort.Holds (hK .i64) c b 0 a.toArray:=λh n=>by
    rw[k0] at n;have w:abk (a.map (PV.int .i64)) h 0=c6 (.int .i64 a[h]):=by
     unfold abk;rw[hS,dk n]
     rfl
    obtain⟨H,u1,u2,u3⟩:=A h 0 _ w;have E:=VR.fQ u3;subst E;refine⟨?_,?_⟩
    .have B:a.toArray[h]! =a[h]:=by simp[n]
     rw[B,j2];unfold z6;rw[q];simpa using u1
    .unfold w3;rw[q];simp
   refine(Any.slices_Sort_int asf b 0 cap a c C (nN q) (by omega)).mono ?_
   rintro d f ⟨rfl,P,I,u⟩;rw[apt] at u;exact⟨rfl,ajH r k u⟩
def D5(b:Lp):FT (AW b):=by
 refine⟨pA Tryz.func225 rfl rfl,λa y e g u vs j d c=>?_⟩
 obtain⟨q,m⟩:=ahq (l:=a) (y:=y) e;have h:cz BT (AW b).par a=⟨[(0,.fl 0 0)],[⟨0,0,.aap 3 a⟩]⟩:=rfl;have o:cz BT (AW b).az y=⟨[],[⟨0,0,.aap 3 y⟩]⟩:=rfl;rw[h] at d c⊢;rw[o];subst m
 match vs,j with
 |[r],_=>
 refine(ak4 a q d (c 0)).mono ?_
 rintro s v ⟨rfl,k,n,f⟩;exact⟨_,k,rfl,f,n,.bu [] [] rfl λi t a p=>by simp at p⟩
end Go.X.T
namespace Go.Bml
open Go Go.RowKit
section
variable {P:Program}
def Ee(w:World)(l p s elem:TypeId)(e b d k y:Nat)(h:Addr)(m A j:Nat)(a:List Value)
 (z:P.underlying l=c6 (.slice elem)) (o:cH P elem=c6 e) (B:Nat.min m k=j) (u:a.length=j*e)
 (D:∀c v,a[c]?=c6 v->w.cell? (h.add c)=c6 v) (q:∀c,c<a.length->(w.cell? ⟨b,d+c,c7⟩).isSome=true) (r:∀c,c<a.length->w.frozen? ⟨b,d+c,c7⟩=false) (x:∀v∈a,v.oneCell'=true):
 (h7 #[l,p] s #[.slice (c6 ⟨b,d,c7⟩) k y,.slice (c6 h) m A]).run P w= .ok (goInt j) (w.setCells b d a):=by
 have n:=run_loadCells_list (P:=P) w h a D;have C:=run_storeCells_cells (P:=P) b d a 0 w (by simpa using q) (by simpa using r) x;rw[u] at n;cases f:P.info? elem with
 |none=>simp[cH,f] at o
 |some i=>
  have t:i.size=e:=by simpa[cH,f] using o
  simp[h7,run_underlying z,Builtin.lenOf,p6,sizeOf,typeInfo,f,t,B,n,C]
def MW(b:Nat)(vs:List Value)(a:Nat)(w:World)(f:∀d,d<vs.length->(w.cell? ⟨b,a+d,c7⟩).isSome=true)(c:Nat)(e:(w.cell? ⟨b,c,c7⟩).isSome=true):((w.setCells b a vs).cell? ⟨b,c,c7⟩).isSome=true:=by
 by_cases h:a<=c/\c<a+vs.length
 .have:=m2 b vs a w f (c -a) (by omega);rw[show a+(c -a)=c by omega] at this;rw[this];rfl
 .rw[gy b vs a w ⟨b,c,c7⟩ (λ_ _=>by show c<a\/a+vs.length<=c;omega)];exact e
def akt{w:World}{b o:Nat}{v:Value}{cells:Array Value}{a:TypeId}{c:Nat×Nat}(e:w.heap[b]?=c6 (.cells cells a c)):
 ∃d,(w.setCell ⟨b,o,c7⟩ v).heap[b]?=c6 (.cells d a c)/\d.size=cells.size:=by
 refine⟨cells.setIfInBounds o v,?_,by simp⟩
 unfold wa;dsimp only;rw[k7,if_pos rfl,e]
 rfl
def P2{b:Nat}{e:TypeId}{c:Nat×Nat}:∀(vs:List Value) (o:Nat) (w:World) (cells:Array Value),w.heap[b]?=c6 (.cells cells e c)->
 ∃d,(w.setCells b o vs).heap[b]?=c6 (.cells d e c)/\d.size=cells.size
 |[],_,_,cells,a=>⟨cells,a,rfl⟩
 |v::r,o,w,cells,a=>by
  obtain⟨f,j,h⟩:=akt (o:=o) (v:=v) a;obtain⟨k,i,l⟩:=P2 r (o+1) _ f j;exact⟨k,i,l.trans h⟩
def MQ{b:Nat}:∀(vs:List Value) (c:Nat) (w:World) (a:Nat),a≠b->(w.setCells b c vs).heap[a]?=w.heap[a]?
 |[],_,_,_,_=>rfl
 |v::r,c,w,a,d=>by
  rw[World.setCells,MQ r (c+1) _ a d];exact Below.heap_setCell w ⟨b,c,c7⟩ v a (by simpa using d)
def QW(b:Nat):∀(vs:List Value) (a:Nat) (w:World),(w.setCells b a vs).os=w.os/\(w.setCells b a vs).tape=w.tape/\(w.setCells b a vs).output=w.output/\(w.setCells b a vs).heap.size=w.heap.size
 |[],_,_=>⟨rfl,rfl,rfl,rfl⟩
 |v::r,a,w=>by
  obtain⟨e,d,c,f⟩:=QW b r (a+1) (w.setCell ⟨b,a,c7⟩ v);exact⟨e,d,c,f.trans (by simp[wa])⟩
def Yq{w:World}{b a:Nat}{f vs:List Value}(j:∀c d,f[c]?=c6 d->w.cell? ⟨b,c,c7⟩=c6 d)(o:a<=f.length)(m:∀c,c<vs.length->(w.cell? ⟨b,a+c,c7⟩).isSome=true):
 ∀c d,(f.take a++vs++f.drop (a+vs.length))[c]?=c6 d->(w.setCells b a vs).cell? ⟨b,c,c7⟩=c6 d:=by
 intro c d e;have h:(f.take a).length=a:=by simp;omega
 by_cases i:c<a
 .rw[l3,ev (by omega),h5 i] at e;rw[gy b vs a w _ (λ_ _=>.inl i)];exact j c d e
 .by_cases n:c<a+vs.length
  .rw[ev (by simp;omega),e6 (by omega),h] at e;obtain⟨l,rfl⟩:=e4.1 e;have:=m2 b vs a w m (c -a) l;rw[show a+(c -a)=c by omega] at this;exact this
  .have k:(f.take a++vs).length=a+vs.length:=by rw[ea,h]
   rw[e6 (by omega),k,hP,show a+vs.length+(c - (a+vs.length))=c by omega] at e;rw[gy b vs a w _ (λ_ _=>.inr (by show a+vs.length<=c;omega))];exact j c d e
def oe{w:World}{b a:Nat}{cells:Array Value}{c:TypeId}{d:Nat×Nat}(e:w.heap[b]?=c6 (.cells cells c d)):w.cell? ⟨b,a,c7⟩=cells[a]? :=by
 unfold z6;rw[e]
 rfl
def FM{w:World}{b c:Nat}{cells:Array Value}{a:TypeId}(d:w.heap[b]?=c6 (.cells cells a (0,0))):w.frozen? ⟨b,c,c7⟩=false:=by
 unfold w3;rw[d];simp
def ON{w:World}{b:Nat}{cells:Array Value}{a:TypeId}(c:w.heap[b]?=c6 (.cells cells a (0,0))):w.shape? b=c6 (a,cells.size):=by
 unfold World.shape?;rw[c]
structure nq (E k:Nat) (w w':World) (b C B C':Nat) (us:List Value):Prop where
 os:w'.os=w.os
 tape:w'.tape=w.tape
 output:w'.output=w.output
 size:w.heap.size<=w'.heap.size
 E9:∀x,x<w.heap.size->x≠b->w'.heap[x]?=w.heap[x]?
 place:(B=b/\C'=C)\/w.heap.size<=B
 block:∃cells,w'.heap[B]?=c6 (.cells cells E (0,0))/\cells.size=C'*k
 room:C'<=maxLen
 fits:us.length<=C'*k
 holds:∀j u,us[j]?=c6 u->w'.cell? ⟨B,j,c7⟩=c6 u
def nq.set{E k:Nat}{w c:World}{b C B d o:Nat}{a vs:List Value}(h:nq E k w c b C B d a)(G:o<=a.length)(L:o+vs.length<=d*k)(u:(a.take o++vs++a.drop (o+vs.length)).length<=d*k):
 nq E k w (c.setCells B o vs) b C B d (a.take o++vs++a.drop (o+vs.length)):=by
 obtain⟨cells,l,F⟩:=h.block;have A:∀e,e<vs.length->(c.cell? ⟨B,o+e,c7⟩).isSome=true:=λe K=>by
  rw[oe l,h9 (by omega)]
  rfl
 obtain⟨y,I,D,t⟩:=QW B vs o c;obtain⟨n,J,m⟩:=P2 vs o c cells l;refine⟨y.trans h.os,I.trans h.tape,D.trans h.output,by rw[t];exact h.size,λx s j=>?_,h.place,⟨n,J,m.trans F⟩,h.room,u,Yq h.holds G A⟩
 rw[MQ vs o c x (by rcases h.place with⟨p,_⟩ |p;rw[p];exact j;omega)];exact h.E9 x s j
def nq.drew{E k:Nat}{w a:World}{b C B d:Nat}{c:List Value}(h:nq E k w a b C B d c):nq E k w a.drew b C B d c:=⟨h.os,h.tape,h.output,h.size,h.E9,h.place,h.block,h.room,h.fits,h.holds⟩
def Xa{e d:Nat}{w:World}{b a m:Nat}{cells:Array Value}(f:w.heap[b]?=c6 (.cells cells e (0,0)))(i:cells.size=a*d)(h:a<=maxLen)(k:m<=a*d):nq e d w w b a b a (cells.toList.take m):=by
 refine⟨rfl,rfl,rfl,dv _,λ_ _ _=>rfl,.inl ⟨rfl,rfl⟩,⟨cells,f,i⟩,h,by rw[dt];omega,λl j c=>?_⟩
 rw[oe f, <-eE];rw[gv] at c
 split at c
 .exact c
 .cases c
def ak9{E d:Nat}{w:World}{b C c m:Nat}{row:Array Value}(i:row.size=c*d)(h:c<=maxLen)(k:m<=c*d):nq E d w (w.alloc (.cells row E)) b C w.heap.size c (row.toList.take m):=by
 refine⟨rfl,rfl,rfl,by simp,λe f _=>hL w _ e f,.inr (dv _),⟨row,heap_alloc_new w _,i⟩,h,by rw[dt];omega,λl j a=>?_⟩
 rw[oe (heap_alloc_new w _), <-eE];rw[gv] at a
 split at a
 .exact a
 .cases a
def ac9{d:Type}{b vs:List d}{a c:Nat}(h:a+c<=b.length)(f:vs.length=c):
 (b.take (a+c)++b.drop a++b.drop (a+c+(b.drop a).length)).take a++vs++(b.take (a+c)++b.drop a++b.drop (a+c+(b.drop a).length)).drop (a+vs.length)=b.take a++vs++b.drop a:=by
 have h0:b.drop (a+c+(b.drop a).length)=[]:=mb (by rw[e5];omega);have e:(b.take (a+c)).length=a+c:=by rw[dt];omega
 rw[h0,l0,f,List.take_append_of_le_length (by omega),tt,j7 (by omega),List.drop_left' e]
def anz{f:Type}{b c vs:List f}{a d:Nat}(k:a<=c.length)(i:vs.length=d)(j:b.length=c.length+d)(h:b.take a=c.take a):
 (b.take a++vs++b.drop (a+vs.length)).take (a+d)++c.drop a++(b.take a++vs++b.drop (a+vs.length)).drop (a+d+(c.drop a).length)=c.take a++vs++c.drop a:=by
 have e:(b.take a++vs).length=a+d:=by rw[ea,dt,i];omega
 have h0:(b.take a++vs++b.drop (a+vs.length)).drop (a+d+(c.drop a).length)=[]:=mb (by rw[ea,e,e5,e5];omega);rw[h0,l0,sn e,h]
def No(P:Program)(f:FuncId)(l a p:Nat):Prop:=
 ∀(w:World) (b c d i j e:Nat) (cells h:Array Value),b≠j->w.heap[b]?=c6 (.cells cells l (0,0))->cells.size=d*a->w.heap[j]?=c6 (.cells h l (0,0))->h.size=e*a->1<=e->i<c->c<=d->d<=maxLen->e<=maxLen->(c+1)*p<=140737488355328->(c+1)*a<=140737488355328->
  (∀k∈cells.toList.take (c*a),k.oneCell'=true)->(∀k∈h.toList.take a,k.oneCell'=true)->
  Calls P f #[.slice (c6 ⟨b,0,c7⟩) c d,.int .i64 i,.slice (c6 ⟨j,0,c7⟩) 1 e] w λq o=>∃m n,q= .returned (.slice (c6 ⟨m,0,c7⟩) (c+1) n)/\
   nq l a w o b d m n ((cells.toList.take (c*a)).take (i*a)++h.toList.take a++(cells.toList.take (c*a)).drop (i*a))
end
section
variable {g:Gh}{H:List aO}{w:World}
def gI.take{sz:Nat}{es:List PV}{k:List Value}(h:gI g H w sz es k)(l:∀e,e∈es->e.cells.length=sz)(m:Nat)(d:m<=es.length):gI g H w sz (es.take m) (k.take (m*sz)):=by
 refine⟨?_,λi j c a=>?_⟩
 .rw[dt,dt,h.1,j7 d,j7 (hY _ d)]
 .obtain⟨e,he,x⟩:=gw a;have hi:=(e4.1 he).1;rw[dt] at hi;have hi:i<m/\i<es.length:=by omega
  have o:abk es i j=c6 c:=by
   unfold abk at a⊢
   rwa [h5 hi.1] at a
  rw[h5 hi.1] at he;have y:=l e (fe he);obtain⟨t,u,s,n⟩:=h.2 i j c o;refine⟨t,?_,s,n⟩
  have:(i+1)*sz<=m*sz:=hY _ hi.1;rw[l4,Nat.one_mul] at this;rw[h5 (by omega)];exact u
def gI.drop{sz:Nat}{es:List PV}{e:List Value}(h:gI g H w sz es e)(m:Nat):gI g H w sz (es.drop m) (e.drop (m*sz)):=by
 refine⟨?_,λi d c a=>?_⟩
 .rw[e5,e5,h.1,Nat.sub_mul]
 .have k:abk es (m+i) d=c6 c:=by
   unfold abk at a⊢
   rwa [hP] at a
  obtain⟨n,o,l,j⟩:=h.2 _ d c k;refine⟨n,?_,l,j⟩
  rw[hP, <-Nat.add_assoc, <-l4];exact o
def gI.aX{sz:Nat}{es l:List PV}{t vs:List Value}(h:gI g H w sz es t)(s:gI g H w sz l vs)(u:∀e,e∈es->e.cells.length=sz):gI g H w sz (es++l) (t++vs):=by
 refine⟨by rw[ea,ea,h.1,s.1,l4],λi a c j=>?_⟩
 by_cases hi:i<es.length
 .have m:abk es i a=c6 c:=by
   unfold abk at j⊢
   rwa [ev hi] at j
  obtain⟨o,d,n,k⟩:=h.2 i a c m;exact⟨o,by rw[ev (e4.1 d).1];exact d,n,k⟩
 .have m:abk l (i -es.length) a=c6 c:=by
   unfold abk at j⊢
   rwa [e6 (by omega)] at j
  obtain⟨o,d,n,k⟩:=s.2 _ a c m;refine⟨o,?_,n,k⟩
  have e:i*sz=es.length*sz+(i -es.length)*sz:=by rw[<-l4];congr 1;omega
  rw[e6 (by rw[h.1,e];omega),h.1,e,show es.length*sz+(i -es.length)*sz+a -es.length*sz=(i -es.length)*sz+a by omega];exact d
def qT.row{r b C:Nat}{a:aO}(E:bF g H w)(A:H[r]?=c6 a)(o:g.β r=c6 (b,C)):
 ∃cells,w.heap[b]?=c6 (.cells cells a.ty (0,0))/\cells.size=C*a.sz/\C<=maxLen/\a.es.length<=C/\gI g H w a.sz a.es (cells.toList.take (a.es.length*a.sz))/\∀d∈cells.toList.take (a.es.length*a.sz),d.oneCell'=true:=by
 obtain⟨a1,l,m⟩:=E.obj r a A;rw[o] at m;obtain⟨_,cells,y,h,x,n,s⟩:=m;have F:(cells.toList.take (a.es.length*a.sz)).length=a.es.length*a.sz:=by
  rw[dt,e0,h,j7 (hY _ n)]
 have k:gI g H w a.sz a.es (cells.toList.take (a.es.length*a.sz)):=by
  refine⟨F,λi u c j=>?_⟩
  obtain⟨d,D,t,B⟩:=s i u c j;refine⟨d,?_,t,B⟩
  obtain⟨e,he,G⟩:=gw j;have I:=l i e he;have hi:=(e4.1 he).1;have:(i+1)*a.sz<=a.es.length*a.sz:=hY _ hi;rw[l4,Nat.one_mul] at this;rw[h5 (by omega),eE];exact D
 exact⟨cells,y,h,x,n,k,k.one a1 l⟩
end
def Yz{P:Program}(w:World){a:Oper}{b:Act}{j:Act->World->Prop}{m:Exit->Act->World->Prop}(d k:Operand)(f h:TypeId)
 (o:a.op= .call {callee:=.builtin .copy,args:=#[d,k],argTypes:=#[f,h]}) (v e:Value) (n:b.eval d=v) (p:b.eval k=e) {i:Value} {c:World}
 (l:(h7 #[f,h] a.type #[v,e]).run P w= .ok i c) (q:j (b.put a.dst i) c):a.wp P b w j m:=by
 unfold tj execOp;simp only[o,resolve,invoke,builtin,eo,h6,ec,List.map_toArray,List.map_cons,List.map_nil,n,p,l];exact q
def Kj{P:Program}(w:World){ops:Array Oper}{i:List Oper}{a:Oper}{b:Act}{k:Exit->Act->World->Prop}(q:a.guard=c7)(c h:Operand)(e f:TypeId)
 (p:a.op= .call {callee:=.builtin .copy,args:=#[c,h],argTypes:=#[e,f]}) (v d:Value) (o:b.eval c=v) (r:b.eval h=d) {l:Value} {j:World}
 (n:(h7 #[e,f] a.type #[v,d]).run P w= .ok l j) (s:wpList P ops k i (b.put a.dst l) j):wpList P ops k (a::i) b w:=
 wpList_plain q λ_ m=>Yz w c h e f p v d o r n (m _ _ s)
def Mz{P:Program}{ops:Array Oper}{a:Oper}{b:Act}{w:World}{k:Act->World->Prop}{m:Exit->Act->World->Prop}{t:Prop}
 (n:a.guard=c7) (f i:Operand) (e c:TypeId) (q:a.op=Op.call {callee:=Callee.builtin Builtin.copy,args:=#[f,i],argTypes:=#[e,c]})
 (v h:Value) (r:b.eval f=v) (o:b.eval i=h) {d:Value} {j:World} (s:(h7 #[e,c] a.type #[v,h]).run P w= .ok d j) (l:k (b.put a.dst d) j):
 if oo a (yielded ops b.tmps)=true then tj P a b w k m else t:=by
 have p:oo a (yielded ops b.tmps)=true:=by simp[oo,n]
 rw[if_pos p];unfold tj;simp[execOp,q,resolve,invoke,builtin,r,o,s,k6];exact l
def Xg{g:Gh}{h:List aO}{w m:World}{q b l j f k c v:Nat}{G e:List PV}{o:List Value}(R:bF g h w)(u:h[q]?=c6 ⟨k,c,G,v⟩)(n:g.β q=c6 (b,l))(I:0<c)
 (d:nq k c w m b l j f o) (z:gI g h w c e o) (F:∀a,a∈e->a.cells.length=c) (s:e.length<=f):
 GStep h.length g h w (g.push q (c6 (j,f))) (h.set q ⟨k,c,e,v+1⟩) m/\bF (g.push q (c6 (j,f))) (h.set q ⟨k,c,e,v+1⟩) m/\
  SL (g.push q (c6 (j,f))) ⟨k,c,e,v+1⟩ q 0 e.length (.slice (c6 ⟨j,0,c7⟩) e.length f):=by
 have T:q<h.length:=(e4.1 u).1;obtain⟨cells,x,J⟩:=d.block;have t:=R.set (r:=q) (o':=⟨k,c,e,v+1⟩) (p:=c6 (j,f)) u d.os d.tape d.output d.size
  (λK y M=>d.E9 K y (λa=>M l (by rw[a];exact n))) (Nat.le_succ v) (λa=>absurd a (by show v+1≠v;omega))
  (λU C1 a=>by
   injection a with a
   injection a with e1 e2
   rcases d.place with⟨C,S⟩ |p
   .exact .inl ⟨l,by rw[<-e1,C];exact n⟩
   .exact .inr (by omega))
  I (λi a L=>F a (fe L))
  ⟨cells,x,J,d.room,s,λi D E Q=>by
   obtain⟨A,O,B,N⟩:=z.2 i D E Q;have:=d.holds _ _ O;rw[oe x] at this;exact⟨A,this,B,N⟩⟩
 refine⟨t.1,t.2,by simp,?_⟩
 rw[Gh.kg];exact⟨f,_,rfl,s,λ_=>by simp,λ_=>⟨rfl,rfl⟩⟩
def Nu{g:Gh}{j:List aO}{w:World}{q v:Nat}{a:aO}{f:Value}(h:VR g j w (.fl q v) f)(s:j[q]?=c6 a)(k:a.aF=v)(h0:0<a.es.length):
 ∃b e,g.β q=c6 (b,e)/\f= .slice (c6 ⟨b,0,c7⟩) a.es.length e:=by
 have o:SL g a q 0 a.es.length f:=by
  cases h with
  |aW h=>cases h
  |fl _ _ t _ c u r l=>
   rw[s] at c;injection c with c
   subst c;exact l k.symm
 obtain⟨r,d⟩:=o;cases i:g.β q with
 |none=>rw[i] at d;omega
 |some m=>
  obtain⟨b,e⟩:=m;rw[i] at d;obtain⟨cap,x,n,_,_,p⟩:=d;obtain⟨rfl,rfl⟩:=p rfl;exact⟨b,cap,rfl,n⟩
def aeQ{P:Program}{f:FuncId}{c a N:Nat}(T:No P f c a N)(K:0<a){g:Gh}{w:World}{w0 w1:Nat}{es:List PV}{e:PV}{i:Nat}(aa:i<es.length)
 (j:bF g [⟨c,a,es,w0⟩,⟨c,a,[e],w1⟩] w) (X:(es.length+1)*N<=140737488355328) (Z:(es.length+1)*a<=140737488355328) {y M:Value} (W:VR g [⟨c,a,es,w0⟩,⟨c,a,[e],w1⟩] w (.fl 0 w0) y) (V:VR g [⟨c,a,es,w0⟩,⟨c,a,[e],w1⟩] w (.fl 1 w1) M):
 Calls P f #[y,.int .i64 i,M] w λD l=>∃v q,D= .returned v/\bF q [⟨c,a,es.take i++[e]++es.drop i,w0+1⟩,⟨c,a,[e],w1⟩] l/\GStep 2 g [⟨c,a,es,w0⟩,⟨c,a,[e],w1⟩] w q [⟨c,a,es.take i++[e]++es.drop i,w0+1⟩,⟨c,a,[e],w1⟩] l/\
  VR q [⟨c,a,es.take i++[e]++es.drop i,w0+1⟩,⟨c,a,[e],w1⟩] l (.fl 0 (w0+1)) v:=by
 have h0:([⟨c,a,es,w0⟩,⟨c,a,[e],w1⟩]:List aO)[0]?=c6 ⟨c,a,es,w0⟩:=rfl;have r:([⟨c,a,es,w0⟩,⟨c,a,[e],w1⟩]:List aO)[1]?=c6 ⟨c,a,[e],w1⟩:=rfl;obtain⟨b,J,n,rfl⟩:=Nu W h0 rfl (by show 0<es.length;omega);obtain⟨ae,t,z,rfl⟩:=Nu V r rfl (by show 0<[e].length;simp);obtain⟨cells,F,A,R,C,p,Q⟩:=qT.row j h0 n;obtain⟨O,G,S,x,L,o,s⟩:=qT.row j r z;dsimp only at F A R C p Q G S x L o s;rw[show[e].length*a=a by simp] at o s;have k:∀h,h∈es->h.cells.length=a:=λh d=>by
  obtain⟨ag,Y,rfl⟩:=List.getElem_of_mem d;exact(j.obj 0 _ h0).width ag _ (dk Y)
 have E:e.cells.length=a:=(j.obj 1 _ r).width 0 _ rfl;refine(T w b es.length J i ae t cells O (λad=>absurd (j.inj 0 1 b J t n (by rw[ad];exact z)) (by decide)) F A G S (by simpa using L) aa C R x X Z Q s).mono ?_
 rintro D l ⟨ai,U,rfl,B⟩;have u:gI g [⟨c,a,es,w0⟩,⟨c,a,[e],w1⟩] w a (es.take i++[e]++es.drop i) ((cells.toList.take (es.length*a)).take (i*a)++O.toList.take a++(cells.toList.take (es.length*a)).drop (i*a)):=by
  refine((p.take k i (by omega)).aX o (λh d=>k h (ie d))).aX (p.drop i) (λh d=>?_)
  rcases l1.1 d with d |d
  .exact k h (ie d)
  .rw[eH.1 d];exact E
 have m:(es.take i++[e]++es.drop i).length=es.length+1:=by simp;omega
 have ab:es.length+1<=U:=by
  have:=B.fits;rw[u.1,m] at this;exact Nat.le_of_mul_le_mul_right this K
 have af:∀h,h∈es.take i++[e]++es.drop i->h.cells.length=a:=λh d=>by
  rcases l1.1 d with d |d
  .rcases l1.1 d with d |d
   .exact k h (ie d)
   .rw[eH.1 d];exact E
  .exact k h (km d)
 obtain⟨ac,ah,I⟩:=Xg j h0 n K B u af (by rw[m];exact ab);refine⟨_,_,rfl,ah,ac,.fl 0 (w0+1) ⟨c,a,es.take i++[e]++es.drop i,w0+1⟩ _ rfl (dv _) rfl λ_=>?_⟩
 rw[m] at I;rw[m];exact I
end Go.Bml
namespace Go.X.T
open Go Go.Aml Go.Bml Go.RowKit Go.Proofs
section
open Go.RowKit
def ai7(w:World)(b n C i vb vC:Nat)(cells vcells:Array Value)(hne:b≠vb)(h1:w.heap[b]?=c6 (.cells cells 75 (0,0)))(h2:cells.size=C*9)(h3:w.heap[vb]?=c6 (.cells vcells 75 (0,0)))(h4:vcells.size=vC*9)(hv1:1<=vC)(hi:i<n)(hC:C<=maxLen)
 (hroom:n+1<=C) (c1:∀u∈cells.toList.take (n*9),u.oneCell'=true) (c2:∀u∈vcells.toList.take 9,u.oneCell'=true):
 Calls dd 244 #[.slice (c6 ⟨b,0,c7⟩) n C,.int .i64 i,.slice (c6 ⟨vb,0,c7⟩) 1 vC] w λe w'=>e= .returned (.slice (c6 ⟨b,0,c7⟩) (n+1) C)/\
  w'=(w.drew.setCells b (((i+1)*9)) ((cells.toList.take (n*9)).drop ((i*9)))).setCells b ((i*9)) (vcells.toList.take 9):=by
 have hC63:C<=9223372036854775807:=hC;obtain⟨cs,hcs⟩:∃cs,cs=cells.toList.take (n*9):=⟨_,rfl⟩;obtain⟨vs,hvs⟩:∃vs,vs=vcells.toList.take 9:=⟨_,rfl⟩;have hcl:cs.length=n*9:=by rw[hcs,dt,e0,h2];omega
 have hvl:vs.length=9:=by rw[hvs,dt,e0,h4];omega
 have eZ:∀j v,cs[j]?=c6 v->w.cell? ⟨b,j,c7⟩=c6 v:=λj v hj=>by
  rw[oe h1, <-eE];rw[hcs,gv] at hj
  split at hj
  .exact hj
  .cases hj
 have hrv:∀j v,vs[j]?=c6 v->w.cell? ⟨vb,j,c7⟩=c6 v:=λj v hj=>by
  rw[oe h3, <-eE];rw[hvs,gv] at hj
  split at hj
  .exact hj
  .cases hj
 have hsp:∀j,j<(n+1)*9->(w.cell? ⟨b,j,c7⟩).isSome=true:=λj hj=>by
  rw[oe h1,h9 (by omega)];rfl
 have hfz:∀j,w.frozen? ⟨b,j,c7⟩=false:=λj=>FM h1
 rw[<-hcs] at c1⊢;rw[<-hvs] at c2⊢;have hz2:¬((i:Int)=(n:Int)):=by omega
 have hov:∀lb cb,(callFunc 297 #[.slice (c6 ⟨vb,0,c7⟩) 1 vC,.slice (c6 ⟨b,(i+1)*9,c7⟩) lb cb]).run dd w= .ok (.value (.bool false)) w:=λlb cb=>by
  rw[run_callFunc_extern Tryz.func297 (by kernel_rfl) (by kernel_rfl) (by kernel_rfl) (e:=r0 #[53,53] #[4]) (by kernel_rfl),
   Lib.run_overlaps_apart w 53 4 75 hB 9 Tryz.sizeOf75 ⟨vb,0,c7⟩ ⟨b,(i+1)*9,c7⟩ 1 vC lb cb (λh=>hne h.symm) 75 75 _ _ (ON h3) (ON h1) (by omega) (FM h3) (FM h3)]
  rfl
 have hdl:(cs.drop ((i*9))).length=(n -i)*9:=by rw[e5,hcl];omega
 have mixed:dd.follows .mixedOrders=true:=by kernel_rfl
 have hw1:c3 c4 ((i:Int)+1)=(i:Int)+1:=by rw[h8];omega
 have hw2:c3 c4 ((n:Int)+1)=(n:Int)+1:=by rw[h8];omega
 have hb1:(0:Int)<=(i:Int)+1:=by omega
 have hin:i<=n:=by omega
 have htn:((i:Int)+1).toNat=i+1:=by omega
 have htn2:((n:Int)+1).toNat=n+1:=by omega
 have hb2:¬(C=i+1):=by omega
 have hb3:(i:Int)<=(n:Int)+1:=by omega
 have hb4:¬(C=i):=by omega
 have hb5:¬((C:Int)<(n:Int)+1):=by omega
 have hcp1:∀ty dc sc,(h7 #[53,53] ty #[.slice (c6 ⟨b,(i+1)*9,c7⟩) (n -i) dc,.slice (c6 ⟨b,i*9,c7⟩) (n+1 -i) sc]).run dd w.drew= .ok (goInt (n -i:Nat)) (w.drew.setCells b (((i+1)*9)) (cs.drop ((i*9)))):=λty dc sc=>
  Ee w.drew _ _ ty 75 9 b (((i+1)*9)) (n -i) dc ⟨b,i*9,c7⟩ (n+1 -i) sc (n -i) (cs.drop ((i*9))) hB rfl (by simp only[o2];split <;> omega) hdl
   (λj v hj=>by rw[l2];exact eZ ((i*9)+j) v (by rwa [hP] at hj))
   (λj hj=>hsp _ (by rw[hdl] at hj;omega)) (λj hj=>hfz _) (λv hv=>c1 v (km hv))
 obtain⟨W1,hW1⟩:∃W1,W1=w.drew.setCells b (((i+1)*9)) (cs.drop ((i*9))):=⟨_,rfl⟩;have hsp1:∀k,k<(n+1)*9->(W1.cell? ⟨b,k,c7⟩).isSome=true:=λk hk=>by
  rw[hW1];exact MW b (cs.drop ((i*9))) (((i+1)*9)) w.drew (λj hj=>hsp _ (by rw[hdl] at hj;omega)) k (hsp k hk)
 have hcp2:∀(W:World),(∀x,W.cell? x=W1.cell? x)->(∀x,W.frozen? x=W1.frozen? x)->∀ty dc,(h7 #[53,53] ty #[.slice (c6 ⟨b,i*9,c7⟩) (n+1 -i) dc,.slice (c6 ⟨vb,0,c7⟩) 1 vC]).run dd W= .ok (goInt (1:Nat)) (W.setCells b ((i*9)) vs):=λW hWc hWf ty dc=>
  Ee W _ _ ty 75 9 b ((i*9)) (n+1 -i) dc ⟨vb,0,c7⟩ 1 vC 1 vs hB rfl (by simp only[o2];split <;> omega) (by rw[hvl])
   (λj v hj=>by
    rw[l2,hWc,hW1,gy b _ _ _ _ (λh _=>absurd h.symm hne),j2];exact hrv j v hj)
   (λj hj=>by rw[hWc];exact hsp1 _ (by omega)) (λj hj=>by rw[hWf,hW1,mx];exact hfz _) c2
 rw[<-hW1] at hcp1;clear hcs hvs
 go_enter q2,wb
 go_wp2_with (simp only[hov])
 go_region_law (refine Mz rfl _ _ 53 53 rfl _ _ (by simp[q3,x6]) (by simp[q3,x6]) (hcp1 _ _ _) ?_)
 go_wp2_with (at_builtin;refine Kj _ rfl _ _ 53 53 rfl _ _ rfl rfl (hcp2 _ (λ_=>rfl) (λ_=>rfl) _ _) ?_)
 go_ret
 first |exact⟨rfl,rfl⟩ |exact⟨rfl,by rw[hW1]⟩
def ac5:(dd.info? 75).map (λi=>(i.zero,i.size,i.bytes))=c6 (c6 (ga #[.int .i64 0,.int .i64 0,.int .i64 0,.int .i64 0,.int .i64 0,.bool false,.bool false,.int .i64 0,.int .i64 0]),9,64):=by kernel_rfl
def ah2(w:World)(b n C i vb vC:Nat)(cells vcells:Array Value)(h1:w.heap[b]?=c6 (.cells cells 75 (0,0)))(h2:cells.size=C*9)(h3:w.heap[vb]?=c6 (.cells vcells 75 (0,0)))(h4:vcells.size=vC*9)(hv1:1<=vC)(hi:i<n)(hC:C<=maxLen)
 (hnc:n<=C) (hroom:C<n+1) (hbig:(n+1)*64<=140737488355328) (c1:∀u∈cells.toList.take (n*9),u.oneCell'=true) (c2:∀u∈vcells.toList.take 9,u.oneCell'=true):
 Calls dd 244 #[.slice (c6 ⟨b,0,c7⟩) n C,.int .i64 i,.slice (c6 ⟨vb,0,c7⟩) 1 vC] w λe w'=>e= .returned (.slice (c6 ⟨w.heap.size,0,c7⟩) (n+1) (grownCap w (n+1) C 75))/\
  w'=(((w.alloc (.cells (((cells.toList.take (n*9)).take (i*9)).toArray++dT ((ga #[.int .i64 0,.int .i64 0,.int .i64 0,.int .i64 0,.int .i64 0,.bool false,.bool false,.int .i64 0,.int .i64 0]):Value).cells (n+1 -i)++dT ((ga #[.int .i64 0,.int .i64 0,.int .i64 0,.int .i64 0,.int .i64 0,.bool false,.bool false,.int .i64 0,.int .i64 0]):Value).cells (grownCap w (n+1) C 75 - (n+1))) 75)).drew.setCells w.heap.size (i*9) (vcells.toList.take 9)).drew).setCells w.heap.size ((i+1)*9) ((cells.toList.take (n*9)).drop (i*9)):=by
 have hC63:C<=9223372036854775807:=hC;obtain⟨cs,hcs⟩:∃cs,cs=cells.toList.take (n*9):=⟨_,rfl⟩;obtain⟨vs,hvs⟩:∃vs,vs=vcells.toList.take 9:=⟨_,rfl⟩;have hcl:cs.length=n*9:=by rw[hcs,dt,e0,h2];omega
 have hvl:vs.length=9:=by rw[hvs,dt,e0,h4];omega
 have eZ:∀j v,cs[j]?=c6 v->w.cell? ⟨b,j,c7⟩=c6 v:=λj v hj=>by
  rw[oe h1, <-eE];rw[hcs,gv] at hj
  split at hj
  .exact hj
  .cases hj
 have hrv:∀j v,vs[j]?=c6 v->w.cell? ⟨vb,j,c7⟩=c6 v:=λj v hj=>by
  rw[oe h3, <-eE];rw[hvs,gv] at hj
  split at hj
  .exact hj
  .cases hj
 rw[<-hcs] at c1⊢;rw[<-hvs] at c2⊢;obtain⟨i0,hi0,hz0,hzs,hzb⟩:=info_parts ac5;have hz2:¬((i:Int)=(n:Int)):=by omega
 have hz3:(C:Int)<(n:Int)+1:=by omega
 have hbw:b<w.heap.size:=nN h1;have hvw:vb<w.heap.size:=nN h3;have hkk:(n:Int)+1 - (i:Int)=((n+1 -i:Nat):Int):=by omega
 have hik:i+(n+1 -i)=n+1:=by omega
 have hold:(p6 i0.size i (.slice (c6 ⟨b,0,c7⟩) i C)).run dd w.drew= .ok (cs.take (i*9)).toArray w.drew:=by
  rw[hzs];exact run_firstCells_some w.drew 9 i ⟨b,0,c7⟩ i C (cs.take (i*9)) (by rw[dt];omega) (λj v hj=>by
   rw[l2,j2];rw[gv] at hj
   split at hj
   .exact eZ j v hj
   .cases hj)
 have hrz:∀ty,(sa #[53,3] ty #[.slice (c6 ⟨b,0,c7⟩) i C,.int .i64 ((n:Int)+1 - (i:Int))]).run dd w=
  .ok (.slice (c6 ⟨w.heap.size,0,c7⟩) (n+1) (grownCap w (n+1) C 75)) (w.drew.alloc (.cells ((cs.take (i*9)).toArray++dT ((ga #[.int .i64 0,.int .i64 0,.int .i64 0,.int .i64 0,.int .i64 0,.bool false,.bool false,.int .i64 0,.int .i64 0]):Value).cells (n+1 -i)++dT ((ga #[.int .i64 0,.int .i64 0,.int .i64 0,.int .i64 0,.int .i64 0,.bool false,.bool false,.int .i64 0,.int .i64 0]):Value).cells (grownCap w (n+1) C 75 - (n+1))) 75)):=λty=>by
  have h:=Lib.run_append_grow_zeros w 53 3 ty 75 i0 _ .i64 .i64 hB qq hi0 hz0 (c6 ⟨b,0,c7⟩) i C (cs.take (i*9)) hold (n+1 -i) (by omega) (by omega) (by omega) (by omega) (by rw[hzb];omega) (by rw[hzb,hik];exact growslice_fits hroom hbig);rw[hik] at h;rw[hkk];exact h
 obtain⟨G,hG⟩:∃G,G=grownCap w (n+1) C 75:=⟨_,rfl⟩;obtain⟨ROW,hROW⟩:∃ROW:Array Value,ROW=(cs.take (i*9)).toArray++dT ((ga #[.int .i64 0,.int .i64 0,.int .i64 0,.int .i64 0,.int .i64 0,.bool false,.bool false,.int .i64 0,.int .i64 0]):Value).cells (n+1 -i)++dT ((ga #[.int .i64 0,.int .i64 0,.int .i64 0,.int .i64 0,.int .i64 0,.bool false,.bool false,.int .i64 0,.int .i64 0]):Value).cells (G - (n+1)):=⟨_,rfl⟩;rw[<-hG] at hrz⊢;rw[<-hROW] at hrz⊢;have hzc:((ga #[.int .i64 0,.int .i64 0,.int .i64 0,.int .i64 0,.int .i64 0,.bool false,.bool false,.int .i64 0,.int .i64 0]):Value).cells.size=9:=by decide
 have hRl:(n+1)*9<=ROW.size:=by
  rw[hROW];simp only[j9,size_zeroCells,hzc,k0,dt,hcl];omega
 obtain⟨W1,hW1⟩:∃W1,W1=w.drew.alloc (.cells ROW 75):=⟨_,rfl⟩;rw[<-hW1] at hrz;have hN:∀j,j<(n+1)*9->(W1.cell? ⟨w.heap.size,j,c7⟩).isSome=true:=λj hj=>by
  rw[hW1,World.cell?_alloc_at (w:=w.drew) ROW _ w.heap.size j rfl,h9 (by omega)];rfl
 have hNf:∀j,W1.frozen? ⟨w.heap.size,j,c7⟩=false:=λj=>by rw[hW1];exact World.frozen?_alloc_at (w:=w.drew) ROW _ w.heap.size j rfl
 have hOb:∀j v,w.cell? ⟨b,j,c7⟩=c6 v->W1.cell? ⟨b,j,c7⟩=c6 v:=λj v h=>by rw[hW1,my (w:=w.drew) _ b j hbw];exact h
 have hOv:∀j v,w.cell? ⟨vb,j,c7⟩=c6 v->W1.cell? ⟨vb,j,c7⟩=c6 v:=λj v h=>by rw[hW1,my (w:=w.drew) _ vb j hvw];exact h
 have hcpA:∀(W:World),(∀x,W.cell? x=W1.cell? x)->(∀x,W.frozen? x=W1.frozen? x)->∀ty dc,(h7 #[53,53] ty #[.slice (c6 ⟨w.heap.size,i*9,c7⟩) (n+1 -i) dc,.slice (c6 ⟨vb,0,c7⟩) 1 vC]).run dd W= .ok (goInt (1:Nat)) (W.setCells w.heap.size (i*9) vs):=λW hWc hWf ty dc=>
  Ee W _ _ ty 75 9 w.heap.size (i*9) (n+1 -i) dc ⟨vb,0,c7⟩ 1 vC 1 vs hB rfl (by simp only[o2];split <;> omega) (by rw[hvl])
   (λj v hj=>by rw[l2,hWc,j2];exact hOv _ v (hrv j v hj))
   (λj hj=>by rw[hWc];exact hN _ (by omega)) (λj hj=>by rw[hWf];exact hNf _) c2
 have hGn:n+1<=G:=by rw[hG];exact grownCap_ge w _ _ _
 have hG63:G<=9223372036854775807:=by
  have:=grownCap_le_maxLen w (n+1) C 75 (by unfold maxLen;omega);rw[<-hG] at this;unfold maxLen at this;omega
 have hGi:¬(G=i):=by omega
 have hGim:¬(G=i+1):=by omega
 have hci:¬(C=i):=by omega
 have hbN:b≠w.heap.size:=by omega
 have hdl:(cs.drop (i*9)).length=(n -i)*9:=by rw[e5,hcl];omega
 have hcpB:∀(W:World),(∀x,W.cell? x=(W1.setCells w.heap.size (i*9) vs).cell? x)->(∀x,W.frozen? x=(W1.setCells w.heap.size (i*9) vs).frozen? x)->∀ty dc sc,(h7 #[53,53] ty #[.slice (c6 ⟨w.heap.size,(i+1)*9,c7⟩) (n -i) dc,.slice (c6 ⟨b,i*9,c7⟩) (n -i) sc]).run dd W= .ok (goInt (n -i:Nat)) (W.setCells w.heap.size ((i+1)*9) (cs.drop (i*9))):=λW hWc hWf ty dc sc=>
  Ee W _ _ ty 75 9 w.heap.size ((i+1)*9) (n -i) dc ⟨b,i*9,c7⟩ (n -i) sc (n -i) (cs.drop (i*9)) hB rfl (by simp only[o2];split <;> omega) hdl
   (λj v hj=>by
    rw[l2,hWc,gy _ _ _ _ _ (λh _=>absurd h hbN)];exact hOb _ v (eZ ((i*9)+j) v (by rwa [hP] at hj)))
   (λj hj=>by rw[hWc];exact MW w.heap.size vs (i*9) W1 (λt ht=>hN _ (by omega)) _ (hN _ (by rw[hdl] at hj;omega)))
   (λj hj=>by rw[hWf,mx];exact hNf _) (λv hv=>c1 v (km hv))
 subst hW1;have hE1:∀x,((w.alloc (.cells ROW 75)).drew).cell? x=(w.drew.alloc (.cells ROW 75)).cell? x:=λx=>rfl
 have hE2:∀x,((w.alloc (.cells ROW 75)).drew).frozen? x=(w.drew.alloc (.cells ROW 75)).frozen? x:=λx=>rfl
 have hF1:∀x,(((w.alloc (.cells ROW 75)).drew.setCells w.heap.size (i*9) vs).drew).cell? x=((w.drew.alloc (.cells ROW 75)).setCells w.heap.size (i*9) vs).cell? x:=λx=>rfl
 have hF2:∀x,(((w.alloc (.cells ROW 75)).drew.setCells w.heap.size (i*9) vs).drew).frozen? x=((w.drew.alloc (.cells ROW 75)).setCells w.heap.size (i*9) vs).frozen? x:=λx=>rfl
 have mixed:dd.follows .mixedOrders=true:=by kernel_rfl
 have hw1:c3 c4 ((i:Int)+1)=(i:Int)+1:=by rw[h8];omega
 have hw2:c3 c4 ((n:Int)+1)=(n:Int)+1:=by rw[h8];omega
 have hw3:c3 c4 ((n:Int)+1 - (i:Int))=(n:Int)+1 - (i:Int):=by rw[h8];omega
 have hb1:(0:Int)<=(i:Int)+1:=by omega
 have hin:i<=n:=by omega
 have htn:((i:Int)+1).toNat=i+1:=by omega
 have hb3:(i:Int)<=(n:Int):=by omega
 clear hkk hik hold hROW hG hRl hcs hvs
 go_enter q2,wb
 go_wp2_with (first
  |(at_builtin;refine n2 _ rfl _ _ _ _ rfl _ _ rfl rfl _ _ (hrz _) ?_)
  |(at_builtin;refine Kj _ rfl _ _ 53 53 rfl _ _ rfl rfl (hcpA _ hE1 hE2 _ _) ?_)
  |(at_builtin;refine Kj _ rfl _ _ 53 53 rfl _ _ rfl rfl (hcpB _ (λ_=>rfl) (λ_=>rfl) _ _ _) ?_))
 go_region_law (refine Mz rfl _ _ 53 53 rfl (.slice (c6 ⟨w.heap.size,(i+1)*9,c7⟩) (n -i) (G - (i+1))) (.slice (c6 ⟨b,i*9,c7⟩) (n -i) (C -i)) (by simp[q3,x6]) (by simp[q3,x6]) (hcpB _ hF1 hF2 3 (G - (i+1)) (C -i)) ?_)
 go_wp2
 go_ret
 exact⟨rfl,rfl⟩
def aot:No dd 244 75 9 64:=by
 intro w b a C i A q cells f J l g v p r u G j O D P t s;have Q:(cells.toList.take (a*9)).length=a*9:=by rw[dt,e0,g];omega
 have B:(f.toList.take 9).length=9:=by rw[dt,e0,p];omega
 by_cases F:a+1<=C
 .refine(ai7 w b a C i A q cells f J l g v p r u j F t s).mono ?_
  rintro H K ⟨rfl,rfl⟩;refine⟨b,C,rfl,?_⟩
  have h:=(Xa (m:=a*9) l g j (by omega)).drew;have n:=h.set (o:=i*9+9) (vs:=(cells.toList.take (a*9)).drop (i*9)) (by omega) (by rw[e5];omega) (by simp only[ea,dt,e5,e0];omega);have c:=n.set (o:=i*9) (vs:=f.toList.take 9) (by simp only[ea,dt,e5,e0];omega) (by omega) (by simp only[ea,dt,e5,e0];omega);rw[ac9 (by omega) B] at c;have d:((i+1)*9)=i*9+9:=by omega
  have k:(i*9)=i*9:=by omega
  first
   |(rw[d,k];exact c)
   |(rw[d];exact c)
   |simpa only[rb] using c
 .refine(ah2 w b a C i A q cells f l g v p r u j G (by omega) D t s).mono ?_
  rintro H K ⟨rfl,rfl⟩;refine⟨_,_,rfl,?_⟩
  have L:=grownCap_ge w (a+1) C 75;have z:=grownCap_le_maxLen w (a+1) C 75 (by unfold maxLen;omega);generalize grownCap w (a+1) C 75=e at L z⊢;have I:((ga #[.int .i64 0,.int .i64 0,.int .i64 0,.int .i64 0,.int .i64 0,.bool false,.bool false,.int .i64 0,.int .i64 0]):Value).cells.size=9:=by decide
  have x:((((cells.toList.take (a*9)).take (i*9)).toArray++dT ((ga #[.int .i64 0,.int .i64 0,.int .i64 0,.int .i64 0,.int .i64 0,.bool false,.bool false,.int .i64 0,.int .i64 0]):Value).cells (a+1 -i)++dT ((ga #[.int .i64 0,.int .i64 0,.int .i64 0,.int .i64 0,.int .i64 0,.bool false,.bool false,.int .i64 0,.int .i64 0]):Value).cells (e - (a+1)))).size=e*9:=by
   simp only[j9,size_zeroCells,I,k0,dt,e0];omega
  have h:=(ak9 (w:=w) (b:=b) (C:=C) (m:=(a+1)*9) (E:=75) x z (by omega)).drew;have M:(((((cells.toList.take (a*9)).take (i*9)).toArray++dT ((ga #[.int .i64 0,.int .i64 0,.int .i64 0,.int .i64 0,.int .i64 0,.bool false,.bool false,.int .i64 0,.int .i64 0]):Value).cells (a+1 -i)++dT ((ga #[.int .i64 0,.int .i64 0,.int .i64 0,.int .i64 0,.int .i64 0,.bool false,.bool false,.int .i64 0,.int .i64 0]):Value).cells (e - (a+1)))).toList.take ((a+1)*9)).length=(a+1)*9:=by
   rw[dt,e0,x];omega
  have y:(((((cells.toList.take (a*9)).take (i*9)).toArray++dT ((ga #[.int .i64 0,.int .i64 0,.int .i64 0,.int .i64 0,.int .i64 0,.bool false,.bool false,.int .i64 0,.int .i64 0]):Value).cells (a+1 -i)++dT ((ga #[.int .i64 0,.int .i64 0,.int .i64 0,.int .i64 0,.int .i64 0,.bool false,.bool false,.int .i64 0,.int .i64 0]):Value).cells (e - (a+1)))).toList.take ((a+1)*9)).take (i*9)=(cells.toList.take (a*9)).take (i*9):=by
   rw[tt,j7 (by omega)];simp only[Array.toList_append,l3];exact sn (by rw[dt];omega)
  generalize (((((cells.toList.take (a*9)).take (i*9)).toArray++dT ((ga #[.int .i64 0,.int .i64 0,.int .i64 0,.int .i64 0,.int .i64 0,.bool false,.bool false,.int .i64 0,.int .i64 0]):Value).cells (a+1 -i)++dT ((ga #[.int .i64 0,.int .i64 0,.int .i64 0,.int .i64 0,.int .i64 0,.bool false,.bool false,.int .i64 0,.int .i64 0]):Value).cells (e - (a+1)))).toList.take ((a+1)*9))=N at h M y;have n:=(h.set (o:=(i*9)) (vs:=f.toList.take 9) (by omega) (by omega) (by simp only[ea,dt,e5];omega)).drew;have c:=n.set (o:=(i*9)+9) (vs:=(cells.toList.take (a*9)).drop (i*9)) (by simp only[ea,dt,e5,e0];omega) (by rw[e5];omega) (by simp only[ea,dt,e5,e0];omega);rw[anz (by omega) B (by omega) y] at c;have d:((i+1)*9)=(i*9)+9:=by omega
  have k:i*9=(i*9):=by omega
  first
   |(rw[d,k];exact c)
   |(rw[d];exact c)
   |simpa only[rb] using c
end
end Go.X.T
namespace Go.X.T
open Go Go.Aml Go.Bml Go.X Go.RowKit Go.Proofs
def FI(e:Nat){b:Type}(a c:List b)(d:Int):Option (List b):=
 (eG a d (a.length:Int)).bind λ_=>bif c5 ((c.length:Int)=0) then c6 a else bif c5 (d=(a.length:Int)) then(bj e a c).bind λr=>c6 r else c7
def AU(b:Lp):aq BT:=⟨244,3,0,(wW b).par,(wW b).az,λa=>FI 64 a.1 a.2.1 a.2.2⟩
def Yp(a:Lp)(b:bi BT.D (AU a).par.bX):gl a BT dd [] (AU a) [.tmp 6] ((Tryz.f244.body).getD .skip) [] b=(AU a).F b:=by kernel_rfl
def OA(a:Lp):FT (AU a):=FA (hs:=[]) mixed dM f0 q2 rfl rfl rfl rfl (by kernel_rfl) rfl rfl (Yp a)
def aix{d:Type}{e:Nat}{l:List d}{i:Int}{xs y:List d}(a:B2 e l i xs=c6 y):∃(c:d) (b:Nat),xs=[c]/\i=(b:Int)/\b<=l.length/\(l.length+1)*e<=140737488355328/\y=l.take b++[c]++l.drop b:=by
 unfold B2 at a
 split at a
 .rename_i h;obtain⟨m,k,f⟩:=h;obtain⟨r,g,a⟩:=m1.1 a;injection a with a
  obtain⟨j,_⟩:=AN g
  match xs,f with
  |[c],_=>exact⟨c,i.toNat,rfl,by omega,by omega,by simpa using j,a.symm⟩
 .cases a
def afY{c e:Type}(f:c->e)(a:List c)(d:c)(b:Nat):(a.map f).take b++[f d]++(a.map f).drop b=(a.take b++[d]++a.drop b).map f:=by simp[List.map_take,List.map_drop]
def adX{b:Type}(a:List b)(c:b):a.take a.length++[c]++a.drop a.length=z7 a [c]:=by simp
def aiO{d:Type}{c:Nat}{a:List d}{b:d}(g:(a.length+1)*c<=140737488355328):FI c a [b] (a.length:Int)=c6 (a++[b]):=by
 unfold FI;have f:eG a (a.length:Int) (a.length:Int)=c6 []:=by
  unfold eG;simp
 have e:bj c a [b]=c6 (a++[b]):=by
  unfold bj;simp[g]
 rw[f];simp[e]
def ail(d:Lp):FT (wW d):=by
 refine⟨(OA d).Q6,λf y o g w vs p n c=>?_⟩
 obtain⟨e,b,u,s,m,h,r⟩:=aix (l:=f.1) (xs:=f.2.1) (i:=f.2.2) (y:=y) o;obtain⟨a,S,Q⟩:=f;dsimp only at u s m h r o;subst u s r
 by_cases J:b<o3 a
 .have C:cz BT (wW d).par (a,[e],(b:Int))=⟨[(0,.fl 0 0),(1,.int .i64 (b:Int)),(2,.fl 1 0)],[⟨0,0,.aap 75 a⟩,⟨0,0,.aap 75 [e]⟩]⟩:=rfl
  erw [C] at n c⊢
  match vs,p with
  |[P,G,T],_=>
  have A:G= .int .i64 (b:Int):=VR.fQ (g:=g) (w:=w) (c 1);subst A;have j:(o4 (BT.ty 75).enc a).length=o3 a:=hq _;have B:=aeQ aot (by decide) (g:=g) (w:=w) (w0:=0) (w1:=0) (es:=o4 (BT.ty 75).enc a) (e:=(BT.ty 75).enc e) (i:=b) (Nat.lt_of_lt_of_eq J j.symm) n (q4 (x9 (congrArg (λz=>(z+1)*64) j)) h) (q4 (x9 (congrArg (λz=>(z+1)*_) j)) (by omega)) (c 0) (c 2);refine B.mono ?_
  rintro R L ⟨v,F,rfl,q,x,t⟩;have K:(o4 (BT.ty 75).enc a).take b++[(BT.ty 75).enc e]++(o4 (BT.ty 75).enc a).drop b=o4 (BT.ty 75).enc (x1 b a++[e]++x2 b a):=afY _ a e b;rw[K] at q x t;have M:take BT 0 (wW d).az ⟨[(0,.fl 0 1)],[⟨1,1,.aap 75 (x1 b a++[e]++x2 b a)⟩,⟨0,0,.aap 75 [e]⟩]⟩ c6=c6 (x1 b a++[e]++x2 b a):=rfl;obtain⟨O,k,H,N,I,D⟩:=EK dM M (g:=F) (w:=L) q;injection k with k
  subst k;exact⟨v,H,rfl,N,(x.less (ei _)).trans I,D 0 v t⟩
 .have m:b=o3 a:=by omega
  subst m;have E:=adX a e
  erw [E]
  exact(OA d).calls (a,[e],(o3 a:Int)) (z7 a [e]) (aiO h) g w vs p n c
def QD0:bY:=⟨[(0,[4],.aap 3 22),(0,[6],.aap 3 22),(0,[7],.aap 3 22)],[(0,.g [.v 27,.v 28,.v 3,.v 31,.r 0,.v 32,.r 1,.r 2,.ns])]⟩
def YL:bY:=⟨[(0,[4],.aap 3 22),(0,[6],.aap 3 22),(0,[7],.aap 3 22),(0,[8],.refs 22 [4]),(0,[8,0],.aap 3 22)],[(0,.g [.v 27,.v 28,.v 3,.v 31,.r 0,.v 32,.r 1,.r 2,.r 3])]⟩
def V1:bY:=⟨[(0,[4],.aap 3 22),(0,[6],.aap 3 22),(0,[7],.aap 3 22),(0,[8],.refs 22 [4,5]),(0,[8,0],.aap 3 22),(0,[8,1],.aap 3 22)],[(0,.g [.v 27,.v 28,.v 3,.v 31,.r 0,.v 32,.r 1,.r 2,.r 3])]⟩
def QD3:bY:=⟨[(0,[4],.aap 3 22),(0,[6],.aap 3 22),(0,[7],.aap 3 22),(0,[8],.refs 22 [4,5,6]),(0,[8,0],.aap 3 22),(0,[8,1],.aap 3 22),(0,[8,2],.aap 3 22)],[(0,.g [.v 27,.v 28,.v 3,.v 31,.r 0,.v 32,.r 1,.r 2,.r 3])]⟩
def pW(a:Lp):aq BT:=⟨143,1,0,⟨[],[(0,.v 35)]⟩,QD0,λb=>we a b⟩
def tR(a:Lp):aq BT:=⟨143,1,0,⟨[],[(0,.v 35)]⟩,YL,λb=>uR a b⟩
def qd(a:Lp):aq BT:=⟨143,1,0,⟨[],[(0,.v 35)]⟩,V1,λb=>pO a b⟩
def nX(a:Lp):aq BT:=⟨143,1,0,⟨[],[(0,.v 35)]⟩,QD3,λb=>nM a b⟩
def HD:List (Nat×Hn):=[(506,⟨[],[(2,⟨[(2,true,.box 35 [.v 27,.v 28,.v 3,.v 31,.r 3,.v 32,.v 22,.v 22,.v 33])],[],[]⟩)],c6 ⟨[(2,true,.box 35 [.v 27,.v 28,.v 3,.v 31,.r 3,.r 4,.v 22,.v 22,.v 33])],[(100002,[5],.aap 120 32)],[(31,.v 3)]⟩⟩),(64818,⟨[2],[],c7⟩),(64819,⟨[3],[],c7⟩),(4090,⟨[4],[],c7⟩)]
def GD(a:Lp):List (aq BT):=[RL a,Mq a,Pv a,OB a,PI a]
def gd(a:Lp):∀b,b∈GD a->FT b:=fc (oh a) (fc (sP a) (fc (Md a) (fc (oH a) (fc (iY a) f0))))
def RD0(a:Lp)(d:ak)(c:Int)(p:List bC)(g:List Int)(f:List aS)(e b:List Int):gl a BT dd (GD a) (pW a) [.cell 2 35] ((r3.body).getD .skip) HD (aB.mk d c p g f e b [])=we a (aB.mk d c p g f e b []):=by kernel_rfl
def Vm(a:Lp)(h:ak)(d:Int)(p:List bC)(c:List Int)(f:List aS)(e b g:List Int):gl a BT dd (GD a) (tR a) [.cell 2 35] ((r3.body).getD .skip) HD (aB.mk h d p c f e b [g])=uR a (aB.mk h d p c f e b [g]):=by kernel_rfl
def RD2(a:Lp)(i:ak)(e:Int)(p:List bC)(d:List Int)(g:List aS)(f c h b:List Int):gl a BT dd (GD a) (qd a) [.cell 2 35] ((r3.body).getD .skip) HD (aB.mk i e p d g f c [h,b])=pO a (aB.mk i e p d g f c [h,b]):=by kernel_rfl
def YZ(a:Lp)(i:ak)(e:Int)(p:List bC)(d:List Int)(g:List aS)(f c h b j:List Int):gl a BT dd (GD a) (nX a) [.cell 2 35] ((r3.body).getD .skip) HD (aB.mk i e p d g f c [h,b,j])=nM a (aB.mk i e p d g f c [h,b,j]):=by kernel_rfl
def HC(b:Lp):FT (pW b):=EB mixed dM (gd b) (hs:=HD) (rs:=[.cell 2 35]) j3 rfl rfl rfl rfl (by kernel_rfl) rfl rfl λh k a=>by
 obtain⟨j,f,p,e,i,g,c,d⟩:=h
 match d,a with
 |[],a=>exact(RD0 b j f p e i g c).trans a
 |_::_,a=>cases a
def SP(b:Lp):FT (tR b):=EB mixed dM (gd b) (hs:=HD) (rs:=[.cell 2 35]) j3 rfl rfl rfl rfl (by kernel_rfl) rfl rfl λh l a=>by
 obtain⟨k,f,p,e,i,g,c,d⟩:=h
 match d,a with
 |[j],a=>exact(Vm b k f p e i g c j).trans a
 |[],a=>cases a
 |_::_::_,a=>cases a
def GB(b:Lp):FT (qd b):=EB mixed dM (gd b) (hs:=HD) (rs:=[.cell 2 35]) j3 rfl rfl rfl rfl (by kernel_rfl) rfl rfl λi m a=>by
 obtain⟨l,g,p,f,j,h,d,e⟩:=i
 match e,a with
 |[k,c],a=>exact(RD2 b l g p f j h d k c).trans a
 |[],a=>cases a
 |[_],a=>cases a
 |_::_::_::_,a=>cases a
def EH(b:Lp):FT (nX b):=EB mixed dM (gd b) (hs:=HD) (rs:=[.cell 2 35]) j3 rfl rfl rfl rfl (by kernel_rfl) rfl rfl λi n a=>by
 obtain⟨l,g,p,f,j,h,d,e⟩:=i
 match e,a with
 |[k,c,m],a=>exact(YZ b l g p f j h d k c m).trans a
 |[],a=>cases a
 |[_],a=>cases a
 |[_,_],a=>cases a
 |_::_::_::_::_,a=>cases a
def HS:List (Nat×Hn):=[(506,⟨[4],[],c7⟩)]
def RS0(a:Lp)(i:ak)(d:Int)(p:List bC)(c:List Int)(h:List aS)(f b:List Int)(g e:Int):gl a BT dd [pW a,lT a] (mG a) [.cell 6 35,.tmp 7] ((m3.body).getD .skip) HS (aB.mk i d p c h f b [],g,e)=oX a (aB.mk i d p c h f b []) g e:=by kernel_rfl
def Yt(a:Lp)(j:ak)(d:Int)(p:List bC)(c:List Int)(h:List aS)(f b:List Int)(i:List Int)(g e:Int):gl a BT dd [tR a,lT a] (mG a) [.cell 6 35,.tmp 7] ((m3.body).getD .skip) HS (aB.mk j d p c h f b [i],g,e)=oX a (aB.mk j d p c h f b [i]) g e:=by kernel_rfl
def RS2(a:Lp)(k:ak)(e:Int)(p:List bC)(d:List Int)(i:List aS)(g c:List Int)(j b:List Int)(h f:Int):gl a BT dd [qd a,lT a] (mG a) [.cell 6 35,.tmp 7] ((m3.body).getD .skip) HS (aB.mk k e p d i g c [j,b],h,f)=oX a (aB.mk k e p d i g c [j,b]) h f:=by kernel_rfl
def RS3(a:Lp)(k:ak)(e:Int)(p:List bC)(d:List Int)(i:List aS)(g c:List Int)(j b l:List Int)(h f:Int):gl a BT dd [nX a,lT a] (mG a) [.cell 6 35,.tmp 7] ((m3.body).getD .skip) HS (aB.mk k e p d i g c [j,b,l],h,f)=oX a (aB.mk k e p d i g c [j,b,l]) h f:=by kernel_rfl
def RS4(a:Lp)(m:ak)(f:Int)(p:List bC)(i:List Int)(k:List aS)(h e:List Int)(l b n c:List Int)(d:List (List Int))(j g:Int):gl a BT dd [pW a,lT a] (mG a) [.cell 6 35,.tmp 7] ((m3.body).getD .skip) HS (aB.mk m f p i k h e (l::b::n::c::d),j,g)=oX a (aB.mk m f p i k h e (l::b::n::c::d)) j g:=by kernel_rfl
def KS(a:Lp)(i:FT (lT a)):FT (mG a):=by
 have v:∀(n:bi BT.D (mG a).par.bX) (r:bi BT.D (mG a).az.bX),(mG a).F n=c6 r->∃s:List (aq BT),(∀t,t∈s->FT t)/\gl a BT dd s (mG a) [.cell 6 35,.tmp 7] ((m3.body).getD .skip) HS n=c6 r:=by
  intro n r b;obtain⟨⟨h,k,p,e,m,l,d,o⟩,f,g⟩:=n
  match o,b with
  |[],b=>exact⟨[pW a,lT a],fc (HC a) (fc i f0),(RS0 a h k p e m l d f g).trans b⟩
  |[c],b=>exact⟨[tR a,lT a],fc (SP a) (fc i f0),(Yt a h k p e m l d c f g).trans b⟩
  |[c,j],b=>exact⟨[qd a,lT a],fc (GB a) (fc i f0),(RS2 a h k p e m l d c j f g).trans b⟩
  |[c,j,q],b=>exact⟨[nX a,lT a],fc (EH a) (fc i f0),(RS3 a h k p e m l d c j q f g).trans b⟩
  |c::j::q::u::o,b=>exact⟨[pW a,lT a],fc (HC a) (fc i f0),(RS4 a h k p e m l d c j q u o f g).trans b⟩
 exact aed mixed dM (hs:=HS) (rs:=[.cell 6 35,.tmp 7]) Tryz.func171 rfl rfl rfl rfl (by kernel_rfl) rfl rfl v
def qZ:List (Nat×Hn):=[(60,⟨[],[(0,⟨[],[],[(57,.v 4)]⟩)],c7⟩),(508,⟨[],[(0,⟨[],[],[(80,.v 4)]⟩)],c7⟩),(509,⟨[],[(0,⟨[],[],[(13,.v 3)]⟩)],c7⟩),(16771484,⟨[],[(0,⟨[],[],[(145,.v 4)]⟩)],c7⟩)]
def GL(a:Lp)(b:aq BT):List (aq BT):=[b,Kf a,C5 a,Fz a,AW a]
def M7:List (Nat×Hn):=qZ++[(16378,⟨[],[(3,⟨[(8,true,.box 101 [.v 3,.v 3,.v 3,.r 9])],[(100008,[3],.aap 3 22)],[]⟩)],c6 ⟨[(8,true,.box 101 [.v 3,.v 3,.v 3,.r 9])],[(100008,[3],.aap 3 22)],[(110,.v 3)]⟩⟩)]
def WN(a:Lp)(i:ak)(e:Int)(p:List bC)(d:List Int)(h:List aS)(g c:List Int)(f b:Int):gl a BT dd (GL a (pW a)) (nD a) [.cell 8 35,.cell 9 101,.tmp 10] ((kc.body).getD .skip) M7 (aB.mk i e p d h g c [],(0:Int),f,b)=jO a (aB.mk i e p d h g c []) 0 f b:=by kernel_rfl
def Od:List (Nat×Hn):=qZ++[(16378,⟨[],[(1,⟨[(1,true,.box 35 [.v 27,.v 28,.v 3,.v 31,.v 22,.v 32,.v 22,.v 22,.v 33]),(2,true,.box 101 [.v 3,.v 3,.v 3,.v 22]),(8,false,.dead),(10,false,.dead)],[],[(10,.v 67)]⟩),(3,⟨[(8,true,.aap 3 22),(10,true,.box 101 [.v 3,.v 3,.v 3,.r 11])],[(100010,[3],.aap 3 22)],[]⟩)],c6 ⟨[(8,true,.aap 3 22),(10,true,.box 101 [.v 3,.v 3,.v 3,.r 11])],[(100010,[3],.aap 3 22)],[(110,.v 3)]⟩⟩)]
def ahC(a:Lp)(j:ak)(e:Int)(p:List bC)(d:List Int)(h:List aS)(g c:List Int)(i:List Int)(f b:Int):gl a BT dd (GL a (tR a)) (nD a) [.cell 8 35,.cell 9 101,.tmp 10] ((kc.body).getD .skip) Od (aB.mk j e p d h g c [i],(0:Int),f,b)=jO a (aB.mk j e p d h g c [i]) 0 f b:=by kernel_rfl
def Po:List (Nat×Hn):=qZ++[(16378,⟨[],[(1,⟨[(1,true,.box 35 [.v 27,.v 28,.v 3,.v 31,.v 22,.v 32,.v 22,.v 22,.v 33]),(2,true,.box 101 [.v 3,.v 3,.v 3,.v 22]),(8,false,.dead),(11,false,.dead)],[],[(10,.v 67)]⟩),(3,⟨[(8,true,.aap 3 22),(11,true,.box 101 [.v 3,.v 3,.v 3,.r 12])],[(100011,[3],.aap 3 22)],[]⟩)],c6 ⟨[(8,true,.aap 3 22),(11,true,.box 101 [.v 3,.v 3,.v 3,.r 12])],[(100011,[3],.aap 3 22)],[(110,.v 3)]⟩⟩)]
def akd(a:Lp)(k:ak)(f:Int)(p:List bC)(e:List Int)(i:List aS)(h d:List Int)(j b:List Int)(g c:Int):gl a BT dd (GL a (qd a)) (nD a) [.cell 8 35,.cell 9 101,.tmp 10] ((kc.body).getD .skip) Po (aB.mk k f p e i h d [j,b],(0:Int),g,c)=jO a (aB.mk k f p e i h d [j,b]) 0 g c:=by kernel_rfl
def Qs:List (Nat×Hn):=qZ++[(16378,⟨[],[(1,⟨[(1,true,.box 35 [.v 27,.v 28,.v 3,.v 31,.v 22,.v 32,.v 22,.v 22,.v 33]),(2,true,.box 101 [.v 3,.v 3,.v 3,.v 22]),(9,false,.dead),(11,false,.dead)],[],[(10,.v 67)]⟩),(3,⟨[(9,true,.aap 3 22),(11,true,.box 101 [.v 3,.v 3,.v 3,.r 12])],[(100011,[3],.aap 3 22)],[]⟩)],c6 ⟨[(9,true,.aap 3 22),(11,true,.box 101 [.v 3,.v 3,.v 3,.r 12])],[(100011,[3],.aap 3 22)],[(110,.v 3)]⟩⟩)]
def am3(a:Lp)(k:ak)(f:Int)(p:List bC)(e:List Int)(i:List aS)(h d:List Int)(j b:List Int)(g c:Int):gl a BT dd (GL a (qd a)) (nD a) [.cell 8 35,.cell 9 101,.tmp 10] ((kc.body).getD .skip) Qs (aB.mk k f p e i h d [j,b],(1:Int),g,c)=jO a (aB.mk k f p e i h d [j,b]) 1 g c:=by kernel_rfl
def LP:List (Nat×Hn):=qZ++[(16378,⟨[],[(1,⟨[(1,true,.box 35 [.v 27,.v 28,.v 3,.v 31,.v 22,.v 32,.v 22,.v 22,.v 33]),(2,true,.box 101 [.v 3,.v 3,.v 3,.v 22]),(8,false,.dead),(12,false,.dead)],[],[(10,.v 67)]⟩),(3,⟨[(8,true,.aap 3 22),(12,true,.box 101 [.v 3,.v 3,.v 3,.r 13])],[(100012,[3],.aap 3 22)],[]⟩)],c6 ⟨[(8,true,.aap 3 22),(12,true,.box 101 [.v 3,.v 3,.v 3,.r 13])],[(100012,[3],.aap 3 22)],[(110,.v 3)]⟩⟩)]
def apY(a:Lp)(k:ak)(f:Int)(p:List bC)(e:List Int)(i:List aS)(h d:List Int)(j b l:List Int)(g c:Int):gl a BT dd (GL a (nX a)) (nD a) [.cell 8 35,.cell 9 101,.tmp 10] ((kc.body).getD .skip) LP (aB.mk k f p e i h d [j,b,l],(0:Int),g,c)=jO a (aB.mk k f p e i h d [j,b,l]) 0 g c:=by kernel_rfl
def MX:List (Nat×Hn):=qZ++[(16378,⟨[],[(1,⟨[(1,true,.box 35 [.v 27,.v 28,.v 3,.v 31,.v 22,.v 32,.v 22,.v 22,.v 33]),(2,true,.box 101 [.v 3,.v 3,.v 3,.v 22]),(9,false,.dead),(12,false,.dead)],[],[(10,.v 67)]⟩),(3,⟨[(9,true,.aap 3 22),(12,true,.box 101 [.v 3,.v 3,.v 3,.r 13])],[(100012,[3],.aap 3 22)],[]⟩)],c6 ⟨[(9,true,.aap 3 22),(12,true,.box 101 [.v 3,.v 3,.v 3,.r 13])],[(100012,[3],.aap 3 22)],[(110,.v 3)]⟩⟩)]
def Wn(a:Lp)(k:ak)(f:Int)(p:List bC)(e:List Int)(i:List aS)(h d:List Int)(j b l:List Int)(g c:Int):gl a BT dd (GL a (nX a)) (nD a) [.cell 8 35,.cell 9 101,.tmp 10] ((kc.body).getD .skip) MX (aB.mk k f p e i h d [j,b,l],(1:Int),g,c)=jO a (aB.mk k f p e i h d [j,b,l]) 1 g c:=by kernel_rfl
def N5:List (Nat×Hn):=qZ++[(16378,⟨[],[(1,⟨[(1,true,.box 35 [.v 27,.v 28,.v 3,.v 31,.v 22,.v 32,.v 22,.v 22,.v 33]),(2,true,.box 101 [.v 3,.v 3,.v 3,.v 22]),(10,false,.dead),(12,false,.dead)],[],[(10,.v 67)]⟩),(3,⟨[(10,true,.aap 3 22),(12,true,.box 101 [.v 3,.v 3,.v 3,.r 13])],[(100012,[3],.aap 3 22)],[]⟩)],c6 ⟨[(10,true,.aap 3 22),(12,true,.box 101 [.v 3,.v 3,.v 3,.r 13])],[(100012,[3],.aap 3 22)],[(110,.v 3)]⟩⟩)]
def ZS(a:Lp)(k:ak)(f:Int)(p:List bC)(e:List Int)(i:List aS)(h d:List Int)(j b l:List Int)(g c:Int):gl a BT dd (GL a (nX a)) (nD a) [.cell 8 35,.cell 9 101,.tmp 10] ((kc.body).getD .skip) N5 (aB.mk k f p e i h d [j,b,l],(2:Int),g,c)=jO a (aB.mk k f p e i h d [j,b,l]) 2 g c:=by kernel_rfl
def ae3(a:Lp)(A:FT (Kf a))(D:FT (C5 a))(B:FT (Fz a)):FT (nD a):=by
 have g:∀r,FT r->∀z,z∈GL a r->FT z:=λr u=>fc u (fc A (fc D (fc B (fc (D5 a) f0))))
 have F:∀(x b:Int) (d:Option (aB×aT×Int)),x≠b->(bif c5 (x=b) then d else c7)=c7:=λx b d u=>by rw[decide_eq_false u];rfl
 have E:∀(k:ak) (l:Int) (p:List bC) (h:List Int) (n:List aS) (m f:List Int) (s:List (List Int)) (i j e:Int) (v:aB×aT×Int),jO a (aB.mk k l p h n m f s) i j e=c6 v->
  ∃(g:List (aq BT)) (C:List (Nat×Hn)),(∀r,r∈g->FT r)/\gl a BT dd g (nD a) [.cell 8 35,.cell 9 101,.tmp 10] ((kc.body).getD .skip) C (aB.mk k l p h n m f s,i,j,e)=c6 v:=by
  intro k l p h n m f s i j e v c
  match s,c with
  |[],c=>
   by_cases h0:(i:Int)=0
   .subst h0;exact⟨GL a (pW a),M7,g _ (HC a),(WN a k l p h n m f j e).trans c⟩
   .unfold jO at c;simp only[decide_eq_false h0,cond_false] at c;cases c
  |[o],c=>
   by_cases h0:(i:Int)=0
   .subst h0;exact⟨GL a (tR a),Od,g _ (SP a),(ahC a k l p h n m f o j e).trans c⟩
   .unfold jO at c;simp only[decide_eq_false h0,cond_false] at c;cases c
  |[o,q],c=>
   by_cases h0:(i:Int)=0
   .subst h0;exact⟨GL a (qd a),Po,g _ (GB a),(akd a k l p h n m f o q j e).trans c⟩
   by_cases t:(i:Int)=1
   .subst t;exact⟨GL a (qd a),Qs,g _ (GB a),(am3 a k l p h n m f o q j e).trans c⟩
   .unfold jO at c;simp only[decide_eq_false h0,decide_eq_false t,cond_false] at c;cases c
  |[o,q,w],c=>
   by_cases h0:(i:Int)=0
   .subst h0;exact⟨GL a (nX a),LP,g _ (EH a),(apY a k l p h n m f o q w j e).trans c⟩
   by_cases t:(i:Int)=1
   .subst t;exact⟨GL a (nX a),MX,g _ (EH a),(Wn a k l p h n m f o q w j e).trans c⟩
   by_cases y:(i:Int)=2
   .subst y;exact⟨GL a (nX a),N5,g _ (EH a),(ZS a k l p h n m f o q w j e).trans c⟩
   .unfold jO at c;simp only[decide_eq_false h0,decide_eq_false t,decide_eq_false y,cond_false] at c;cases c
  |o::q::w::G::s,c=>
   cases c
 exact afO mixed dM (rs:=[.cell 8 35,.cell 9 101,.tmp 10]) Tryz.func163 rfl rfl rfl rfl (by kernel_rfl) rfl rfl λd v u=>E d.1.ao d.1.aa0 d.1.aN d.1.aw d.1.aQ d.1.cn d.1.cf d.1.bp d.2.1 d.2.2.1 d.2.2.2 v u
end Go.X.T
namespace Go.X
open Go Go.Aml Go.Bml Go.RowKit
section
variable {P:Program}{B:Tb}{R:Type}{r:R}
def Pu(N:P.follows .mixedOrders=true)(O:cU P B){V:Lp}{I:List (aq B)}(L:∀J,J∈I->Fits P B J){s o M:Nat}{K:Code}{x:Exit->Act->World->Prop}{H:Nat->St B.D->Option R}:
 ∀(l:List (Code×List (Nat×Hn))) (c:St B.D),AS V B P I o l H c=c6 r->RB s l=true->o<=c.H.length->∀(g:Gh) (j:Act) (d:World),Rel g s (aU B c.E) (av B c.H) j d->
  (∀f t b a,H 0 f=c6 r->o<=f.H.length->Rel t s (aU B f.E) (av B f.H) b a->Bml.GStep o g (av B c.H) d t (av B f.H) a->K.wpIn p7 M P x b a)->
  (∀e b a,e≠ .normal->eI s o g (av B c.H) d (qP B H r) e b a->x e b a)->(IX l K).wpIn p7 M P x j d
 |[],c,D,_,u,g,j,d,G,F,_=>F c g j d D u G (Bml.GStep.refl _ _ _ _)
 |p::l,c,D,Y,u,g,j,d,G,F,y=>by
  obtain⟨X,ac⟩:=fu Y;refine wpIn_seq (wpIn_wide.2 (gO N O L p.1 1 _ _ _ D X u g j d G _ λe E z i=>?_))
  cases e with
  |normal=>
   obtain⟨_,_,m,⟨q,v,h,rfl,rfl⟩,n,k⟩:=i;have Q:=q4 u v.len;exact Pu N O L l q h ac Q m E z n (λf t b a aa U S W=>F f t b a aa U S (k.trans W)) λe b a Z T=>y e b a Z (eI.trans k T)
  |ret=>
   obtain⟨w,H1,m,⟨q,v,h,A,C⟩,n,k⟩:=i;exact y .ret E z (by simp) ⟨w,H1,m,⟨q,h,A,C⟩,n,k⟩
  |exit ab=>
   obtain⟨w,H1,m,⟨q,v,h,A,C⟩,n,k⟩:=i;exact y (.exit ab) E z (by simp) ⟨w,H1,m,⟨q,h,A,C⟩,n,k⟩
  |goto _=>obtain⟨_,_,_,h,_⟩:=i;exact h.elim
  |panic _=>exact i.elim
  |outgrown=>exact i.elim
def afv(T:P.follows .mixedOrders=true)(V:cU P B){y:List (aq B)}(O:∀k,k∈y->Fits P B k){l m n p D:Nat}{F:List Nat}{d:List Oper}{c:St B.D}{w:St B.D->Option R}{g:Gh}{s:Act}{h:World}{Q:Exit->Act->World->Prop}
 (W:Rel g p (aU B c.E) (av B c.H) s h) (U:ops B P y F d (λY c=>bif m7 0 d then bif n4 d [] 0 (nf Y []) then w c else c7 else c7) 0 d [] c=c6 r)
 (H:∀b,b∈d->fL p b.dst=true) (Z:∀b,b∈d->∀k,b.op≠ .defer k) (S:∀q z t A,w q=c6 r->Rel A p (aU B q.E) (av B q.H) z t->Bml.GStep m g (av B c.H) h A (av B q.H) t->Q .normal z t):
 (Code.region D d.toArray true).wpIn (p7.inRound l) n P Q s h:=by
 obtain⟨ab,o,K,f⟩:=qg V O U;rw[l0] at f;obtain⟨M,f⟩:=a8 f;obtain⟨x,f⟩:=a8 f;rw[J8,l0,List.reverse_reverse] at x;have G:=LB (nn:=m) (Q:=λj v u=>j= .normal/\v=aU B o.E/\u=av B o.H) K M x H ⟨rfl,rfl,rfl⟩ g s h W (eI p m g (av B c.H) h λj v u=>j= .normal/\v=aU B o.E/\u=av B o.H) (λ_ _ _ a=>a);have X:=Ck (l:=l) (n:=n) (λs h a=>a) (λi b C=>Z b (by
  rw[List.getElem?_toArray] at C;exact fe C)) _ _ _ _ G
 refine wpIn_mono (wpIn_region_any T X) ?_
 intro j L N e;cases j with
 |normal=>
  obtain⟨aa,H3,E,⟨_,rfl,rfl⟩,J,I⟩:=e;exact S o L N E f J I
 |exit D=>obtain⟨_,_,_,⟨a,_⟩,_⟩:=e;cases a
 |ret=>obtain⟨_,_,_,⟨a,_⟩,_⟩:=e;cases a
 |goto l=>obtain⟨_,_,_,⟨a,_⟩,_⟩:=e;cases a
 |panic k=>exact e.elim
 |outgrown=>exact e.elim
end
end Go.X
namespace Go.X.T
open Go Go.Aml Go.Bml Go.X Go.RowKit Go.Proofs
def tU(c:Lp){R:Type}(d:aT×Int->Option R)(h:Int->Int->Int->List Int->Int->Option R)(a:fa):Option R:=
 bif c5 (a.abv≠9) then d (aT.mk 0 0 0 [],5) else
 (cp c a.kO 0 31).bind λj=>
 bif (!j) then d (aT.mk 0 0 0 [],40) else
 (bif c5 (((a.Data).length:Int)<9) then c6 true else(aj a.Data 8).bind λb=>c6 (c5 (((a.Data).length:Int)≠c3 c4 (9+c3 c4 (2*c3 c4 b))))).bind λbad=>
 bif bad then d (aT.mk 0 0 0 [],6) else
 (eG a.Data 0 2).bind λi=>(jQ c i).bind λk=>
 (eG a.Data 2 8).bind λg=>(jQ c g).bind λf=>
 (eG a.Data 9 ((a.Data).length:Int)).bind λl=>(vE c l 2).bind λe=>
 h a.kO (c3 c4 k) (c3 c4 f) e.1 e.2
def fK{c e:Type}{b:Option c}{d:c->Option e}{r:e}(f:b.bind d=c6 r):∃a,b=c6 a/\d a=c6 r:=by
 cases b with
 |none=>cases f
 |some a=>exact⟨a,rfl,f⟩
def aoS{h:Lp}{R:Type}{i:aT×Int->R}{o:Int->Int->Int->List Int->Int->Option (aT×Int)}{V:Int->Int->Int->List Int->Int->Option R}{c:fa}{r:aT×Int}(a:tU h c6 o c=c6 r):tU h (λj=>c6 (i j)) V c=c6 (i r)\/∃d f e m k,tU h (λj=>c6 (i j)) V c=V d f e m k/\o d f e m k=c6 r:=by
 unfold tU at a⊢;cases n:c5 (c.abv≠9) with
 |true=>rw[n] at a;exact .inl (congrArg (tx i) a)
 |false=>
  rw[n] at a;rw[cond_false] at a⊢;obtain⟨d,q,a⟩:=fK a;rw[q];show(bif !d then _ else _)=_\/_
  cases g:(!d) with
  |true=>rw[g] at a;exact .inl (congrArg (tx i) a)
  |false=>
   rw[g] at a;rw[cond_false] at a⊢;obtain⟨b,w,a⟩:=fK a;rw[w];show(bif b then _ else _)=_\/_
   cases b with
   |true=>exact .inl (congrArg (tx i) a)
   |false=>
    rw[cond_false] at a⊢;obtain⟨y,u,a⟩:=fK a;obtain⟨f,f0,a⟩:=fK a;obtain⟨x,p,a⟩:=fK a;obtain⟨e,s,a⟩:=fK a;obtain⟨z,t,a⟩:=fK a;obtain⟨l,v,a⟩:=fK a;refine .inr ⟨c.kO,c3 c4 f,c3 c4 e,l.1,l.2,?_,a⟩
    rw[u];simp only[ef,f0,p,s,t,v,g,cond_false]
def JA(a:Lp):∀(h c:List (List Int)) (b:List Int),gW a (h++c) b=(gW a h b).bind (gW a c)
 |[],c,b=>rfl
 |g::f,c,b=>by
  show((jQ a g).bind λd=>(bj 8 b [c3 c4 d]).bind λe=>gW a (f++c) e)=((jQ a g).bind λd=>(bj 8 b [c3 c4 d]).bind λe=>gW a f e).bind _
  cases jQ a g with
  |none=>rfl
  |some d=>
   show((bj 8 b [c3 c4 d]).bind λe=>gW a (f++c) e)=((bj 8 b [c3 c4 d]).bind λe=>gW a f e).bind _
   cases bj 8 b [c3 c4 d] with
   |none=>rfl
   |some i=>exact JA a f c i
def aiZ{c:Lp}{a:List (List Int)}{d:List Int}(f:gW c a []=c6 d)(b:Nat):∃e,gW c (a.take b) []=c6 e/\gW c (a.drop b) e=c6 d:=by
 rw[<-k8 b a,JA] at f;exact fK f
def Ue{d:Lp}{b:List (List Int)}{c:Nat}{f h g:List Int}(k:b[c]?=c6 f)(n:gW d (b.take c) []=c6 h)(a:gW d (b.take (c+1)) []=c6 g):((jQ d f).bind λe=>bj 8 h [c3 c4 e])=c6 g:=by
 have m:b.take (c+1)=b.take c++[f]:=by rw[List.take_add_one,k];rfl
 rw[m,JA,n] at a;have a:((jQ d f).bind λe=>(bj 8 h [c3 c4 e]).bind λl=>c6 l)=c6 g:=a;obtain⟨e,i,a⟩:=fK a;obtain⟨o,j,a⟩:=fK a;rw[i];exact j.trans a
def Su:∀(e:List Int) (c:Nat),e.length=c*2->(lj e).length=c/\∀a,a<c->∃f b,(lj e)[a]?=c6 [f,b]/\e[a*2]?=c6 f/\e[a*2+1]?=c6 b
 |[],c,d=>by
  have:c=0:=by simp at d;omega
  subst this;exact⟨rfl,λa h=>absurd h (by omega)⟩
 |[f],c,d=>by simp at d;omega
 |f::b::i,c,d=>by
  obtain⟨g,rfl⟩:∃g,c=g+1:=⟨c -1,by simp at d;omega⟩;obtain⟨m,k⟩:=Su i g (by simp at d;omega);refine⟨by show(lj i).length+1=_;rw[m],λa h=>?_⟩
  cases a with
  |zero=>exact⟨f,b,rfl,rfl,rfl⟩
  |succ a=>
   obtain⟨n,j,l,p,o⟩:=k a (by omega);refine⟨n,j,l,?_,?_⟩
   .rw[show(a+1)*2=a*2+1+1 by omega];exact p
   .rw[show(a+1)*2+1=a*2+1+1+1 by omega];exact o
def W4{i:Lp}{e f d h:Int}{c:List Int}{r:aT×Int}(a:rA i e f d c h=c6 r):h=2/\∃k b v,c.length=k*2/\gW i (lj c) []=c6 b/\lQ i (aT.mk e f d b)=c6 v/\r=bif (!v) then(aT.mk 0 0 0 [],6) else(aT.mk e f d b,0):=by
 unfold rA at a
 by_cases g:h=2
 rotate_left
 .rw[decide_eq_false g] at a;cases a
 rw[decide_eq_true g,cond_true] at a
 by_cases j:c.length%2=0
 rotate_left
 .rw[decide_eq_false j] at a;cases a
 rw[decide_eq_true j,cond_true] at a;obtain⟨b,l,a⟩:=fK a;obtain⟨v,m,a⟩:=fK a;refine⟨g,c.length/2,b,v,by omega,l,m,?_⟩
 cases v
 .have a:c6 (aT.mk 0 0 0 [],(6:Int))=c6 r:=a;injection a with a
  exact a.symm
 .have a:c6 (aT.mk e f d b,(0:Int))=c6 r:=a;injection a with a
  exact a.symm
end Go.X.T
namespace Go.X.T
open Go Go.Aml Go.Bml Go.X Go.RowKit Go.Proofs
def iq:Code->Code | .seq a _=>a |b=>b
def eM:Code->Code | .seq _ b=>b |a=>a
def V3:Code->Code | .block _ (.rangeFunc _ _ _ (.block _ b))=>b |a=>a
def cas:Code->Code | .block _ (.rangeFunc _ _ a _)=>a |b=>b
def tS:Code->List Oper | .region _ a _=>a.toList |_=>[]
noncomputable def tq:Code:=(u0.body).getD .skip
noncomputable def xl:Code:=eM (eM (eM (eM (eM tq))))
noncomputable def DQ:Code:=iq (iq xl)
noncomputable def Dj:Code:=eM (iq xl)
noncomputable def sk:Code:=eM xl
noncomputable def D2:List (Code×List (Nat×Hn)):=[(iq tq,[]),(iq (eM tq),[]),(iq (eM (eM tq)),[]),(iq (eM (eM (eM tq))),[(2,⟨[],[(0,⟨[],[],[(31,.v 4)]⟩)],c7⟩)]),(iq (eM (eM (eM (eM tq)))),[])]
def LH:u0.body=c6 (IX D2 xl):=by kernel_rfl
def iV(a:Lp):List (aq BT):=[C5 a,JX a,Ks a,H7 a]
def sO(c:Nat)(a:fa)(d:List Int)(g h b e:Int)(f:TV BT.D)(i:List (Ob BT.D)):List (Ob BT.D):=[⟨1,1,.box 97 [.int .i64 a.kO,.int .i64 a.abv,.row 5 a.Data]⟩,⟨1,1,.box 101 [.int .i64 0,.int .i64 0,.int .i64 0,.bg]⟩,⟨c,1,.box 101 [.int .i64 g,.int .i64 h,.int .i64 b,f]⟩,⟨0,1,.box 95 [.row 5 d]⟩,⟨0,1,.box 3 [.int .i64 e]⟩]++i
def fO(c:Nat)(a:fa)(e f b:Int)(d:TV BT.D)(g:List (Ob BT.D)):List (Ob BT.D):=[⟨1,1,.box 97 [.int .i64 a.kO,.int .i64 a.abv,.row 5 a.Data]⟩,⟨1,1,.box 101 [.int .i64 0,.int .i64 0,.int .i64 0,.bg]⟩,⟨c,1,.box 101 [.int .i64 e,.int .i64 f,.int .i64 b,d]⟩]++g
noncomputable def PT(b:Lp):Nat->St BT.D->Option (bi BT.D (kq b).az.bX⊕(List (Ob BT.D)×TV BT.D×TV BT.D×TV BT.D)):=λc a=>
 bif ey c 0 then exec b BT dd (iV b) 0 [] DQ 1 (λc a=>bif ey c 0 then c6 (n0 (a.H,lk a.E 49,lk a.E 4,lk a.E 2)) else c7) a
 else bif x3 c 1 then(nh BT dd a 0 [.cell 2 101,.tmp 3] [] λe=>take BT 0 (kq b).az ⟨e,a.H⟩ c6).bind λd=>c6 (o8 d) else c7
def SR(a:Lp)(b:fa):AS a BT dd (iV a) 0 D2 (PT a) (cz BT (kq a).par b)=tU a (λd=>c6 (o8 d)) (λg h c e f=>c6 (n0 (sO 2 b e g h c f .bg [],.fn 139 [] [.ptr 3 1 0 0,.ptr 4 1 0 0],.ptr 2 1 0 0,.ptr 1 1 0 0))) b:=by kernel_rfl
noncomputable def lv:List Oper:=tS (V3 Dj)
noncomputable def sv:List Oper:=tS (cas Dj)
def Yw:Dj= .block 0 (.rangeFunc (.tmp 49) #[50] (.region 9 sv.toArray false) (.block 1 (.region 10 lv.toArray true))):=by kernel_rfl
def sD(a:List Int):En BT.D:=[(50,.row 5 a),(4,.ptr 2 1 0 0)]
def ru(a:List Int):En BT.D:=[(5,.row 5 a),(50,.row 5 a),(4,.ptr 2 1 0 0)]
def rdA(c:fa)(f:List Int)(d e a:Int)(b:TV BT.D):ops BT dd [] [] sv (λ_ g=>c6 g) 0 sv [] ⟨sD f,fO 2 c d e a b []⟩=c6 ⟨ru f,fO 2 c d e a b []⟩:=by kernel_rfl
def aer(d:fa)(g:List Int)(e f a:Int)(c:TV BT.D)(b:List Int):ops BT dd [] [] sv (λ_ h=>c6 h) 0 sv [] ⟨sD g,fO 2 d e f a c [⟨1,1,.aap 3 b⟩]⟩=c6 ⟨ru g,fO 2 d e f a c [⟨1,1,.aap 3 b⟩]⟩:=by kernel_rfl
def ajg(b:Lp)(d:fa)(g:List Int)(e f a:Int):ops BT dd (iV b) [] lv (λi h=>bif m7 0 lv then bif n4 lv [] 0 (nf i []) then c6 h.H else c7 else c7) 0 lv [] ⟨ru g,fO 2 d e f a .bg []⟩=(jQ b g).bind λc=>(bj 8 [] [c3 c4 c]).bind λj=>c6 (fO 3 d e f a (.fl 4 1) [⟨1,1,.aap 3 [c3 c4 c]⟩,⟨1,1,.aap 3 j⟩]):=by kernel_rfl
def ahg(c:Lp)(e:fa)(h:List Int)(f g a:Int)(b:List Int):ops BT dd (iV c) [] lv (λj i=>bif m7 0 lv then bif n4 lv [] 0 (nf j []) then c6 i.H else c7 else c7) 0 lv [] ⟨ru h,fO 2 e f g a (.fl 3 1) [⟨1,1,.aap 3 b⟩]⟩=(jQ c h).bind λd=>(bj 8 b [c3 c4 d]).bind λk=>c6 (fO 3 e f g a (.fl 3 2) [⟨2,2,.aap 3 k⟩,⟨1,1,.aap 3 [c3 c4 d]⟩]):=by kernel_rfl
def NX(q:Nat):Nat->Option Nat
 |0=>c6 0
 |1=>c6 1
 |2=>c6 2
 |3=>c6 q
 |_=>c7
def Fj{q i r:Nat}(a:NX q i=c6 r):(i<3/\r=i)\/(i=3/\r=q):=by
 match i,a with
 |0,a=>injection a with a;exact .inl ⟨by omega,a.symm⟩
 |1,a=>injection a with a;exact .inl ⟨by omega,a.symm⟩
 |2,a=>injection a with a;exact .inl ⟨by omega,a.symm⟩
 |3,a=>injection a with a;exact .inr ⟨rfl,a.symm⟩
def wQ{g:Gh}{l:World}{h v:List aO}{j:Nat->Option Nat}{u:Nat->Prop}(y:bF g h l){i b:Nat}{a:aO}(q:h[i]?=c6 a)(w:∀c,c∈a.es->cE 0 c)(m:j b=c6 i):0<a.sz/\(∀(i:Nat) (c:PV),a.es[i]?=c6 c->c.cells.length=a.sz)/\(j b=c7->a.es=[])/\
 ∀r,j b=c6 r->∃d,h[r]?=c6 d/\a.ty=d.ty/\a.sz=d.sz/\a.es.length=d.es.length/\∀i b e,abk a.es i b=c6 e->∃p,abk d.es i b=c6 p/\∀k,VR g h l p k->VR (dj g j u) v l e k:=by
 have o:=y.obj i a q;refine⟨o.pos,o.width,(λs=>by rw[m] at s;cases s),λr f=>?_⟩
 rw[m] at f;injection f with f
 subst f;refine⟨a,q,rfl,rfl,rfl,λi b e n=>⟨e,n,λk x=>?_⟩⟩
 exact .aW ((x.dH (nR w n)).mono (λ_ t=>.inl t) λ_ _=>rfl)
def Yy{g:Gh}{p:World}{A0 A1:aO}{H:List aO}{c0 c1 c2:PV}{t tr sz q v:Nat}{es:List PV}
 (h0:H[0]?=c6 A0) (o:H[1]?=c6 A1) (x:H[2]?=c6 ⟨t,4,[.agg [c0,c1,c2,.fl q v]],1⟩) (u:H[q]?=c6 ⟨tr,sz,es,v⟩) (N:3<=q)
 (f0:∀j,j∈A0.es->cE 0 j) (I:∀j,j∈A1.es->cE 0 j) (G:∀j,j∈es->cE 0 j) (fc:cE 0 c0/\cE 0 c1/\cE 0 c2) (s:bF g H p):
 ∃A,bF A [A0,A1,⟨t,4,[.agg [c0,c1,c2,.fl 3 1]],1⟩,⟨tr,sz,es,1⟩] p/\Bml.GStep 3 g H p A [A0,A1,⟨t,4,[.agg [c0,c1,c2,.fl 3 1]],1⟩,⟨tr,sz,es,1⟩] p:=by
 refine⟨dj g (NX q) (λ_=>False),bF.re s (λ_ f=>f.elim) (λi O r f J=>?_) (λi r f=>?_) (λi n a=>?_),GStep.re λi E L c=>?_⟩
 .rcases Fj f with⟨w,b⟩ |⟨w,b⟩ <;> rcases Fj J with⟨K,F⟩ |⟨K,F⟩ <;> omega
 .show i<4
  rcases Fj f with⟨w,b⟩ |⟨w,b⟩ <;> omega
 .match i,a with
  |0,a=>have a:c6 A0=c6 n:=a;injection a with a;subst a;exact wQ s h0 f0 rfl
  |1,a=>have a:c6 A1=c6 n:=a;injection a with a;subst a;exact wQ s o I rfl
  |3,a=>
   have a:c6 (⟨tr,sz,es,1⟩:aO)=c6 n:=a;injection a with a
   subst a;have y:=s.obj q _ u;refine⟨y.pos,y.width,(λf=>by cases f),λr h=>?_⟩
   have h:c6 q=c6 r:=h;injection h with h
   subst h;refine⟨_,u,rfl,rfl,rfl,λi z B d=>⟨B,d,λm k=>?_⟩⟩
   exact .aW ((k.dH (nR G d)).mono (λ_ l=>.inl l) λ_ _=>rfl)
  |2,a=>
   have a:c6 (⟨t,4,[.agg [c0,c1,c2,.fl 3 1]],1⟩:aO)=c6 n:=a;injection a with a
   subst a;refine⟨by show 0<4;omega,λi j e=>?_,(λf=>by cases f),λr h=>?_⟩
   .match i,e with
    |0,e=>injection e with e;subst e;rfl
   .have h:c6 2=c6 r:=h;injection h with h
    subst h;refine⟨_,x,rfl,rfl,rfl,λi z B d=>?_⟩
    obtain⟨j,e,C⟩:=gw d
    match i,e with
    |0,e=>
     injection e with e
     subst e
     match z,C with
     |0,_=>injection d with d;subst d;exact⟨c0,rfl,λm k=>.aW ((k.dH fc.1).mono (λ_ l=>.inl l) λ_ _=>rfl)⟩
     |1,_=>injection d with d;subst d;exact⟨c1,rfl,λm k=>.aW ((k.dH fc.2.1).mono (λ_ l=>.inl l) λ_ _=>rfl)⟩
     |2,_=>injection d with d;subst d;exact⟨c2,rfl,λm k=>.aW ((k.dH fc.2.2).mono (λ_ l=>.inl l) λ_ _=>rfl)⟩
     |3,_=>
      injection d with d
      subst d;refine⟨.fl q v,rfl,λm k=>?_⟩
      cases k with
      |aW f=>cases f
      |fl _ _ E _ c M o D=>
       rw[u] at c;injection c with c
       subst c;refine .fl 3 1 ⟨tr,sz,es,1⟩ m rfl (dv _) o λ_=>?_
       have:=D rfl;unfold SL at this⊢;exact this
 .match i,L with
  |0,_=>rw[h0] at c;injection c with c;subst c;exact⟨A0,rfl,dv _,λ_=>⟨rfl,rfl,rfl⟩⟩
  |1,_=>rw[o] at c;injection c with c;subst c;exact⟨A1,rfl,dv _,λ_=>⟨rfl,rfl,rfl⟩⟩
  |2,_=>rw[x] at c;injection c with c;subst c;exact⟨_,rfl,dv _,λ_=>⟨rfl,rfl,rfl⟩⟩
def EO:Nat->Option Nat
 |0=>c6 0
 |1=>c6 1
 |2=>c6 2
 |_=>c7
def B9{i r:Nat}(a:EO i=c6 r):i<3/\r=i:=by
 match i,a with
 |0,a=>injection a with a;exact⟨by omega,a.symm⟩
 |1,a=>injection a with a;exact⟨by omega,a.symm⟩
 |2,a=>injection a with a;exact⟨by omega,a.symm⟩
def ah7{g:Gh}{e:World}{A0 A1 A2 k l:aO}(f0:∀c,c∈A0.es->cE 0 c)(p:∀c,c∈A1.es->cE 0 c)(o:∀c,c∈A2.es->cE 0 c)(d:bF g [A0,A1,A2,k,l] e):
 bF (dj g EO λr=>r=3\/r=4) [A0,A1,A2] e/\Bml.GStep 3 g [A0,A1,A2,k,l] e (dj g EO λr=>r=3\/r=4) [A0,A1,A2] e:=by
 refine⟨bF.re d (λr f q n=>?_) (λi t r f s=>?_) (λi r f=>?_) (λi j a=>?_),GStep.re λi h m b=>?_⟩
 .have:=B9 n;omega
 .have:=B9 f;have:=B9 s;omega
 .exact(B9 f).1
 .match i,a with
  |0,a=>have a:c6 A0=c6 j:=a;injection a with a;subst a;exact wQ d rfl f0 rfl
  |1,a=>have a:c6 A1=c6 j:=a;injection a with a;subst a;exact wQ d rfl p rfl
  |2,a=>have a:c6 A2=c6 j:=a;injection a with a;subst a;exact wQ d rfl o rfl
 .match i,m with
  |0,_=>have b:c6 A0=c6 h:=b;injection b with b;subst b;exact⟨A0,rfl,dv _,λ_=>⟨rfl,rfl,rfl⟩⟩
  |1,_=>have b:c6 A1=c6 h:=b;injection b with b;subst b;exact⟨A1,rfl,dv _,λ_=>⟨rfl,rfl,rfl⟩⟩
  |2,_=>have b:c6 A2=c6 h:=b;injection b with b;subst b;exact⟨A2,rfl,dv _,λ_=>⟨rfl,rfl,rfl⟩⟩
def aew(j:Nat)(v:2<=j)(b g f h i k cap d:Nat)(l:Option Addr)(u:d*2<=140737488355328)(q:d*2<=cap)(r:0<d->l=c6 ⟨i,k,c7⟩):
 vy j dd 139 #[.pointer (c6 ⟨b,g,c7⟩),.pointer (c6 ⟨f,h,c7⟩)] ((List.range d).map λc=>.slice (c6 ⟨i,k+c*2,c7⟩) 2 2) (λa=>a.cell? ⟨b,g,c7⟩=c6 (.slice l (d*2) cap)/\a.cell? ⟨f,h,c7⟩=c6 (.int .i64 2)):=by
 intro p t a n o w h0;refine(ai5 j v p b g f h i k cap d l u t (λc a e=>⟨(n c a e).1,(n c a e).2,q,r⟩) o (λc a s e=>w c _ a ?_ e) a h0).mono λx y m=>⟨m.1,by rw[hq,List.length_range];exact m.2⟩
 rw[hS,oi s]
 rfl
def amL{o:Nat->Prop}{m:World}{g:List Int}{e l f cap:Nat}{h j:Int}(s:g[e*2]?=c6 h)(D:g[e*2+1]?=c6 j){x:Nat}{q:Option Addr}(p:VI o m (.vs 1 (g.map (PV.int .u8))) (.slice q x cap))(B:q=c6 ⟨l,f,c7⟩):VI o m (.vs 1 ([h,j].map (PV.int .u8))) (.slice (c6 ⟨l,f+e*2,c7⟩) 2 2):=by
 generalize w:g.map (PV.int .u8)=E at p;generalize A:s3 q x cap=z at p;cases p with
 |eX _ K cap=>
  have:g=[]:=List.map_eq_nil_iff.1 w;subst this;simp at s
 |vs _ _ H J cap u2 G F I u y t=>
  injection A with hz1 hz2 hz3
  rw[B] at hz1;injection hz1 with hz1
  injection hz1 with hz4 hz5
  subst hz4;subst hz5;have v:∀(i:Nat) (a:Int),g[i]?=c6 a->abk E i 0=c6 (.int .u8 a):=λi a c=>by
   rw[<-w];unfold abk;rw[hS,c]
   rfl
  have C:∀(i d:Nat) (a:PV),abk ([h,j].map (PV.int .u8)) i d=c6 a->d=0/\((i=0/\a= .int .u8 h)\/(i=1/\a= .int .u8 j)):=λi d a c=>by
   obtain⟨k,b,r⟩:=gw c
   match i,b with
   |0,b=>
    injection b with b
    subst b
    match d,r with
    |0,_=>injection c with c;exact⟨rfl,.inl ⟨rfl,c.symm⟩⟩
   |1,b=>
    injection b with b
    subst b
    match d,r with
    |0,_=>injection c with c;exact⟨rfl,.inr ⟨rfl,c.symm⟩⟩
  have n:∀(i d:Nat) (a:PV),abk ([h,j].map (PV.int .u8)) i d=c6 a->m.cell? ⟨l,f+e*2+(i*1+d),c7⟩=c6 (u2 (e*2+i) 0)/\(u2 (e*2+i) 0).oneCell'=true/\VI o m a (u2 (e*2+i) 0):=λi d a c=>by
   obtain⟨rfl,⟨rfl,rfl⟩ |⟨rfl,rfl⟩⟩:=C i d a c
   .have:=v _ _ s;refine⟨?_,y _ _ _ this,t _ _ _ this⟩
    have k:=u _ _ _ this;rw[show f+e*2+(0*1+0)=f+(e*2*1+0) by omega];exact k
   .have:=v _ _ D;refine⟨?_,y _ _ _ this,t _ _ _ this⟩
    have k:=u _ _ _ this;rw[show f+e*2+(1*1+0)=f+((e*2+1)*1+0) by omega];exact k
  refine .vs 1 ([h,j].map (PV.int .u8)) l (f+e*2) 2 (λi _=>u2 (e*2+i) 0) (dv _) F (λi k b=>?_) (λi d a c=>(n i d a c).1) (λi d a c=>(n i d a c).2.1) (λi d a c=>(n i d a c).2.2)
  match i,b with
  |0,b=>injection b with b;subst b;rfl
  |1,b=>injection b with b;subst b;rfl
def ccd:Code->Code | .cond _ a _=>a |b=>b
noncomputable def Yr:Code:=iq (iq sk)
noncomputable def r12:Code:=iq (ccd (eM (iq sk)))
noncomputable def r13:Code:=iq (eM sk)
noncomputable def jA:List Oper:=tS Yr
noncomputable def kE:List Oper:=tS r12
noncomputable def pj:List Oper:=tS r13
def ahb:xl= .seq (.seq DQ Dj) sk:=by kernel_rfl
def alU:sk= .seq (.seq (.region 11 jA.toArray false) (.cond (.tmp 61) (.seq (.region 12 kE.toArray false) .ret) .skip)) (.seq (.region 13 pj.toArray false) .ret):=by kernel_rfl
def tE:En BT.D:=[(4,.ptr 2 1 0 0),(2,.ptr 1 1 0 0)]
def iT(b:fa)(c d a:Int)(e:List Int):Nat->List (Ob BT.D)
 |0=>fO 2 b c d a .bg []
 |_+1=>fO 2 b c d a (.fl 3 1) [⟨1,1,.aap 3 e⟩]
def aaX(e:Lp)(f:fa)(c d b:Int):ops BT dd (iV e) [] jA (λ_ a=>c6 (a.H,lk a.E 61,lk a.E 4,lk a.E 2)) 0 jA [] ⟨tE,fO 2 f c d b .bg []⟩=(lQ e (aT.mk c d b [])).bind λv=>c6 (fO 2 f c d b .bg [],.bool (!v),.ptr 2 1 0 0,.ptr 1 1 0 0):=by kernel_rfl
def YK(f:Lp)(g:fa)(e d b:Int)(c:List Int):ops BT dd (iV f) [] jA (λ_ a=>c6 (a.H,lk a.E 61,lk a.E 4,lk a.E 2)) 0 jA [] ⟨tE,fO 2 g e d b (.fl 3 1) [⟨1,1,.aap 3 c⟩]⟩=(lQ f (aT.mk e d b c)).bind λv=>c6 (fO 2 g e d b (.fl 3 1) [⟨1,1,.aap 3 c⟩],.bool (!v),.ptr 2 1 0 0,.ptr 1 1 0 0):=by kernel_rfl
noncomputable def fin(a:Lp)(b:St BT.D):Option (bi BT.D (kq a).az.bX):=nh BT dd b 0 [.cell 2 101,.tmp 3] [] λc=>take BT 0 (kq a).az ⟨c,b.H⟩ c6
def aiP(a:Lp)(c:fa)(e f b:Int):ops BT dd (iV a) [] kE (λ_ d=>fin a d) 0 kE [] ⟨tE,fO 2 c e f b .bg []⟩=c6 (aT.mk 0 0 0 [],(6:Int)):=by kernel_rfl
def agF(a:Lp)(c:fa)(g f b:Int)(e:List Int):ops BT dd (iV a) [] kE (λ_ d=>fin a d) 0 kE [] ⟨tE,fO 2 c g f b (.fl 3 1) [⟨1,1,.aap 3 e⟩]⟩=c6 (aT.mk 0 0 0 [],(6:Int)):=by kernel_rfl
def alr(b:Lp)(e:fa)(c d a:Int):ops BT dd (iV b) [] pj (λ_ f=>fin b f) 0 pj [] ⟨tE,fO 2 e c d a .bg []⟩=c6 (aT.mk c d a [],(0:Int)):=by kernel_rfl
def ajs(b:Lp)(f:fa)(e d a:Int)(c:List Int):ops BT dd (iV b) [] pj (λ_ g=>fin b g) 0 pj [] ⟨tE,fO 2 f e d a (.fl 3 1) [⟨1,1,.aap 3 c⟩]⟩=c6 (aT.mk e d a c,(0:Int)):=by kernel_rfl
def Ou{q:Nat}(d:q≠4)(b:q≠2):(lk tE q:TV BT.D)= .any:=by
 have c:ey 4 q=false:=by cases a:ey 4 q with |false=>rfl |true=>exact absurd (beq_eq a).symm d
 have e:ey 2 q=false:=by cases a:ey 2 q with |false=>rfl |true=>exact absurd (beq_eq a).symm b
 simp only[tE,lk,c,e,cond_false]
def asa(a:fa):∀b,b∈(aY BT ⟨1,1,.box 97 [.int .i64 a.kO,.int .i64 a.abv,.row 5 a.Data]⟩).es->cE 0 b:=λb c=>by
 have c:b∈[PV.agg [.int .i64 a.kO,.int .i64 a.abv,.vs (BT.sz 5) (o4 (BT.ty 5).enc a.Data)]]:=c;rw[eH] at c;subst c;refine .agg _ λe d=>?_
 simp only[hI,j4,or_false] at d;rcases d with rfl |rfl |rfl
 .exact .int _ _
 .exact .int _ _
 .exact .vs _ _
def Qw:∀b,b∈(aY BT ⟨1,1,.box 101 [.int .i64 0,.int .i64 0,.int .i64 0,.bg]⟩).es->cE 0 b:=λb a=>by
 have a:b∈[PV.agg [.int .i64 0,.int .i64 0,.int .i64 0,.bg]]:=a;rw[eH] at a;subst a;refine .agg _ λd c=>?_
 simp only[hI,j4,or_false] at c;rcases c with rfl |rfl |rfl |rfl
 .exact .int _ _
 .exact .int _ _
 .exact .int _ _
 .exact .bg
def amN(e f c:Int):∀a,a∈(aY BT ⟨2,1,.box 101 [.int .i64 e,.int .i64 f,.int .i64 c,.bg]⟩).es->cE 0 a:=λa b=>by
 have b:a∈[PV.agg [.int .i64 e,.int .i64 f,.int .i64 c,.bg]]:=b;rw[eH] at b;subst b;refine .agg _ λg d=>?_
 simp only[hI,j4,or_false] at d;rcases d with rfl |rfl |rfl |rfl
 .exact .int _ _
 .exact .int _ _
 .exact .int _ _
 .exact .bg
def akj{g:Gh}{h:World}{a:fa}{d c b:Int}{e:List Int}{f:List (Ob BT.D)}{q v m p:Nat}{k:List (Ob BT.D)}(u:f=fO m a d c b (.fl q v) k)(r:nth f q=c6 ⟨p,v,.aap 3 e⟩)(n:3<=q)(w:bF g (av BT f) h)(j:Nat):
 ∃l,bF l (av BT (iT a d c b e (j+1))) h/\Bml.GStep 3 g (av BT f) h l (av BT (iT a d c b e (j+1))) h:=by
 subst u;have o:∀i,i∈e.map (BT.ty 3).enc->cE 0 i:=λi s=>by
  obtain⟨z,_,rfl⟩:=j1.1 s;exact dM.lt 3 z
 exact Yy (H:=av BT (fO m a d c b (.fl q v) k)) (A0:=aY BT ⟨1,1,.box 97 [.int .i64 a.kO,.int .i64 a.abv,.row 5 a.Data]⟩) (A1:=aY BT ⟨1,1,.box 101 [.int .i64 0,.int .i64 0,.int .i64 0,.bg]⟩) (t:=101) (c0:=.int .i64 d) (c1:=.int .i64 c) (c2:=.int .i64 b) (tr:=3) (sz:=BT.sz 3) (es:=e.map (BT.ty 3).enc) rfl rfl rfl (df r) n (asa a) Qw o ⟨.int _ _,.int _ _,.int _ _⟩ w
def GS{g:Gh}{i:List aO}{f:World}(n:bF g i f){r t:Nat}{c:PV}(o:i[r]?=c6 ⟨t,1,[.agg [c]],1⟩)(l:cE 0 c):∃b e a,g.β r=c6 (b,e)/\f.cell? ⟨b,0,c7⟩=c6 a/\VI g.F f c a:=by
 have j:=n.obj r _ o;have d:=j.mem;cases h:g.β r with
 |none=>rw[h] at d;cases d
 |some p=>
  obtain⟨b,e⟩:=p;rw[h] at d;obtain⟨_,cells,m,_,_,_,s⟩:=d;obtain⟨a,q,_,k⟩:=s 0 0 c rfl;refine⟨b,e,a,rfl,?_,k.dH l⟩
  rw[oe m];exact q
def JR{b:Program}{d:Sem Value}{c:World}{f:Deferred}{e:World}:(do let g<-d;pure (Next.value g):Sem Next).run b c≠ .ok (.defer f) e:=by
 simp only[eo];cases j:d.run b c with
 |ok v h=>intro a;simp[k6] at a
 |halt i h=>intro a;simp[k6] at a
def abg{b:Program}{d:Sem Unit}{c:World}{f:Deferred}{e:World}:(do d;pure Next.skip:Sem Next).run b c≠ .ok (.defer f) e:=by
 simp only[eo];cases h:d.run b c with
 |ok v g=>intro a;simp[k6] at a
 |halt i g=>intro a;simp[k6] at a
def JH(a:Oper):Bool:=match a.op with | .move _ | .assign _ | .load _ _ | .store _ _ _ | .unOp _ _ _ | .build _ _=>true | .call b=>(match b.callee with | .value (.func 78)=>true |_=>false) |_=>false
def ajK{e:Oper}(c:JH e=true):pK dd e:=by
 intro d o k j a;obtain⟨l,i,q,p,m,gd⟩:=e;cases i with
 |move f=>cases a
 |assign f=>cases a
 |load h d=>exact JR a
 |store h d f=>exact abg a
 |unOp d b g=>exact JR a
 |build d b=>exact JR a
 |call g=>
  obtain⟨callee,args,n⟩:=g;unfold JH at c;dsimp only at c
  split at c
  .simp only[execOp,resolve,Deferred.ofValue,q3,eo,h6,ec,invoke] at a;rw[pA z8 rfl rfl] at a;cases a
  .cases c
 |_=>cases c
def IT:∀b:List Oper,b.all JH=true->∀a,a∈b->pK dd a:=λb d a c=>ajK (List.all_eq_true.1 d a c)
def agI:∀a,a∈jA->pK dd a:=IT _ rfl
def alv:∀a,a∈kE->pK dd a:=IT _ rfl
def aqI:∀a,a∈pj->pK dd a:=IT _ rfl
def aoq{f:Lp}(F:∀P,P∈iV f->FT P){x:fa}{c b a:Int}{e:List Int}{v:Bool}{r:aT×Int}{N:Nat}(t:lQ f (aT.mk c b a e)=c6 v)(l:r=bif (!v) then(aT.mk 0 0 0 [],6) else(aT.mk c b a e,0))(h0:N=0->e=[])
 {g:Gh} {ac:Act} {w:World} {d:List Deferred} {I:Exit->Act->World->Prop} (Y:Rel g 64 (aU BT tE) (av BT (iT x c b a e N)) ac w)
 (R:∀p J G L,fin f p=c6 r->Rel L 64 (aU BT p.E) (av BT p.H) J G->Bml.GStep 3 g (av BT (iT x c b a e N)) w L (av BT p.H) G->I .ret (ji d J) G):sk.wp dd I (ji d ac) w:=by
 rw[alU];have Z:ops BT dd (iV f) [] jA (λ_ j=>c6 (j.H,lk j.E 61,lk j.E 4,lk j.E 2)) 0 jA [] ⟨tE,iT x c b a e N⟩=c6 (iT x c b a e N,.bool (!v),.ptr 2 1 0 0,.ptr 1 1 0 0):=by
  cases N with
  |zero=>
   rw[h0 rfl] at t;refine(aaX f x c b a).trans ?_
   rw[t]
   rfl
  |succ N=>
   refine(YK f x c b a e).trans ?_
   rw[t]
   rfl
 have af:ops BT dd (iV f) [] kE (λ_ j=>fin f j) 0 kE [] ⟨tE,iT x c b a e N⟩=c6 (aT.mk 0 0 0 [],(6:Int)):=by
  cases N with
  |zero=>exact aiP f x c b a
  |succ N=>exact agF f x c b a e
 have ab:ops BT dd (iV f) [] pj (λ_ j=>fin f j) 0 pj [] ⟨tE,iT x c b a e N⟩=c6 (aT.mk c b a e,(0:Int)):=by
  cases N with
  |zero=>rw[h0 rfl];exact alr f x c b a
  |succ N=>exact ajs f x c b a e
 have aa:∀i,i∈jA->fL 64 i.dst=true:=mL _ rfl;have U:∀i,i∈kE->fL 64 i.dst=true:=mL _ rfl;have T:∀i,i∈pj->fL 64 i.dst=true:=mL _ rfl;refine wp_seq (wp_seq (Hv (m:=3) dM F Y Z aa agI λs o M X k n C=>?_))
 injection k with k
 have Q:s.H=iT x c b a e N:=congrArg (·.1) k;have ad:lk s.E 61= .bool (!v):=congrArg (·.2.1) k;have ag:lk s.E 4= .ptr 2 1 0 0:=congrArg (·.2.2.1) k;have V:lk s.E 2= .ptr 1 1 0 0:=congrArg (·.2.2.2) k;have S:Rel X 64 (aU BT tE) (av BT (iT x c b a e N)) o M:=by
  rw[Q] at n;refine⟨n.m,n.e.defers,n.e.size,λq=>?_⟩
  rw[ep];have h:=n.e.at_ q;rw[ep] at h
  by_cases O:q=4
  .subst O;rw[ag] at h;exact h
  by_cases K:q=2
  .subst K;rw[V] at h;exact h
  rw[Ou O K];exact .aW (.any _)
 rw[Q] at C;have W:(ji d o).eval (.tmp 61)= .bool (!v):=by
  have h:=n.e.at_ 61;rw[ep,ad] at h;show o.tmps.getD 61 undef=_
  generalize o.tmps.getD 61 undef=z at h;cases h with |aW ae=>cases ae;rfl
 refine wp_cond W ?_
 cases v with
 |false=>
  have l:r=(aT.mk 0 0 0 [],(6:Int)):=l;show((Code.seq (.region 12 kE.toArray false) .ret).wp dd _ (ji d o) M)
  refine wp_seq (Hv (m:=3) dM F S af U alv λH u y E B D A=>?_)
  exact wp_ret (R H u y E (by rw[l];exact B) D (C.trans A))
 |true=>
  have l:r=(aT.mk c b a e,(0:Int)):=l;refine wp_skip ?_
  refine wp_seq (Hv (m:=3) dM F S ab T aqI λH u y E B D A=>?_)
  exact wp_ret (R H u y E (by rw[l];exact B) D (C.trans A))
def Ky{h:Lp}:∀{d:List (List Int)} {c b:List Int},gW h d c=c6 b->b.length=c.length+d.length/\(d≠[]->b.length*8<=140737488355328)
 |[],c,b,a=>by
  have a:c6 c=c6 b:=a;injection a with a
  subst a;exact⟨rfl,λa=>absurd rfl a⟩
 |l::d,c,b,a=>by
  have a:((jQ h l).bind λf=>(bj 8 c [c3 c4 f]).bind λb=>gW h d b)=c6 b:=a;obtain⟨f,_,a⟩:=fK a;obtain⟨m,e,a⟩:=fK a;obtain⟨g,k⟩:=Ky a;unfold bj at e
  split at e
  .rename_i i;injection e with e
   subst e;have j:(c++[c3 c4 f]).length=c.length+1:=by simp
   rw[j] at g;have i:(c.length+1)*8<=140737488355328:=i;refine⟨by rw[g,m4];omega,λ_=>?_⟩
   cases d with
   |nil=>rw[g];exact i
   |cons _ _=>exact k (by simp)
  .cases e
def Yb(l:Lp)(cg:FT (C5 l))(b7:FT (JX l))(b0:FT (Ks l))(ca:FT (H7 l)):FT (kq l):=by
 have aE:∀c,c∈iV l->FT c:=λc P=>by
  simp only[iV,hI,j4,or_false] at P;rcases P with rfl |rfl |rfl |rfl
  .exact cg
  .exact b7
  .exact b0
  .exact ca
 refine⟨pA A3 LH rfl,λx r aV g w args bC cv a2=>?_⟩
 have cD:args.length=1:=bC;have aV:tU l c6 (rA l) x=c6 r:=aV;have bA:=Ot (nt:=64) cv (by omega) a2;refine(callsIn_wide (n:=10)).1 (callsIn_of_wp_marks A3 LH trivial ?_ rfl)
 obtain⟨z,b4,bi⟩:∃z,AS l BT dd (iV l) 0 D2 (PT l) (cz BT (kq l).par x)=c6 z/\(z=o8 r\/∃a e h d k,z=n0 (sO 2 x d a e h k .bg [],.fn 139 [] [.ptr 3 1 0 0,.ptr 4 1 0 0],.ptr 2 1 0 0,.ptr 1 1 0 0)/\rA l a e h d k=c6 r):=by
  rcases aoS (i:=o8) (V:=λa e h d k=>c6 (n0 (sO 2 x d a e h k .bg [],TV.fn 139 [] [.ptr 3 1 0 0,.ptr 4 1 0 0],TV.ptr 2 1 0 0,TV.ptr 1 1 0 0))) aV with o |⟨a,e,h,d,k,C,F⟩
  .exact⟨_,(SR l x).trans o,.inl rfl⟩
  .exact⟨_,(SR l x).trans C,.inr ⟨a,e,h,d,k,rfl,F⟩⟩
 have bk:∀(M:St BT.D) (aa:Gh) (Q:Act) (L:World),fin l M=c6 r->Rel aa 64 (aU BT M.E) (av BT M.H) Q L->Bml.GStep 0 g (av BT (cz BT (kq l).par x).H) w aa (av BT M.H) L->
  ∃v,(results u0 Q.tmps).run dd L= .ok v L/\∃bs W,Ending.returned v= .returned bs/\bF W (av BT (cz BT (kq l).az r).H) L/\Bml.GStep 0 g (av BT (cz BT (kq l).par x).H) w W (av BT (cz BT (kq l).az r).H) L/\VR W (av BT (cz BT (kq l).az r).H) L (pv BT (kR (cz BT (kq l).az r).E)) bs:=λM aa Q L C F am=>by
  obtain⟨v,ae,S,B,aS,aM⟩:=Xn (c:=kq l) (fn:=u0) (rs:=[.cell 2 101,.tmp 3]) dM rfl rfl C F;exact⟨v,S,v,ae,rfl,B,am.trans aS,aM⟩
 refine Pu mixed dM aE D2 _ b4 rfl (ei _) g _ w bA (λa6 W Z w' J bJ bI aF=>?_) (λI Z w' cf ao=>?_)
 rotate_left
 .
  cases I with
  |ret=>
   obtain⟨cC,H1,aa,⟨M,az,rfl,rfl⟩,be,aX⟩:=ao;have az:(fin l M).bind (λax=>c6 (o8 ax))=c6 z:=az;obtain⟨ax,bb,ag⟩:=fK az;injection ag with ag
   have bB:ax=r:=by
    rcases bi with o |⟨a,e,h,d,k,o,_⟩
    .rw[o] at ag;injection ag
    .rw[o] at ag;cases ag
   rw[bB] at bb;show LeavesInM _ _ _ _ _ _ Z.defers .returning w'
   rw[be.e.defers];exact bk M aa Z w' bb be aX
  |normal=>exact absurd rfl cf
  |exit cH=>obtain⟨_,_,_,⟨_,az,_⟩,_⟩:=ao;cases az
  |goto _=>obtain⟨_,_,_,J,_⟩:=ao;exact J.elim
  |panic _=>exact ao.elim
  |outgrown=>exact ao.elim
 .have J:exec l BT dd (iV l) 0 [] DQ 1 (λI R=>bif ey I 0 then c6 (n0 (R.H,lk R.E 49,lk R.E 4,lk R.E 2)) else c7) a6=c6 z:=J;rw[ahb];refine wpIn_seq (wpIn_seq (wpIn_wide.2 (gO mixed dM aE DQ 1 _ _ _ J (by kernel_rfl) bJ W Z w' bI _ λI G u aj=>?_)))
  cases I with
  |normal=>
   obtain⟨_,_,ae,⟨T,_,E,rfl,rfl⟩,ai,bh⟩:=aj;have E:c6 (n0 (T.H,lk T.E 49,lk T.E 4,lk T.E 2))=c6 z:=E;injection E with E
   obtain⟨a,e,h,d,k,ci,ce⟩:∃a e h d k,z=n0 (sO 2 x d a e h k .bg [],.fn 139 [] [.ptr 3 1 0 0,.ptr 4 1 0 0],.ptr 2 1 0 0,.ptr 1 1 0 0)/\rA l a e h d k=c6 r:=by
    rcases bi with o |o
    .rw[o] at E;cases E
    .exact o
   rw[ci] at E;injection E with E
   have aL:T.H=sO 2 x d a e h k .bg []:=congrArg (·.1) E;have bN:lk T.E 49= .fn 139 [] [.ptr 3 1 0 0,.ptr 4 1 0 0]:=congrArg (·.2.1) E;have ar:lk T.E 4= .ptr 2 1 0 0:=congrArg (·.2.2.1) E;have F:lk T.E 2= .ptr 1 1 0 0:=congrArg (·.2.2.2) E;obtain⟨bE,N,bx,v,zP,aG,cd,cl⟩:=W4 ce;subst bE;obtain⟨a7,b2⟩:=Su d N zP;have bt:=ai.e.defers;have aQ:=ai.e.size;have X:=ai.m;rw[aL] at X bh;obtain⟨aK,C3,u3,bw,co,aA⟩:=GS (r:=3) (t:=95) (c:=.vs (BT.sz 5) (d.map (BT.ty 5).enc)) X rfl (.vs _ _);obtain⟨al,C4,u4,bv,bz,ct⟩:=GS (r:=4) (t:=3) (c:=.int .i64 2) X rfl (.int _ _);cases ct
   have aA:VI ae.F u (.vs 1 (d.map (PV.int .u8))) u3:=aA;obtain⟨U,aq,aD,cap,rfl,bT,a9⟩:∃U aq aD cap,u3= .slice U (N*2) cap/\N*2<=cap/\(0<N->U=c6 ⟨aq,aD,c7⟩):=by
    have af:(d.map (PV.int .u8)).length=N*2:=by rw[hq];exact zP
    generalize d.map (PV.int .u8)=cx at aA af;cases aA with
    |eX _ U cap=>exact⟨U,0,0,cap,by rw[<-af];rfl,by rw[<-af];exact ei _,λo=>by simp at af;omega⟩
    |vs _ _ b5 cb cap u2 aj cE aQ cI cF cB=>exact⟨_,b5,cb,cap,by rw[<-af],by rw[<-af];exact aj,λ_=>rfl⟩
   obtain⟨ab,Y⟩:=ah7 (A0:=aY BT ⟨1,1,.box 97 [.int .i64 x.kO,.int .i64 x.abv,.row 5 x.Data]⟩) (A1:=aY BT ⟨1,1,.box 101 [.int .i64 0,.int .i64 0,.int .i64 0,.bg]⟩) (A2:=aY BT ⟨2,1,.box 101 [.int .i64 a,.int .i64 e,.int .i64 h,.bg]⟩) (asa x) Qw (amN a e h) X;generalize br:(dj ae EO λr=>r=3\/r=4)=O at ab Y;have bP:O.F aK:=by rw[<-br];exact .inr ⟨3,C3,.inl rfl,bw⟩
   have bK:O.F al:=by rw[<-br];exact .inr ⟨4,C4,.inr rfl,bv⟩
   have ab:bF O (av BT (fO 2 x a e h .bg [])) u:=ab;have Y:Bml.GStep 3 ae (av BT (sO 2 x d a e h 2 .bg [])) u O (av BT (fO 2 x a e h .bg [])) u:=Y;have ay:=ai.e.at_ 49;rw[ep,bN,aL] at ay;have b3:G.eval (.tmp 49)= .func (.func 139) #[] #[.pointer (c6 ⟨aK,0,c7⟩),.pointer (c6 ⟨al,0,c7⟩)]:=by
    show G.tmps.getD 49 undef=_
    generalize G.tmps.getD 49 undef=ax at ay;have ay:VR ae _ u (.fn 139 [] [.ptr 3 1 0 0,.ptr 4 1 0 0]) ax:=ay;cases ay with
    |aW o=>
     cases o with
     |fn _ _ _ b6 vs C _ F B=>
      match vs,F with
      |[aI,a0],_=>have:=B 0 _ aI rfl rfl;cases this
    |fn _ _ _ b6 vs C _ F B=>
     obtain rfl:=hM C.symm
     match vs,F with
     |[aI,a0],_=>
      have an:=B 0 _ aI rfl rfl;have ad:=B 1 _ a0 rfl rfl;have an:aI= .pointer (c6 ⟨aK,0,c7⟩):=by
       cases an with
       |aW o=>cases o
       |ptr _ _ _ _ H U y a2 aT=>
        have y:c6 (⟨95,1,[.agg [.vs (BT.sz 5) (d.map (BT.ty 5).enc)]],1⟩:aO)=c6 H:=y;injection y with y
        subst y;obtain⟨_,b,bd,j,rfl⟩:=aT rfl;rw[bw] at j;injection j with j
        injection j with j
        rw[<-j]
        rfl
      have ad:a0= .pointer (c6 ⟨al,0,c7⟩):=by
       cases ad with
       |aW o=>cases o
       |ptr _ _ _ _ H U y a2 aT=>
        have y:c6 (⟨3,1,[.agg [.int .i64 2]],1⟩:aO)=c6 H:=y;injection y with y
        subst y;obtain⟨_,b,bd,j,rfl⟩:=aT rfl;rw[bv] at j;injection j with j
        injection j with j
        rw[<-j]
        rfl
      rw[an,ad]
   have bm:VR O (av BT (fO 2 x a e h .bg [])) u (.ptr 2 1 0 0) (G.tmps.getD 4 undef):=by
    have:=ai.e.at_ 4;rw[ep,ar,aL] at this;exact this.step Y (.ptr 2 1 0 0 (by omega))
   have cp:VR O (av BT (fO 2 x a e h .bg [])) u (.ptr 1 1 0 0) (G.tmps.getD 2 undef):=by
    have:=ai.e.at_ 2;rw[ep,F,aL] at this;exact this.step Y (.ptr 1 1 0 0 (by omega))
   have cj:N*2<=140737488355328:=by
    obtain⟨S,B⟩:=Ky aG
    by_cases h0:lj d=[]
    .rw[h0] at a7;simp at a7;omega
    .have:=B h0;simp at S;omega
   rw[Yw];refine wpIn_block (Pq (n:=10) (a:=G) (w:=u) b3 (pA Tryz.func139 rfl rfl) (aew 9 (by omega) aK 0 al 0 aq aD cap N U cj bT a9) rfl
    (λk D=>∃g s,gW l ((lj d).take k) []=c6 s/\jV 3 BT O (av BT (fO 2 x a e h .bg [])) u D g (iT x a e h s k))
    (λk D o=> ?rd) (λk D r o' o y P=> ?put) (λk D a5 o cA bV=> ?below) (λap=> ?start)
    (λk v Q D=>∃(c s:List Int) (g:Gh),(lj d)[k]?=c6 c/\gW l ((lj d).take k) []=c6 s/\jV 3 BT O (av BT (fO 2 x a e h .bg [])) u D g (iT x a e h s k)/\fI g (av BT (iT x a e h s k)) D 64 (aU BT (ru c)) Q)
    (λk v Q D r o' o y P=> ?mput) (λbS k v D cJ aH A cm=> ?assign) (λbS k v Q D aH A=> ?body) (λD A bM=> ?done))
   case rd=>
    obtain⟨g,s,_,o⟩:=o;exact⟨(oW o.st.jh bP).trans co,(oW o.st.jh bK).trans bz⟩
   case put=>
    obtain⟨g,s,C,o⟩:=o;exact⟨g,s,C,o.lF (.inr rfl) y rfl P⟩
   case below=>
    obtain⟨g,s,C,o⟩:=o;exact⟨g,s,C,o.below bV⟩
   case start=>
    refine⟨O,[],rfl,?_⟩
    have cy:((u.alloc (.deferred (c6 []))).alloc (.loop ap)).heap.size=u.heap.size+2:=by simp
    have a3:∀b,b<u.heap.size->((u.alloc (.deferred (c6 []))).alloc (.loop ap)).heap[b]?=u.heap[b]? :=λb j=>(hL _ _ b (by simp;omega)).trans (hL _ _ b j)
    obtain⟨bL,bO⟩:=GStep.lF (w':=(u.alloc (.deferred (c6 []))).alloc (.loop ap)) (Bml.GStep.refl 3 O (av BT (fO 2 x a e h .bg [])) u) ab rfl rfl rfl (by omega) (λb j=>a3 b (ab.fb b j)) (λr b bd j=>a3 b (ab.qD j)) a3;refine⟨bO,bL,by omega,λb j=>⟨λb1=>?_,?_⟩⟩
    .have:=ab.fb b b1;omega
    .rcases j with rfl |rfl
     .exact⟨.deferred (c6 []),(hL (u.alloc (.deferred (c6 []))) _ u.heap.size (by simp)).trans (hU u _),rfl⟩
     .refine⟨.loop ap,?_,rfl⟩
      have:=hU (u.alloc (.deferred (c6 []))) (.loop ap)
      rwa [World.size_alloc] at this
   case mput=>
    obtain⟨c,s,g,C,F,am,ar⟩:=o;have aN:=am.lF (o':=o') (.inr rfl) y rfl P;refine⟨c,s,g,C,F,aN,ar.defers,ar.size,λq=>?_⟩
    have aw:=ar.at_ q;exact VR.uz (f:=λr v=>∃H,(av BT (iT x a e h s k))[r]?=c6 H/\v<=H.aF) (λ_ j=>j) (λb j=>m5 (λI=>by subst I;exact(am.nF _ (.inr rfl)).1 j)) (λr v H _ y aP=>⟨H,y,aP,λI=>⟨I,rfl,rfl,rfl⟩⟩) aw aw.wf
   case assign=>
    obtain⟨au,s,K,A⟩:=A;have J:k<N:=by
     have:=(e4.1 aH).1;simpa using this
    obtain⟨ak,ah,P,cq,bD⟩:=b2 k J;have bX:s3 (c6 ⟨aq,aD+k*2,c7⟩) 2 2=v:=by
     rw[hS,oi J] at aH;injection aH
    have bY:VI au.F D (.vs 1 ([ak,ah].map (PV.int .u8))) v:=by
     rw[<-bX];exact((amL cq bD aA (a9 (by omega))).mono Y.F Y.jh).mono A.st.F A.st.jh
    have cc:((#[50]:Array Nat).zip #[v]).foldl (λt (p,v)=>t.setIfInBounds p v) G.tmps=G.tmps.setIfInBounds 50 v:=by simp
    rw[cc];have bR:fI au (av BT (iT x a e h s k)) D 64 (aU BT (sD [ak,ah])) {tmps:=G.tmps.setIfInBounds 50 v,defers:=[]}:=by
     refine⟨rfl,by simp;exact aQ,λq=>?_⟩
     rw[ep]
     by_cases bn:q=50
     .subst bn;have ad:(G.tmps.setIfInBounds 50 v).getD 50 undef=v:=by
       rw[ft,gx (by omega)]
       rfl
      rw[ad];exact .aW bY
     .by_cases bc:q=4
      .subst bc;have ad:(G.tmps.setIfInBounds 50 v).getD 4 undef=G.tmps.getD 4 undef:=by
        rw[ft,ft,Array.getElem?_setIfInBounds_ne (by omega)]
       rw[ad];exact bm.step A.st (.ptr 2 1 0 0 (by omega))
      .have an:(lk (sD [ak,ah]) q:TV BT.D)= .any:=by
        have cs:ey 50 q=false:=by cases j:ey 50 q with |false=>rfl |true=>exact absurd (beq_eq j).symm bn
        have al:ey 4 q=false:=by cases j:ey 4 q with |false=>rfl |true=>exact absurd (beq_eq j).symm bc
        simp only[sD,lk,cs,al,cond_false]
       rw[an];exact .aW (.any _)
    have a4:ops BT dd [] [] sv (λ_ R=>c6 R) 0 sv [] ⟨sD [ak,ah],iT x a e h s k⟩=c6 ⟨ru [ak,ah],iT x a e h s k⟩:=by
     cases k with
     |zero=>exact rdA _ _ _ _ _ _
     |succ k=>exact aer _ _ _ _ _ _ _
    exact F5 dM (k:=c6) A bR a4 (mL _ rfl) (u6 _ rfl) λa6 Z a5 W a1 C F am=>by
     have a1:=sp a1;subst a1;exact cm Z a5 C ⟨[ak,ah],s,W,P,K,F,am⟩
   case body=>
    obtain⟨c,s,au,P,K,bf,b8⟩:=A;obtain⟨aB,bl,_⟩:=aiZ aG (k+1);obtain⟨m,bo,X⟩:=fK (Ue P K bl);have a4:∃aC q v bq a8 ba,ops BT dd (iV l) [] lv (λcw R=>bif m7 0 lv then bif n4 lv [] 0 (nf cw []) then c6 R.H else c7 else c7) 0 lv [] ⟨ru c,iT x a e h s k⟩=c6 aC/\aC=fO bq x a e h (.fl q v) ba/\nth aC q=c6 ⟨a8,v,.aap 3 aB⟩/\3<=q:=by
     cases k with
     |zero=>
      have h0:s=[]:=by injection K with K;exact K.symm
      rw[h0] at X;refine⟨_,4,1,3,1,[⟨1,1,.aap 3 [c3 c4 m]⟩,⟨1,1,.aap 3 aB⟩],?_,rfl,rfl,by omega⟩
      refine(ajg l x c a e h).trans ?_
      rw[bo,ef,X]
      rfl
     |succ k=>
      refine⟨_,3,2,3,2,[⟨2,2,.aap 3 aB⟩,⟨1,1,.aap 3 [c3 c4 m]⟩],?_,rfl,rfl,by omega⟩
      refine(ahg l x c a e h s).trans ?_
      rw[bo];show((bj 8 s [c3 c4 m]).bind _)=_
      rw[X]
      rfl
    obtain⟨aC,q,cG,bq,a8,ba,cu,bZ,bU,cn⟩:=a4;refine wpIn_block (afv (m:=3) mixed dM aE ⟨bf.m,b8⟩ cu (mL _ rfl) (u6 _ rfl) λa6 Z a5 W aZ bW aF=>?_)
    have aZ:=sp aZ;have aR:=bW.m;rw[aZ] at aR aF;obtain⟨bH,ck,cr⟩:=akj bZ bU cn aR k;obtain⟨S,B⟩:=bf.next (H':=aC) aR aF;obtain⟨aS,_⟩:=S.next (H':=iT x a e h aB (k+1)) ck cr;exact⟨rfl,B,bH,aB,bl,aS⟩
   case done=>
    have bQ:((List.range N).map λk=>s3 (c6 ⟨aq,aD+k*2,c7⟩) 2 2).length=N:=by simp
    rw[bQ] at A;obtain⟨au,s,K,A⟩:=A;have ch:s=bx:=by
     rw[n1 (by omega),aG] at K;injection K with K
     exact K.symm
    subst ch;show Code.wpIn p7 10 dd sk _ _ _
    rw[bt];refine wpIn_wide.2 (aoq (x:=x) (N:=N) (g:=au) (ac:=G) (w:=D) (d:=[{target:=.collected u.heap.size,args:=#[]}]) aE cd cl (λh0=>?_) ?_ λM Q L aa b9 aJ aX=>?_)
    .have:=(Ky aG).1;rw[a7,h0] at this;exact List.length_eq_zero_iff.1 (by simpa using this)
    .refine⟨A.m,bt,aQ,λq=>?_⟩
     rw[ep]
     by_cases aM:q=4
     .subst aM;exact bm.step A.st (.ptr 2 1 0 0 (by omega))
     by_cases B:q=2
     .subst B;exact cp.step A.st (.ptr 1 1 0 0 (by omega))
     rw[Ou aM B];exact .aW (.any _)
    .obtain⟨S,B⟩:=A.next aJ.m aX;have bp:L.heap[u.heap.size]?=c6 (.deferred (c6 [])):=B.2 _ _ bM rfl;have aN:=S.lF (o':=.deferred c7) (.inl rfl) bp rfl rfl;show LeavesInM _ _ _ _ _ _ [{target:=.collected u.heap.size,args:=#[]}] .returning L
     refine⟨by simp,.inl ⟨_,_,rfl,run_takeDeferred bp,?_⟩⟩
     refine bk M aa Q _ b9 ⟨aN.m,aJ.e.defers,aJ.e.size,λq=>?_⟩ (((aF.trans bh).trans (Y.less (ei _))).trans (aN.st.less (ei _)))
     have aw:=aJ.e.at_ q;exact VR.uz (f:=λr v=>∃H,(av BT M.H)[r]?=c6 H/\v<=H.aF) (λ_ j=>j) (λb j=>m5 (λI=>by subst I;exact(S.nF _ (.inl rfl)).1 j)) (λr v H _ y aP=>⟨H,y,aP,λI=>⟨I,rfl,rfl,rfl⟩⟩) aw aw.wf
  |_=>first |exact aj.elim |(obtain⟨_,_,_,⟨_,_,J,_⟩,_⟩:=aj;cases J) |(obtain⟨_,_,_,J,_⟩:=aj;exact J.elim)
noncomputable def qJ:Code:=(Tryz.f239.body).getD .skip
noncomputable def tcl:Code:=eM (iq (eM (eM (eM qJ))))
def VB:Code->Code | .block _ (.loop b)=>b |a=>a
noncomputable def yZ:Code:=VB tcl
noncomputable def lJ(a:List ay)(i:Int)(b:TV BT.D):En BT.D:=[(4,b),(12,.row 140 a),(13,.int .i64 (a.length:Int)),(14,.int .i64 i)]
def tH(b:List ay)(a:List Int)(c:List aM):List (Ob BT.D):=[⟨1,1,.hole 140 b [.agg [.row 3 a,.fl 1 1]]⟩,⟨1,1,.aap 142 c⟩]
def HO:List (Nat×Hn):=[(458,⟨[],[(0,⟨[],[],[(32,.v 4)]⟩)],c7⟩),(7346,⟨[],[(4,⟨[(1,true,.aap 142 138)],[],[]⟩)],c6 ⟨[(1,true,.aap 142 138)],[],[(36,.v 3)]⟩⟩)]
def xJ(a:Lp):List (aq BT):=[IP a,Hy a,HG a]
noncomputable def tK:Nat->St BT.D->Option (Nat×List (Nat×Bd BT.D)×TV BT.D×TV BT.D×TV BT.D×TV BT.D):=λc a=>c6 (c,a.H.map (λb=>(b.aF,b.bd)),lk a.E 4,lk a.E 14,lk a.E 12,lk a.E 13)
noncomputable def bx(a:ay):Nat×Bd BT.D:=(1,.box 140 [.row 3 a.aw,.row 142 a.aH])
def tB0(b:Lp)(a:List ay)(i:Int):exec b BT dd (xJ b) 0 HO yZ 1 tK ⟨lJ a i .bg,[]⟩=bif c5 (i<(a.length:Int)) then(aj a i).bind λd=>(mH b d).bind λc=>c6 (0,[bx d,(1,.aap 142 c.1),(1,.hole 140 [] [.agg [.row 3 c.2,.fl 1 1]]),(1,.hole 140 [] [.agg [.row 3 c.2,.fl 1 1]])],.fl 3 1,.int .i64 (c3 c4 (i+1)),.row 140 a,.int .i64 (a.length:Int)) else c6 (2,[],.bg,.int .i64 i,.row 140 a,.int .i64 (a.length:Int)):=by kernel_rfl
def mo(a:List ay){b:Type}(c:Option b):Option b:=bif c5 (c3 c4 (((a.length+1:Nat):Int) -1)=((a.length+0:Nat):Int)) then bif ey (a.length+0) (a.length+0) then c else c7 else c7
def tL(e:Lp)(c:List ay)(d:ay)(a:List aM)(i:Int):Option ((List aM×Int)⊕List aM):=
 bif c5 (i<(d.aH.length:Int)) then
  mo c (mo c ((aj a i).bind λ_=>(a[i.toNat]?).bind λf=>(aj d.aH i).bind λb=>(xW e f b).bind λg=>(aj a i).bind λ_=>(a[i.toNat]?).bind λ_=>c6 (o8 (a.set i.toNat g.1,c3 c4 (i+1)))))
 else c6 (n0 a)
def Ik(b:List ay)(a:List Int)(c:List (TV BT.D)):Bd BT.D:=.hole 140 b (.agg [.row 3 a,.fl 1 1]::c)
def tB1(c:Lp)(a:List ay)(i:Int)(b:List ay)(e:List Int)(f:List aM):exec c BT dd (xJ c) 0 HO yZ 1 tK ⟨lJ a i (.fl 0 1),tH b e f⟩=bif c5 (i<(a.length:Int)) then(aj a i).bind λd=>
 (bif c5 (0<((b.length+1:Nat):Int)) then mo b ((qG c e d.aw).bind λg=>c6 g) else c6 false).bind λg=>
 bif g then(c.loop (λj=>tL c b d j.1 j.2) (f,0)).bind λk=>c6 (0,[(1,Ik b e []),(1,.aap 142 k),bx d],.fl 0 1,.int .i64 (c3 c4 (i+1)),.row 140 a,.int .i64 (a.length:Int))
 else(mH c d).bind λh=>bif x3 ((b.length+1+1)*48) 140737488355328 then c6 (0,[(2,Ik b e [.agg [.row 3 h.2,.fl 3 1]]),(1,.aap 142 f),bx d,(1,.aap 142 h.1),(1,.hole 140 [] [.agg [.row 3 h.2,.fl 3 1]])],.fl 0 2,.int .i64 (c3 c4 (i+1)),.row 140 a,.int .i64 (a.length:Int)) else c7
 else c6 (2,[(1,Ik b e []),(1,.aap 142 f)],.fl 0 1,.int .i64 i,.row 140 a,.int .i64 (a.length:Int)):=by kernel_rfl
def qi(p q:Nat):Nat->Option Nat
 |0=>c6 p
 |1=>c6 q
 |_=>c7
def Dl{p q i r:Nat}(a:qi p q i=c6 r):(i=0/\r=p)\/(i=1/\r=q):=by
 match i,a with
 |0,a=>injection a with a;exact .inl ⟨rfl,a.symm⟩
 |1,a=>injection a with a;exact .inr ⟨rfl,a.symm⟩
def NR{a f:List PV}{i c:Nat}{d:PV}(b:abk (a++f) i c=c6 d):(i<a.length/\abk a i c=c6 d)\/(a.length<=i/\abk f (i -a.length) c=c6 d):=by
 unfold abk at b⊢
 by_cases e:i<a.length
 .rw[ev e] at b;exact .inl ⟨e,b⟩
 .rw[e6 (by omega)] at b;exact .inr ⟨by omega,b⟩
def SW{b f:List PV}{i c:Nat}{d:PV}(a:abk b i c=c6 d):abk (b++f) i c=c6 d:=by
 unfold abk at a⊢
 by_cases e:i<b.length
 .rw[ev e];exact a
 .rw[hQ (by omega)] at a;cases a
def BZ{l m:List PV}{i j:Nat}{b:PV}(a:abk m i j=c6 b):abk (l++m) (l.length+i) j=c6 b:=by
 unfold abk at a⊢;rw[e6 (by omega),Nat.add_sub_cancel_left];exact a
def ajr{g:Gh}{B:World}{D:List (Ob BT.D)}{p v q t:Nat}{A:List aM}{s E2:List PV}{h:PV}{x:Nat->Prop}
 (X:(av BT D)[p]?=c6 ⟨140,2,s++[.agg [h,.fl q t]],v⟩) (F:(av BT D)[q]?=c6 ⟨142,2,A.map aM.enc,t⟩) (ab:p≠q) (J:¬x p/\¬x q) (Q:cE 0 h) (W:E2.length=s.length) (S:∀n,n∈E2->n.cells.length=2)
 (y:∀i j w,abk E2 i j=c6 w->∃u,abk s i j=c6 u/\∀o,VR g (av BT D) B u o->VI (dj g (qi p q) x).F B w o) (L:bF g (av BT D) B):
 bF (dj g (qi p q) x) [⟨140,2,E2++[.agg [h,.fl 1 1]],1⟩,⟨142,2,A.map aM.enc,1⟩] B:=by
 refine bF.re L (λr e i G=>?_) (λi aa r e R=>?_) (λi r e=>?_) (λi K c=>?_)
 .rcases Dl G with⟨_,rfl⟩ |⟨_,rfl⟩
  .exact J.1 e
  .exact J.2 e
 .rcases Dl e with⟨H,b⟩ |⟨H,b⟩ <;> rcases Dl R with⟨u,O⟩ |⟨u,O⟩ <;> omega
 .show i<2
  rcases Dl e with⟨H,b⟩ |⟨H,b⟩ <;> omega
 .match i,c with
  |0,c=>
   have c:c6 (⟨140,2,E2++[.agg [h,.fl 1 1]],1⟩:aO)=c6 K:=c;injection c with c
   subst c;refine⟨by show 0<2;omega,λi n a=>?_,(λe=>by cases e),λr f=>?_⟩
   .have a:n∈E2++[.agg [h,.fl 1 1]]:=fe a;rcases l1.1 a with a |a
    .exact S n a
    .rw[eH] at a;subst a;rfl
   .have f:c6 p=c6 r:=f;injection f with f
    subst f;refine⟨_,X,rfl,rfl,by simp[W],λi j w T=>?_⟩
    rcases NR T with⟨_,d⟩ |⟨h0,d⟩
    .obtain⟨u,V,P⟩:=y i j w d;exact⟨u,SW V,λo k=>.aW (P o k)⟩
    .obtain⟨n,a,M⟩:=gw d;have N:i -E2.length=0:=by
      have:=(e4.1 a).1;simpa using this
     rw[N] at d a;injection a with a
     subst a;have G:i=s.length+0:=by omega
     rw[G]
     match j,M with
     |0,_=>
      injection d with d
      subst d;exact⟨h,BZ (l:=s) (m:=[.agg [h,.fl q t]]) (i:=0) (j:=0) rfl,λo k=>.aW ((k.dH Q).mono (λ_ E=>.inl E) λ_ _=>rfl)⟩
     |1,_=>
      injection d with d
      subst d;refine⟨.fl q t,BZ (l:=s) (m:=[.agg [h,.fl q t]]) (i:=0) (j:=1) rfl,λo k=>?_⟩
      cases k with
      |aW e=>cases e
      |fl _ _ Z _ C Y d k=>
       rw[F] at C;injection C with C
       subst C;refine .fl 1 1 ⟨142,2,A.map aM.enc,1⟩ o rfl (dv _) d λ_=>?_
       have:=k rfl;unfold SL at this⊢;exact this
  |1,c=>
   have c:c6 (⟨142,2,A.map aM.enc,1⟩:aO)=c6 K:=c;injection c with c
   subst c;have I:=L.obj q _ F;refine⟨I.pos,I.width,(λe=>by cases e),λr f=>?_⟩
   have f:c6 q=c6 r:=f;injection f with f
   subst f;refine⟨_,F,rfl,rfl,rfl,λi j w y=>⟨w,y,λt U=>?_⟩⟩
   exact .aW ((U.dH (nR (λn a=>by
    obtain⟨z,_,rfl⟩:=j1.1 a;exact dM.lt 142 z) y)).mono (λ_ E=>.inl E) λ_ _=>rfl)
def nj(b:Nat)(f:Env)(c:List aO)(h:Env)(H0:List aO):Prop:=∀g d a,Rel g b f c d a->∃e,Rel e b h H0 d a/\Bml.GStep 0 g c a e H0 a
def sS{d:Program}{a:Nat}{i j:Env}{h H0:List aO}{c:Code}{b:fE}(s:nj a i h j H0)(k:eT d a 0 c b j H0):eT d a 0 c b i h:=λg f e u n t=>by
 obtain⟨q,r,v⟩:=s g f e u;exact k q f e r n λp l m o=>t p l m (eI.trans v o)
def xh(c:List (Ob BT.D)):av BT c=(c.map λa=>(a.aF,a.bd)).map λb=>aY BT ⟨0,b.1,b.2⟩:=by
 unfold av;rw[List.map_map];exact List.map_congr_left λa _=>by cases a;rfl
def amB{h:List ay}{i:Int}{d:TV BT.D}{q:Nat}(k:q≠4)(f:q≠12)(j:q≠13)(g:q≠14):lk (lJ h i d) q= .any:=by
 have b:∀a,q≠a->ey a q=false:=λa e=>by cases c:ey a q with |false=>rfl |true=>exact absurd (beq_eq c).symm e
 simp only[lJ,lk,b 4 k,b 12 f,b 13 j,b 14 g,cond_false]
structure vS (S:St BT.D) (sorted:List ay) (i:Int) (t:TV BT.D):Prop where
 s4:lk S.E 4=t
 YC:lk S.E 12= .row 140 sorted
 YD:lk S.E 13= .int .i64 (sorted.length:Int)
 YE:lk S.E 14= .int .i64 i
def P3{g e:Gh}{d:St BT.D}{p:Act}{c:World}{H0:List aO}{r:List ay}{i:Int}{k o:TV BT.D}(f:vS d r i k)(j:Rel g 73 (aU BT d.E) (av BT d.H) p c)(h:∀b,g.F b->e.F b)(v:bF e H0 c)
 (u:∀l,VR g (av BT d.H) c (pv BT k) l->VR e H0 c (pv BT o) l):Rel e 73 (aU BT (lJ r i o)) H0 p c:=by
 refine⟨v,j.e.defers,j.e.size,λq=>?_⟩
 rw[ep];have a:=j.e.at_ q;rw[ep] at a
 by_cases s:q=4
 .subst s;rw[f.s4] at a;exact u _ a
 by_cases t:q=12
 .subst t;rw[f.YC] at a;exact .aW ((a.dH (.vs _ _)).mono h λ_ _=>rfl)
 by_cases n:q=13
 .subst n;rw[f.YD] at a;exact .aW ((a.dH (.int _ _)).mono h λ_ _=>rfl)
 by_cases m:q=14
 .subst m;rw[f.YE] at a;exact .aW ((a.dH (.int _ _)).mono h λ_ _=>rfl)
 rw[amB s t n m];exact .aW (.any _)
def alW{c:St BT.D}{d:List ay}{i:Int}(j:vS c d i .bg):nj 73 (aU BT c.E) (av BT c.H) (aU BT (lJ d i .bg)) (av BT []):=λg n l b=>by
 refine⟨dj g (λ_=>c7) (λ_=>False),P3 j b (λ_ a=>.inl a) ?_ (λk f=>.aW ((f.dH .bg).mono (λ_ a=>.inl a) λ_ _=>rfl)),GStep.re λr o b=>absurd b (by omega)⟩
 exact bF.re b.m (λ_ a=>a.elim) (λi m r a=>by cases a) (λi r a=>by cases a) (λi e h=>by
  have:(([]:List aO))[i]?=c6 e:=h;simp at this)
def H5{a:St BT.D}{k:List ay}{i:Int}{p v q u:Nat}{xs:List ay}{d:List Int}{l:List aM}{E1:List PV}{fz:Nat->Prop}(C:vS a k i (.fl p v))
 (t:(av BT a.H)[p]?=c6 ⟨140,2,E1++[.agg [.vs (1) (d.map (PV.int .i64)),.fl q u]],v⟩) (A:(av BT a.H)[q]?=c6 ⟨142,2,l.map aM.enc,u⟩) (F:p≠q) (B:¬fz p/\¬fz q) (s:xs.length=E1.length)
 (x:∀g b,bF g (av BT a.H) b->∀i m o,abk (xs.map ay.enc) i m=c6 o->∃n,abk E1 i m=c6 n/\∀e,VR g (av BT a.H) b n e->VI (dj g (qi p q) fz).F b o e):nj 73 (aU BT a.E) (av BT a.H) (aU BT (lJ k i (.fl 0 1))) (av BT (tH xs d l)):=λg J b f=>by
 have G:=ajr (E2:=xs.map ay.enc) t A F B (.vs _ _) (by rw[hq];exact s) (λI E=>by
  obtain⟨z,_,rfl⟩:=j1.1 E
  rfl) (x g b f.m) f.m
 refine⟨dj g (qi p q) fz,P3 C f (λ_ j=>.inl j) G (λe c=>?_),GStep.re λr y f=>absurd f (by omega)⟩
 have c:VR g (av BT a.H) b (.fl p v) e:=c;cases c with
 |aW j=>cases j
 |fl _ _ y _ h H D c=>
  rw[t] at h;injection h with h
  subst h;refine .fl 0 1 ⟨140,2,xs.map ay.enc++[.agg [.vs (1) (d.map (PV.int .i64)),.fl 1 1]],1⟩ e rfl (dv _) D λ_=>?_
  have:=c rfl;have w:(xs.map ay.enc++[PV.agg [.vs (1) (d.map (PV.int .i64)),.fl 1 1]]).length=(E1++[PV.agg [.vs (1) (d.map (PV.int .i64)),.fl q u]]).length:=by simp[s]
  unfold SL at this⊢;rw[w];exact this
def Mt{H:List aO}(f:List ay){p q:Nat}{fz:Nat->Prop}:∀g a,bF g H a->∀i d b,abk (f.map ay.enc) i d=c6 b->∃h,abk (f.map ay.enc) i d=c6 h/\∀c,VR g H a h c->VI (dj g (qi p q) fz).F a b c:=λg a _ i d b e=>⟨b,e,λc k=>(k.dH (nR (λm l=>by
 obtain⟨z,_,rfl⟩:=j1.1 l;exact dM.lt 140 z) e)).mono (λ_ j=>.inl j) λ_ _=>rfl⟩
def OC{H:List aO}(c:List ay){tg1:List Int}{ws1:List aM}{p q q1 u1:Nat}(s:H[q1]?=c6 ⟨142,2,ws1.map aM.enc,u1⟩):∀g f,bF g H f->∀i j n,abk ((c++[(⟨tg1,ws1⟩:ay)]).map ay.enc) i j=c6 n->∃h,abk (c.map ay.enc++[.agg [.vs (1) (tg1.map (PV.int .i64)),.fl q1 u1]]) i j=c6 h/\∀k,VR g H f h k->VI (dj g (qi p q) λr=>r=q1).F f n k:=λg f u i j n a=>by
 rw[List.map_append] at a;rcases NR a with⟨_,a⟩ |⟨t,a⟩
 .obtain⟨h,C,y⟩:=Mt (H:=H) c (p:=p) (q:=q) (fz:=λr=>r=q1) g f u i j n a;exact⟨h,SW C,y⟩
 .obtain⟨A,d,v⟩:=gw a;have x:i - (c.map ay.enc).length=0:=by
   have:=(e4.1 d).1;simpa using this
  rw[x] at a d;injection d with d
  subst d;have t:i=(c.map ay.enc).length+0:=by omega
  rw[t]
  match j,v with
  |0,_=>
   injection a with a
   subst a;exact⟨_,BZ (l:=c.map ay.enc) (m:=[.agg [.vs (1) (tg1.map (PV.int .i64)),.fl q1 u1]]) (i:=0) (j:=0) rfl,λk o=>(o.dH (.vs _ _)).mono (λ_ e=>.inl e) λ_ _=>rfl⟩
  |1,_=>
   injection a with a
   subst a;refine⟨_,BZ (l:=c.map ay.enc) (m:=[.agg [.vs (1) (tg1.map (PV.int .i64)),.fl q1 u1]]) (i:=0) (j:=1) rfl,λk o=>?_⟩
   have w:=lh (o.ub s rfl) s rfl;have:=Ed (u.obj q1 _ s) w (λA d=>by
    obtain⟨z,_,rfl⟩:=j1.1 d;exact dM.lt 142 z) (F:=(dj g (qi p q) λr=>r=q1).F) (λ_ e=>.inl e) λb B e=>.inr ⟨q1,B,rfl,e⟩
   rw[List.drop_zero,n1 (dv _)] at this;exact this
def AV:aq BT:=⟨293,1,0,⟨[],[(0,.v 44)]⟩,⟨[(0,[0],.box 44 [.v 44])],[(0,.f 326 [] [.p 0])]⟩,λa=>c6 a⟩
def RVw(b:Lp)(a:List ay):gl b BT dd [] AV [.tmp 2] ((Tryz.f293.body).getD .skip) [] a=c6 a:=by kernel_rfl
def KVw:FT AV:=FA (L:=LN 0) (hs:=[]) mixed dM f0 Tryz.func293 rfl rfl rfl rfl (by kernel_rfl) rfl rfl (RVw (LN 0))
noncomputable def QA:Code:=iq (iq (eM (eM (eM qJ))))
noncomputable def uc:Code:=eM (eM (eM (eM qJ)))
noncomputable def lm:List Oper:=tS (iq (eM qJ))
def ajf:Tryz.f239.body=c6 (.seq (iq qJ) (.seq (.region 1 lm.toArray false) (.seq (iq (eM (eM qJ))) (.seq (.seq QA (.block 0 (.loop yZ))) uc)))):=by kernel_rfl
def tp0(a:Lp)(b:List ay):exec a BT dd [] 0 [] (iq qJ) 1 (λc d=>bif ey c 0 then c6 (lk d.E 0) else c7) (cz BT (uY a).par b)=c6 (.row 140 b):=by kernel_rfl
def WS(c:List ay):ops BT dd [AV] [] lm (λ_ a=>c6 (a.H.map (λb=>(b.aF,b.bd)),lk a.E 10)) 0 (lm.take 2) [] ⟨[(0,.row 140 c)],[]⟩=c6 ([(1,.box 44 [.row 140 c])],.fn 326 [] [.ptr 0 1 0 0]):=by kernel_rfl
def Ur(a:Lp)(b:List ay):ops BT dd [xI a] [] lm (λ_ d=>c6 (lk d.E 3)) 2 (lm.drop 2) [] ⟨[(10,.fn 326 [] [.vp [.row 140 b] 0])],[]⟩=(uv a b).bind λc=>c6 (.row 140 c):=by kernel_rfl
def tT1(a:Lp)(b:List ay):exec a BT dd [] 0 [] uc 1 (kL dd (uY a) [.tmp 2]) ⟨[(4,.fl 0 1)],[⟨1,1,.aap 140 b⟩]⟩=c6 b:=by kernel_rfl
def aa3(a:Lp):exec a BT dd [] 0 [] uc 1 (kL dd (uY a) [.tmp 2]) ⟨[(4,.bg)],[]⟩=c6 []:=by kernel_rfl
end Go.X.T
namespace Go.X
open Go Go.Aml Go.Bml
section
variable {P:Program}{B:Tb}{R:Type}{r:R}
def RS{nt n:Nat}{g q:List Oper}{o:fE}:∀{l:List Oper} {S:St B.D} {C:List (Option (cr B.D))} {i:St B.D},l6 P B g l S C i->(∀e,e∈l->fL nt e.dst=true)->gp P nt n g.toArray q o (aU B i.E) (av B i.H)->
 gp P nt n g.toArray (l++q) o (aU B S.E) (av B S.H)
 |[],S,[],i,a,_,y=>by
  obtain rfl:i=S:=a;exact y
 |e::l,S,d::C,i,a,E,y=>by
  obtain⟨G,a⟩:=a;have t:=RS (nt:=nt) (n:=n) a (λe L=>E e (List.mem_cons_of_mem _ L)) y;have x:=E e (by simp);obtain⟨f,D,u,s,w,gd⟩:=e;have F:∀{p:Bool->TV B.D->Prop},tQ g ⟨f,D,u,s,w,gd⟩ S.E p->∃h c d,gd=c6 (h,c)/\(g.toArray[h]?).bind (·.dst)=c6 d/\p c (lk S.E d):=λa=>by
   obtain⟨h,c,T,d,K,z,J,N⟩:=a;refine⟨h,c,d,K,?_,N⟩
   rw[cJ] at z;simp[z,J]
  cases d with
  |none=>
   obtain⟨h,c,d,rfl,m,k⟩:=F (p:=λc v=>v= .bu []\/∃b,v= .bool b/\b≠c) G;rcases k with k |⟨b,H,M⟩
   .refine MO m (by rw[ep,k];rfl) x ?_
    rw[show li (aU B S.E) f (.bu [])=aU B (gr S.E f (.bu [])) by rw[sx];rfl];exact t
   .refine Sk m (by rw[ep,H];rfl) M x ?_
    rw[show li (aU B S.E) f (.bu [])=aU B (gr S.E f (.bu [])) by rw[sx];rfl];exact t
  |some A=>
   obtain⟨j,I,U,Q⟩:=G;have run:gp P nt n g.toArray (⟨f,D,u,s,w,c7⟩::(l++q)) o (aU B S.E) (av B S.H):=by
    refine OT A.nw (Sz (I f u s w S.E (aX S.H (dx A.nw)) Sf) x ?_)
    rintro v O ⟨rfl,rfl⟩;rw[<-sx];exact t
   rcases j with j |j
   .obtain rfl:gd=c7:=j;exact run
   .obtain⟨h,c,d,rfl,m,k⟩:=F j;exact S7 m (by rw[ep,k];rfl) run
 |[],_,_::_,_,a,_,_=>a.elim
 |_::_,_,[],_,a,_,_=>a.elim
end
end Go.X
namespace Go.X.T
open Go Go.Aml Go.Bml Go.X Go.RowKit Go.Proofs
def aos{P:Program}{a:Nat}{i j:Env}{h H0:List aO}{c:Array Oper}{b:List Oper}{d:fE}(t:nj a i h j H0)(k:gp P a 0 c b d j H0):gp P a 0 c b d i h:=λg f e v n u=>by
 obtain⟨q,s,w⟩:=t g f e v;exact k q f e s n λp l m o=>u p l m (eI.trans w o)
def AR{d:St BT.D}{E0:En BT.D}(a:∀q,lk E0 q= .any\/(lk d.E q=lk E0 q/\cE 0 (pv BT (lk E0 q)))):nj 73 (aU BT d.E) (av BT d.H) (aU BT E0) (av BT []):=λg n l b=>by
 refine⟨dj g (λ_=>c7) (λ_=>False),⟨bF.re b.m (λ_ a=>a.elim) (λi m r a=>by cases a) (λi r a=>by cases a) (λi k j=>by
  have:(([]:List aO))[i]?=c6 k:=j;simp at this),b.e.defers,b.e.size,λq=>?_⟩,GStep.re λr o b=>absurd b (by omega)⟩
 rw[ep];have c:=b.e.at_ q;rw[ep] at c;rcases a q with a |⟨h,f⟩
 .rw[a];exact .aW (.any _)
 .rw[h] at c;exact .aW ((c.dH f).mono (λ_ e=>.inl e) λ_ _=>rfl)
def adf{d:Nat->Prop}{c:World}{e:Nat}{b:List PV}{a:Value}(f:VI d c (.vs e b) a):a.oneCell'=true:=by cases f <;> rfl
def ah6{n:St BT.D}{f t:Nat}{x:List ay}(G:lk n.E 10= .fn f [] [.ptr 0 1 0 0])(C:av BT n.H=[⟨t,1,[.agg [.vs 2 (x.map ay.enc)]],1⟩]):nj 73 (aU BT n.E) (av BT n.H) (aU BT [(10,.fn f [] [.vp [.row 140 x] 0])]) (av BT []):=λg O s e=>by
 have F:=e.m;rw[C] at F;obtain⟨b,M,A,h,Q,v⟩:=GS (r:=0) F rfl (.vs _ _);refine⟨dj g (λ_=>c7) (λr=>r=0),⟨bF.re e.m (λ_ _ _ a=>by cases a) (λi V r a=>by cases a) (λi r a=>by cases a) (λi K T=>by
  have:(([]:List aO))[i]?=c6 K:=T;simp at this),e.e.defers,e.e.size,λq=>?_⟩,GStep.re λr y e=>absurd e (by omega)⟩
 rw[ep]
 by_cases D:q=10
 .subst D;have k:=e.e.at_ 10;rw[ep,G,C] at k;generalize O.tmps.getD 10 undef=E at k;have k:VR g _ s (.fn f [] [.ptr 0 1 0 0]) E:=k;show VR _ _ s (.fn f [] [.dw [.vs 2 (x.map ay.enc)] 0]) E
  have I:∀d,VR g [⟨t,1,[.agg [.vs 2 (x.map ay.enc)]],1⟩] s (.ptr 0 1 0 0) d->d= .pointer (c6 ⟨b,0,c7⟩):=λd p=>by
   cases p with
   |aW a=>cases a
   |ptr _ _ _ _ y X m v S=>
    have m:c6 (⟨t,1,[.agg [.vs 2 (x.map ay.enc)]],1⟩:aO)=c6 y:=m;injection m with m
    subst m;obtain⟨_,W,U,j,rfl⟩:=S rfl;rw[h] at j;injection j with j
    injection j with j
    rw[<-j]
    rfl
  have L:A.oneCell'=true:=adf v;have new:VI (dj g (λ_=>c7) (λr=>r=0)).F s (.dw [.vs 2 (x.map ay.enc)] 0) (.pointer (c6 ⟨b,0+0,c7⟩)):=by
   refine .dw _ 0 b 0 (λ_=>A) (.inr ⟨0,M,rfl,h⟩) (λi o c=>?_) (λi o c=>L) (λi o c=>?_)
   .match i,c with
    |0,_=>exact Q
   .match i,c with
    |0,c=>injection c with c;subst c;exact v.mono (λ_ h=>.inl h) λ_ _=>rfl
  cases k with
  |aW a=>
   cases a with
   |fn _ _ _ J vs p _ u w=>
    match vs,u with
    |[d],_=>have:=w 0 _ d rfl rfl;cases this
  |fn _ _ _ J vs p _ u w=>
   obtain rfl:=hM p.symm
   match vs,u with
   |[d],_=>
    have H:=I d (w 0 _ d rfl rfl);subst H;refine .fn f [] [.dw [.vs 2 (x.map ay.enc)] 0] [] [_] rfl (λi o x a=>by simp at a) rfl λi o z a l=>?_
    match i,a,l with
    |0,a,l=>injection a with a;injection l with l;subst a;subst l;exact .aW new
 .have:(lk [(10,(.fn f [] [.vp [.row 140 x] 0]:TV BT.D))] q:TV BT.D)= .any:=by
   have N:ey 10 q=false:=by cases h:ey 10 q with |false=>rfl |true=>exact absurd (beq_eq h).symm D
   simp only[lk,N,cond_false]
  rw[this];exact .aW (.any _)
def aho{m:St BT.D}{c:List ay}{d:List Int}{e:List aM}(T:lk m.E 4= .fl 0 1)(o:av BT m.H=[⟨140,2,c.map ay.enc++[.agg [.vs 1 (d.map (PV.int .i64)),.fl 1 1]],1⟩,⟨142,2,e.map aM.enc,1⟩]):nj 73 (aU BT m.E) (av BT m.H) (aU BT [(4,.fl 0 1)]) (av BT [⟨1,1,.aap 140 (c++[(⟨d,e⟩:ay)])⟩]):=λg O s f=>by
 have y:=f.m;rw[o] at y;have G:=OC c (tg1:=d) (ws1:=e) (p:=0) (q:=1) (q1:=1) (u1:=1) (H:=[⟨140,2,c.map ay.enc++[.agg [.vs 1 (d.map (PV.int .i64)),.fl 1 1]],1⟩,⟨142,2,e.map aM.enc,1⟩]) rfl g s y;have A:((c++[(⟨d,e⟩:ay)]).map ay.enc).length=(c.map ay.enc++[PV.agg [.vs 1 (d.map (PV.int .i64)),.fl 1 1]]).length:=by simp
 refine⟨dj g (λi=>if i=0 then c6 0 else c7) (λr=>r=1),⟨bF.re f.m (λr a q b=>?_) (λi V r a K=>?_) (λi r a=>?_) (λi L h=>?_),f.e.defers,f.e.size,λq=>?_⟩,GStep.re λr E f=>absurd f (by omega)⟩
 .split at b
  .injection b with b;omega
  .cases b
 .have v:∀{l:Nat},(if l=0 then c6 0 else c7)=c6 r->l=0:=λ{l} a=>by
   by_cases x:l=0
   .exact x
   .rw[if_neg x] at a;cases a
  rw[v a,v K]
 .split at a
  .subst i;show 0<1;omega
  .cases a
 .match i,h with
  |0,h=>
   have h:c6 (⟨140,2,(c++[(⟨d,e⟩:ay)]).map ay.enc,1⟩:aO)=c6 L:=h;injection h with h
   subst h;refine⟨by show 0<2;omega,λi W u=>?_,(λa=>by cases a),λr j=>?_⟩
   .have u:=fe u;obtain⟨z,_,rfl⟩:=j1.1 u
    rfl
   .have j:c6 0=c6 r:=j;injection j with j
    subst j;rw[o];refine⟨_,rfl,rfl,rfl,A,λi J S D=>?_⟩
    obtain⟨M,Q,F⟩:=G i J S D;exact⟨M,Q,λk n=>.aW (F k n)⟩
 .rw[ep]
  by_cases w:q=4
  .subst w;have b:=f.e.at_ 4;rw[ep,T,o] at b;generalize O.tmps.getD 4 undef=k at b;have b:VR g _ s (.fl 0 1) k:=b;show VR _ _ s (.fl 0 1) k
   cases b with
   |aW a=>cases a
   |fl _ _ E _ t U N n=>
    injection t with t
    subst t;refine .fl 0 1 ⟨140,2,(c++[(⟨d,e⟩:ay)]).map ay.enc,1⟩ k rfl (dv _) N λ_=>?_
    have:=n rfl;unfold SL at this⊢;rw[A];exact this
  .have:(lk [(4,(.fl 0 1:TV BT.D))] q:TV BT.D)= .any:=by
    have I:ey 4 q=false:=by cases C:ey 4 q with |false=>rfl |true=>exact absurd (beq_eq C).symm w
    simp only[lk,I,cond_false]
   rw[this];exact .aW (.any _)
end Go.X.T
namespace Go.X.T
open Go Go.Aml Go.Bml Go.X Go.RowKit Go.Proofs
def Is{m:Lp}{i:List (aq BT)}(q:∀b,b∈i->FT b){o:List (Nat×Hn)}{b j:Code}{h:fE}{e:St BT.D}{k:Type}{z:k}{f:Nat->St BT.D->Option k}(r:exec m BT dd i 0 o b 1 f e=c6 z)(p:gB 73 b=true)(g:∀l a,l≠0->f l a=c6 z->False)
 (s:∀a,f 0 a=c6 z->eT dd 73 0 j h (aU BT a.E) (av BT a.H)):eT dd 73 0 (.seq b j) h (aU BT e.E) (av BT e.H):=by
 refine rN (((gO mixed dM q b 1 _ _ _ r p (ei _)).mono nP).mono λn v u c=>?_)
 cases n with
 |normal=>
  obtain⟨a,d,rfl,rfl⟩:=c;exact s a d
 |ret=>obtain⟨a,d,_⟩:=c;exact(g 1 a (by omega) d).elim
 |exit t=>obtain⟨a,d,_⟩:=c;exact(g (t+2) a (by omega) d).elim
 |goto _=>exact c.elim
 |panic _=>exact c.elim
 |outgrown=>exact c.elim
def ajm(c:Lp)(a:List ay):exec c BT dd [] 0 [] (iq (eM (eM qJ))) 1 (λd b=>bif ey d 0 then c6 (lk b.E 3,lk b.E 4) else c7) ⟨[(3,.row 140 a)],[]⟩=c6 (.row 140 a,.bg):=by kernel_rfl
def aoj(c:Lp)(b:List ay):exec c BT dd [] 0 [] QA 1 (λd a=>bif ey d 0 then c6 (lk a.E 4,lk a.E 12,lk a.E 13,lk a.E 14) else c7) ⟨[(3,.row 140 b),(4,.bg)],[]⟩=c6 (.bg,.row 140 b,.int .i64 (b.length:Int),.int .i64 0):=by kernel_rfl
def JP{b:Type}{z:b}{f:St BT.D->Option b}{a:Nat}{d:St BT.D}(c:a≠0)(e:(bif ey a 0 then f d else c7)=c6 z):False:=by
 cases a with
 |zero=>exact c rfl
 |succ a=>cases e
def Bz{e:St BT.D}{a:Nat}{c:TV BT.D}(h:lk e.E a=c)(g:cE 0 (pv BT c)):∀q,lk [(a,c)] q= .any\/(lk e.E q=lk [(a,c)] q/\cE 0 (pv BT (lk [(a,c)] q))):=λq=>by
 by_cases d:q=a
 .subst d;have i:(lk [(q,c)] q:TV BT.D)=c:=by simp[lk]
  rw[i];exact .inr ⟨h,g⟩
 .have b:ey a q=false:=by cases f:ey a q with |false=>rfl |true=>exact absurd (beq_eq f).symm d
  exact .inl (by simp only[lk,b,cond_false])
def Xh{f:St BT.D}{a d:Nat}{e c:TV BT.D}(m:lk f.E a=e)(k:cE 0 (pv BT e))(l:lk f.E d=c)(i:cE 0 (pv BT c))(n:a≠d):∀q,lk [(a,e),(d,c)] q= .any\/(lk f.E q=lk [(a,e),(d,c)] q/\cE 0 (pv BT (lk [(a,e),(d,c)] q))):=λq=>by
 by_cases h:q=a
 .subst h;have g:(lk [(q,e),(d,c)] q:TV BT.D)=e:=by simp[lk]
  rw[g];exact .inr ⟨m,k⟩
 .have b:ey a q=false:=by cases j:ey a q with |false=>rfl |true=>exact absurd (beq_eq j).symm h
  have g:(lk [(a,e),(d,c)] q:TV BT.D)=lk [(d,c)] q:=by simp only[lk,b,cond_false]
  rw[g];exact Bz l i q
def Ll(b:Lp)(c:ay):oM b c=(mH b c).bind λe=>c6 ⟨e.2,e.1⟩:=by
 unfold oM mH;cases cc b c.aw with
 |none=>rfl
 |some d=>
  simp only[ef];show(b.loop (λa=>r9 b c (ay.mk a.1 a.2.1) a.2.2) (d,([]:List aM),0)).bind _=((b.loop (λa=>r9 b c (ay.mk a.1 a.2.1) a.2.2) (d,([]:List aM),0)).bind _).bind _
  cases b.loop (λa=>r9 b c (ay.mk a.1 a.2.1) a.2.2) (d,([]:List aM),0) <;> rfl
def SA{n:Nat}(a:n*48<=140737488355328):c3 c4 ((n:Int)+1 -1)=(n:Int):=by
 rw[show(n:Int)+1 -1=(n:Int) by omega];rw[h8];omega
def Gb{a:List ay}(f:(a.length+1)*48<=140737488355328){d:Type}(b:Option d):mo a b=b:=by
 have c:c3 c4 (((a.length+1:Nat):Int) -1)=((a.length+0:Nat):Int):=by
  have:=SA (n:=a.length) (by omega);rw[show(((a.length+1:Nat):Int) -1)=(a.length:Int)+1 -1 by omega,this]
  rfl
 have e:ey (a.length+0) (a.length+0)=true:=Nat.beq_refl _;unfold mo;rw[decide_eq_true c,e]
 rfl
def aqb(c:Lp){d:List ay}(e:(d.length+1)*48<=140737488355328)(b:ay):(λa:List aM×Int=>tL c d b a.1 a.2)=λa=>qR c b.aH a.1 a.2:=by
 funext a
 obtain⟨h,i⟩:=a;unfold tL qR;rw[Gb e,Gb e];cases k:c5 (i<(b.aH.length:Int)) with
 |false=>rfl
 |true=>
  simp only[cond_true];cases f:aj h i with
  |none=>rfl
  |some j=>
   obtain⟨h0,g⟩:=xd f;rw[g];simp only[ef]
def Can(d:List ay)(a:List ay×Int)(e:En BT.D)(H0:List (Ob BT.D)):Prop:=
 (a.1=[]/\e=lJ d a.2 .bg/\H0=[])\/∃b f c,a.1=b++[(⟨f,c⟩:ay)]/\(b.length+1)*48<=140737488355328/\e=lJ d a.2 (.fl 0 1)/\H0=tH b f c
abbrev TZ:Type:=Nat×List (Nat×Bd BT.D)×TV BT.D×TV BT.D×TV BT.D×TV BT.D
def aiJ{s:Lp}{h:List ay}{A:List ay×Int}{R:En BT.D}{H0:List (Ob BT.D)}(f:Can h A R H0){o:(List ay×Int)⊕List ay}(a:lZ s h A.1 A.2=c6 o):
 ∃z:TZ,exec s BT dd (xJ s) 0 HO yZ 1 tK ⟨R,H0⟩=c6 z/\
  ((∃N,o= .inl N/\z.1=0/\∀c:St BT.D,tK 0 c=c6 z->∃E1 H1,Can h N E1 H1/\nj 73 (aU BT c.E) (av BT c.H) (aU BT E1) (av BT H1))\/
   (o= .inr A.1/\z.1=2/\∀c:St BT.D,tK 2 c=c6 z->(A.1=[]/\nj 73 (aU BT c.E) (av BT c.H) (aU BT [(4,.bg)]) (av BT []))\/nj 73 (aU BT c.E) (av BT c.H) (aU BT [(4,.fl 0 1)]) (av BT [⟨1,1,.aap 140 A.1⟩]))):=by
 obtain⟨out,i⟩:=A;have B:∀{c:St BT.D} {Q:Nat} {K:List (Nat×Bd BT.D)} {L:TV BT.D} {E:Int} {O:Nat},tK O c=c6 (Q,K,L,.int .i64 E,.row 140 h,.int .i64 (h.length:Int))->c.H.map (λo=>(o.aF,o.bd))=K/\vS c h E L:=λ{c Q K L E O} m=>by
  injection m with m
  injection m with _ m
  injection m with k1 m
  injection m with k2 m
  injection m with k3 m
  injection m with k4 k5
  exact⟨k1,⟨k2,k4,k5,k3⟩⟩
 rcases f with⟨y,rfl,rfl⟩ |⟨xs,d,j,y,G,rfl,rfl⟩
 .have y:out=[]:=y;subst y;have a:lZ s h [] i=c6 o:=a;unfold lZ at a;have b:=tB0 s h i
  by_cases C:i<(h.length:Int)
  .rw[decide_eq_true C,cond_true] at a b;obtain⟨k,J,a⟩:=fK a;rw[J,ef] at b;have a:((oM s k).bind λI=>(bj 48 [] [I]).bind λout=>c6 (o8 (out,c3 c4 (i+1))))=c6 o:=a;rw[Ll] at a;obtain⟨I,f,a⟩:=fK a;obtain⟨e,H,f⟩:=fK f;injection f with f
   subst f;obtain⟨P,l,a⟩:=fK a;injection a with a
   rw[H,ef] at b;refine⟨_,b,.inl ⟨_,a.symm,rfl,λc w=>?_⟩⟩
   obtain⟨x,t⟩:=B w;have l:c6 ([]++[(⟨e.2,e.1⟩:ay)])=c6 P:=l;injection l with l
   refine⟨lJ h (c3 c4 (i+1)) (.fl 0 1),tH [] e.2 e.1,.inr ⟨[],e.2,e.1,l.symm,by decide,rfl,rfl⟩,?_⟩
   have n:av BT c.H=[aY BT ⟨0,1,.box 140 [.row 3 k.aw,.row 142 k.aH]⟩,⟨142,2,e.1.map aM.enc,1⟩,⟨140,2,[.agg [.vs 1 (e.2.map (PV.int .i64)),.fl 1 1]],1⟩,⟨140,2,[.agg [.vs 1 (e.2.map (PV.int .i64)),.fl 1 1]],1⟩]:=by
    rw[xh,x]
    rfl
   exact H5 (p:=3) (v:=1) (q:=1) (u:=1) (xs:=[]) (E1:=[]) (fz:=λ_=>False) t (by rw[n];rfl) (by rw[n];rfl) (by decide) ⟨id,id⟩ rfl (λg k _ i E Z f=>by simp[abk] at f)
  .rw[decide_eq_false C,cond_false] at a b;injection a with a
   refine⟨_,b,.inr ⟨a.symm,rfl,λc w=>?_⟩⟩
   obtain⟨_,t⟩:=B w;exact .inl ⟨rfl,AR (Bz t.s4 .bg)⟩
 .have y:out=xs++[(⟨d,j⟩:ay)]:=y;subst y;have a:lZ s h (xs++[(⟨d,j⟩:ay)]) i=c6 o:=a;unfold lZ at a;have b:=tB1 s h i xs d j;have U:((xs++[(⟨d,j⟩:ay)]).length:Int)=(xs.length:Int)+1:=by simp
  by_cases C:i<(h.length:Int)
  .rw[decide_eq_true C,cond_true] at a b;obtain⟨k,J,a⟩:=fK a;rw[J,ef] at b;have W:(0:Int)<((xs.length+1:Nat):Int):=by omega
   rw[decide_eq_true W,cond_true,Gb G] at b;have X:(0:Int)<((xs++[(⟨d,j⟩:ay)]).length:Int):=by omega
   have S:c3 c4 (((xs++[(⟨d,j⟩:ay)]).length:Int) -1)=(xs.length:Int):=by rw[U];exact SA (by omega)
   have Y:aj (xs++[(⟨d,j⟩:ay)]) (xs.length:Int)=c6 ⟨d,j⟩:=by
    unfold aj;rw[if_pos (by omega),la,e6 (dv _),q5]
    rfl
   rw[decide_eq_true X,cond_true,S,Y] at a;simp only[ef] at a;obtain⟨T,n,a⟩:=fK a;rw[n] at b;simp only[ef] at b;cases T with
   |true=>
    simp only[cond_true] at a b;rw[aqb s G] at b;obtain⟨F,V,a⟩:=fK a;injection a with a
    rw[V,ef] at b;refine⟨_,b,.inl ⟨_,a.symm,rfl,λc w=>?_⟩⟩
    obtain⟨x,t⟩:=B w;refine⟨lJ h (c3 c4 (i+1)) (.fl 0 1),tH xs d F,.inr ⟨xs,d,F,?_,G,rfl,rfl⟩,?_⟩
    .show(xs++[(⟨d,j⟩:ay)]).set (xs.length:Int).toNat ⟨d,F⟩=_
     rw[la,List.set_append_right _ _ (dv _),q5]
     rfl
    .have n:av BT c.H=[⟨140,2,xs.map ay.enc++[.agg [.vs 1 (d.map (PV.int .i64)),.fl 1 1]],1⟩,⟨142,2,F.map aM.enc,1⟩,aY BT ⟨0,1,.box 140 [.row 3 k.aw,.row 142 k.aH]⟩]:=by
      rw[xh,x]
      rfl
     exact H5 (p:=0) (v:=1) (q:=1) (u:=1) (xs:=xs) (E1:=xs.map ay.enc) (fz:=λ_=>False) t (by rw[n];rfl) (by rw[n];rfl) (by decide) ⟨id,id⟩ (by rw[hq]) (λg k M=>Mt xs g k M)
   |false=>
    simp only[cond_false] at a b;rw[Ll] at a;obtain⟨I,f,a⟩:=fK a;obtain⟨e,H,f⟩:=fK f;injection f with f
    subst f;obtain⟨P,l,a⟩:=fK a;injection a with a
    rw[H,ef] at b;unfold bj at l
    split at l
    .rename_i D;injection l with l
     have D:(xs.length+1+1)*48<=140737488355328:=by simpa using D
     rw[ng D,cond_true] at b;refine⟨_,b,.inl ⟨_,a.symm,rfl,λc w=>?_⟩⟩
     obtain⟨x,t⟩:=B w;refine⟨lJ h (c3 c4 (i+1)) (.fl 0 1),tH (xs++[(⟨d,j⟩:ay)]) e.2 e.1,.inr ⟨xs++[(⟨d,j⟩:ay)],e.2,e.1,l.symm,by simpa using D,rfl,rfl⟩,?_⟩
     have n:av BT c.H=[⟨140,2,xs.map ay.enc++[.agg [.vs 1 (d.map (PV.int .i64)),.fl 1 1],.agg [.vs 1 (e.2.map (PV.int .i64)),.fl 3 1]],2⟩,⟨142,2,j.map aM.enc,1⟩,aY BT ⟨0,1,.box 140 [.row 3 k.aw,.row 142 k.aH]⟩,⟨142,2,e.1.map aM.enc,1⟩,⟨140,2,[.agg [.vs 1 (e.2.map (PV.int .i64)),.fl 3 1]],1⟩]:=by
      rw[xh,x]
      rfl
     exact H5 (p:=0) (v:=2) (q:=3) (u:=1) (xs:=xs++[(⟨d,j⟩:ay)]) (E1:=xs.map ay.enc++[.agg [.vs 1 (d.map (PV.int .i64)),.fl 1 1]]) (fz:=λr=>r=1) t (by rw[n,l3];rfl) (by rw[n];rfl) (by decide) ⟨by decide,by decide⟩ (by simp) (λg k M=>OC xs (by rw[n];rfl) g k M)
    .cases l
  .rw[decide_eq_false C,cond_false] at a b;injection a with a
   refine⟨_,b,.inr ⟨a.symm,rfl,λc w=>?_⟩⟩
   obtain⟨x,t⟩:=B w;refine .inr (aho t.s4 ?_)
   rw[xh,x]
   rfl
def UK(a:Lp)(al:FT (IP a))(Z:FT (Hy a))(P:FT (HG a))(ab:FT (xI a)):FT (uY a):=by
 have am:∀g,g∈xJ a->FT g:=λg j=>by
  simp only[xJ,hI,j4,or_false] at j;rcases j with rfl |rfl |rfl
  .exact al
  .exact Z
  .exact P
 have ag:∀g,g∈[AV]->FT g:=λg j=>by
  rw[eH] at j;subst j;exact KVw
 have W:∀g,g∈[xI a]->FT g:=λg j=>by
  rw[eH] at j;subst j;exact ab
 refine ti (rs:=[.tmp 2]) dM Tryz.func239 ajf rfl rfl rfl rfl λ(x:List ay) (r:List ay) w=>?_
 have w:((uv a x).bind λd=>a.loop (λc=>lZ a d c.1 c.2) (([]:List ay),(0:Int)))=c6 r:=w;obtain⟨d,aj,U⟩:=fK w;obtain⟨Q,ao⟩:=a.ok _ _ _ U;generalize V:qP BT (kL dd (uY a) [.tmp 2]) r=ah;refine Is f0 (tp0 a x) (by kernel_rfl) (λn b p h=>JP (f:=λS=>c6 (lk S.E 0)) p h) λaw B=>?_
 have B:lk aw.E 0= .row 140 x:=by injection B
 refine sS (AR (E0:=[(0,.row 140 x)]) (Bz B (.vs _ _))) ?_
 refine rN (Lc ?_)
 obtain⟨aA,M,ae,v⟩:=qg dM ag (WS x);injection v with v
 have an:M.H.map (λe=>(e.aF,e.bd))=[(1,.box 44 [.row 140 x])]:=congrArg (·.1) v;have O:lk M.E 10= .fn 326 [] [.ptr 0 1 0 0]:=congrArg (·.2) v;have R:ops BT dd [xI a] [] lm (λ_ S=>c6 (lk S.E 3)) 2 (lm.drop 2) [] ⟨[(10,.fn 326 [] [.vp [.row 140 x] 0])],[]⟩=c6 (.row 140 d):=by
  refine(Ur a x).trans ?_
  rw[aj]
  rfl
 obtain⟨az,I,ac,A⟩:=qg dM W R;injection A with A
 have af:∀e,e∈lm.take 2->fL 73 e.dst=true:=mL _ rfl;have ap:∀e,e∈lm.drop 2->fL 73 e.dst=true:=mL _ rfl;have y:∀o:fE,o .normal (aU BT I.E) (av BT I.H)->gp dd 73 0 lm.toArray (lm.take 2++lm.drop 2) o (aU BT [(0,(.row 140 x:TV BT.D))]) (av BT []):=λo E=>by
  refine RS (S:=(⟨[(0,.row 140 x)],[]⟩:St BT.D)) ae af (aos (ah6 (t:=44) (x:=x) O ?_) (yW (S:=(⟨[(10,.fn 326 [] [.vp [.row 140 x] 0])],[]⟩:St BT.D)) ac ap E))
  rw[xh,an]
  rfl
 have y:=λo E=>(k8 2 lm)▸y o E
 refine y _ ?_
 refine sS (AR (E0:=[(3,.row 140 d)]) (Bz A (.vs _ _))) ?_
 refine Is f0 (ajm a d) (by kernel_rfl) (λn b p h=>JP (f:=λS=>c6 (lk S.E 3,lk S.E 4)) p h) λaD u=>?_
 injection u with u
 refine sS (AR (E0:=[(3,.row 140 d),(4,.bg)]) (Xh (congrArg (·.1) u) (.vs _ _) (congrArg (·.2) u) .bg (by decide))) ?_
 refine rN (Is f0 (aoj a d) (by kernel_rfl) (λn b p h=>JP (f:=λS=>c6 (lk S.E 4,lk S.E 12,lk S.E 13,lk S.E 14)) p h) λau m=>?_)
 injection m with m
 have ad:vS au d 0 .bg:=⟨congrArg (·.1) m,congrArg (·.2.1) m,congrArg (·.2.2.1) m,congrArg (·.2.2.2) m⟩;refine Ta (Pz (QG (α:=Nat×(List ay×Int)) (λs L J=>fY (λc:List ay×Int=>lZ a d c.1 c.2) s.1 s.2=c6 r/\∃E0 H0,Can d s.2 E0 H0/\nj 73 L J (aU BT E0) (av BT H0)) (λs=>s.1) (Q,([],0)) ⟨ao,_,_,.inl ⟨rfl,rfl,rfl⟩,alW ad⟩ ?_))
 rintro⟨T,c⟩ L J ⟨i,E0,H0,ar,ai⟩;refine sS ai ?_
 cases T with
 |zero=>cases i
 |succ D=>
  have i:((lZ a d c.1 c.2).bind λe=>e.elim (fY (λc:List ay×Int=>lZ a d c.1 c.2) D) c6)=c6 r:=i;obtain⟨e,ak,i⟩:=fK i;obtain⟨z,X,F⟩:=aiJ ar ak;refine((gO mixed dM am yZ 1 _ ⟨E0,H0⟩ _ X (by kernel_rfl) (ei _)).mono nP).mono λaa aB ax l=>?_
  have first:∀n (b:St BT.D),tK n b=c6 z->z.1=n:=λn b h=>by
   injection h with h
   exact(congrArg (·.1) h).symm
  cases aa with
  |normal=>
   obtain⟨b,k,rfl,rfl⟩:=l;rcases F with⟨G,rfl,_,C⟩ |⟨_,N,_⟩
   .obtain⟨Y,H1,aq,q⟩:=C b k;exact⟨(D,G),Nat.lt_succ_self D,i,Y,H1,aq,q⟩
   .have:=first 0 b k
    omega
  |exit H=>
   obtain⟨b,k,rfl,rfl⟩:=l;have aC:=first (H+2) b k
   rcases F with⟨G,_,aE,_⟩ |⟨rfl,N,C⟩
   .omega
   .have:H=0:=by omega
    subst this;have K:c.1=r:=by
     have i:c6 c.1=c6 r:=i;injection i
    show eT dd 73 0 uc ah (aU BT b.E) (av BT b.H)
    subst V;rcases C b k with⟨h0,q⟩ |q
    .refine sS q ?_
     rw[<-K,h0];exact(gO mixed dM f0 uc 1 _ ⟨[(4,.bg)],[]⟩ _ (aa3 a) (by kernel_rfl) (ei _)).mono nP
    .refine sS q ?_
     rw[<-K];exact(gO mixed dM f0 uc 1 _ ⟨[(4,.fl 0 1)],[⟨1,1,.aap 140 c.1⟩]⟩ _ (tT1 a c.1) (by kernel_rfl) (ei _)).mono nP
  |ret=>
   obtain⟨b,k,_,_⟩:=l;have:=first 1 b k
   rcases F with⟨_,_,h,_⟩ |⟨_,h,_⟩ <;> omega
  |goto _=>exact l.elim
  |panic _=>exact l.elim
  |outgrown=>exact l.elim
end Go.X.T
namespace Go.X.T
open Go Go.Aml Go.Bml Go.X Go.Proofs
variable (L:Lp)
def K0:FT (C0 L):=kf [] f0 Tryz.func8
def K1:FT (C1 L):=kf [] f0 Tryz.func223
def K2:FT (C2 L):=kf [(12,⟨[],[(0,⟨[],[],[(17,.v 4)]⟩)],c7⟩),(58,⟨[],[(1,⟨[],[],[(2,.i .i64 1)]⟩),(2,⟨[],[],[]⟩)],c6 ⟨[],[],[(21,.v 3)]⟩⟩),(250,⟨[],[(1,⟨[],[],[(2,.v 67)]⟩),(4,⟨[],[],[]⟩)],c6 ⟨[],[],[(40,.v 3)]⟩⟩),(7474,⟨[],[(0,⟨[],[],[(32,.v 4)]⟩)],c7⟩),(64100,⟨[],[(0,⟨[],[],[(70,.v 4)]⟩)],c7⟩),(128204,⟨[],[(0,⟨[],[],[(88,.v 4)]⟩)],c7⟩),(128206,⟨[],[(0,⟨[],[],[(98,.v 4)]⟩)],c7⟩)] (fc (K1 L) f0) Tryz.func156
def K3:FT (C3 L):=kf [] (fc (K2 L) f0) Tryz.func93
def K4:FT (C4 L):=kf [(26,⟨[],[(1,⟨[],[],[(6,.b false)]⟩),(2,⟨[],[],[]⟩)],c6 ⟨[],[],[(11,.v 3)]⟩⟩),(3378,⟨[],[(0,⟨[],[],[(36,.v 4)]⟩)],c7⟩)] f0 Tryz.func135
def K5:FT (C5 L):=kf [] f0 Tryz.func51
def K6:FT (C6 L):=kf [] (fc (K4 L) (fc (K5 L) f0)) Tryz.func207
def K7:FT (C7 L):=kf [(26,⟨[],[(1,⟨[],[],[(4,.v 3)]⟩),(2,⟨[],[],[]⟩)],c6 ⟨[],[],[(8,.v 3)]⟩⟩)] (fc (K6 L) f0) Tryz.func267
def K8:FT (C8 L):=kf [] (fc (K7 L) f0) Tryz.func208
def K9:FT (C9 L):=kf [] (fc (K3 L) (fc (K8 L) f0)) Tryz.func140
def VY:FT (C10 L):=kf [] (fc (K5 L) f0) Tryz.func141
def K11:FT (Ye L):=kf [(26,⟨[],[(1,⟨[],[],[(4,.v 3)]⟩),(2,⟨[],[],[]⟩)],c6 ⟨[],[],[(8,.v 3)]⟩⟩)] (fc (VY L) f0) ee
def Zv:FT (C12 L):=kf [] (fc (K11 L) f0) ez
def HI:FT (C13 L):=kf [] f0 Tryz.func210
def K16:FT (C16 L):=kf [] (fc (K15 L) f0) Tryz.func268
def Iv:FT (C17 L):=kf [] (fc (K16 L) (fc (D5 L) f0)) Tryz.func209
def RX:FT (C18 L):=kf [] (fc (HI L) (fc (Iv L) (fc (K4 L) f0))) Tryz.func142
def K23:FT (C23 L):=kf [(506,⟨[],[(2,⟨[(2,true,.box 35 amj)],[],[]⟩)],c6 ⟨[(2,true,.box 35 (abx amj [(5,.r 3)]))],[(100002,[5],.aap 120 32)],[(31,.v 3)]⟩⟩),(4090,⟨[],[(4,⟨[(2,true,.box 35 amj)],[],[]⟩)],c6 ⟨[(2,true,.box 35 (abx amj [(8,.r 3)]))],[(100002,[8],.aap 22 33)],[(58,.v 3)]⟩⟩),(64819,⟨[3],[],c7⟩),(261785,⟨[4],[],c7⟩)] (fc (oh L) (fc (sP L) (fc (Md L) (fc (iY L) f0)))) j3
def K24:FT (Xu L):=kf [(56,⟨[],[(0,⟨[],[],[(18,.v 4)]⟩)],c7⟩),(126,⟨[],[(0,⟨[(2,true,.box 35 amj),(3,false,.dead),(4,false,.dead),(5,false,.dead)],[],[]⟩)],c7⟩),(250,⟨[],[(3,⟨[(2,true,.box 35 (abx amj [(6,.r 3),(7,.r 4),(8,.r 5)]))],[(100002,[6],.aap 3 22),(100002,[7],.aap 3 22),(100002,[8],.aap 22 33)],[]⟩)],c6 ⟨[(2,true,.box 35 [.v 27,.v 28,.v 3,.r 3,.v 22,.v 32,.r 4,.r 5,.r 6])],[(100002,[3],.aap 88 31),(100002,[6],.aap 3 22),(100002,[7],.aap 3 22),(100002,[8],.aap 22 33)],[(57,.v 3)]⟩⟩),(506,⟨[],[(5,⟨[(2,true,.box 35 (abx amj [(6,.r 3),(7,.r 4),(8,.r 5)])),(3,false,.aap 3 22),(4,false,.aap 3 22),(5,false,.aap 22 33)],[],[]⟩)],c6 ⟨[(2,true,.box 35 (abx amj [(6,.r 3),(7,.r 4),(8,.r 5)])),(3,false,.aap 3 22),(4,false,.aap 3 22),(5,false,.aap 22 33)],[],[(71,.v 3)]⟩⟩),(16025,⟨[4],[],c7⟩),(16204,⟨[2,6,11,12],[],c7⟩)] (fc (K9 L) (fc (K5 L) (fc (Zv L) (fc (RX L) (fc (K23 L) f0))))) Tryz.func83
def K25:FT (C25 L):=kf [] f0 Tryz.func213
def Vl:FT (C26 L):=kf [(26,⟨[],[(1,⟨[],[],[(4,.v 3)]⟩),(2,⟨[],[],[]⟩)],c6 ⟨[],[],[(8,.v 3)]⟩⟩)] (fc (K25 L) f0) Tryz.func270
def K27:FT (C27 L):=kf [] (fc (Vl L) f0) Tryz.func212
def Aq:FT (C28 L):=kf [] (fc (K3 L) (fc (K27 L) f0)) Tryz.func144
def K29:FT (Wx L):=kf [] f0 Tryz.func272
def NZ:FT (C30 L):=kf [] (fc (K29 L) f0) Tryz.func214
def K31:FT (C31 L):=kf [(60,⟨[],[(0,⟨[],[],[(26,.v 4)]⟩)],c7⟩),(508,⟨[],[(2,⟨[(0,true,.aap 3 22)],[],[]⟩)],c6 ⟨[(0,true,.aap 3 22)],[],[(8,.v 3)]⟩⟩)] (fc (NZ L) f0) xv
def Ca:FT (ZB L):=kf [(60,⟨[],[(0,⟨[],[],[(26,.v 4)]⟩)],c7⟩),(508,⟨[],[(2,⟨[(0,true,.aap 3 22)],[],[]⟩)],c6 ⟨[(0,true,.aap 3 22)],[],[(8,.v 3)]⟩⟩)] (fc (NZ L) f0) xv
def Ja:FT (C33 L):=kf [(12,⟨[],[(0,⟨[],[],[(29,.v 4)]⟩)],c7⟩),(125,⟨[],[(0,⟨[(3,true,.box 90 [.v 3,.v 3])],[],[]⟩)],c7⟩),(509,⟨[],[(0,⟨[],[],[(11,.v 3)]⟩)],c7⟩),(8170,⟨[],[(0,⟨[],[],[(70,.v 4)]⟩)],c7⟩)] f0 Tryz.func242
def K34:FT (C34 L):=kf [(28,⟨[],[(0,⟨[],[],[(56,.v 4)]⟩)],c7⟩)] (fc (Ja L) f0) Tryz.func215
def DW:FT (C35 L):=kf [(14,⟨[],[(2,⟨[(0,true,.aap 3 22)],[],[]⟩)],c6 ⟨[(0,true,.aap 3 22)],[],[(2,.v 4)]⟩⟩),(918,⟨[],[(4,⟨[(0,true,.aap 3 22)],[],[(2,.v 4)]⟩)],c6 ⟨[(0,true,.aap 3 22)],[],[(2,.v 4),(12,.v 3)]⟩⟩),(235111,⟨[],[(0,⟨[],[],[(2,.v 4)]⟩)],c7⟩)] (fc (K34 L) f0) Tryz.func146
def UT:FT (C36 L):=kf [(14,⟨[0],[],c7⟩),(122,⟨[],[(3,⟨[(2,true,.aap 3 22)],[],[]⟩)],c6 ⟨[(2,true,.aap 3 22)],[],[(40,.v 3)]⟩⟩)] (fc (Aq L) (fc (K4 L) (fc (K5 L) (fc (Ca L) (fc (DW L) f0))))) A4
def KB:FT (C37 L):=kf [] (fc (K3 L) (fc (K4 L) (fc (K5 L) f0))) Tryz.func70
def vO:FT (C38 L):=kf [(12,⟨[],[(0,⟨[],[],[(32,.v 4)]⟩)],c7⟩),(3773,⟨[],[(0,⟨[],[],[(50,.v 4)]⟩)],c7⟩),(15095,⟨[],[(0,⟨[],[],[(50,.v 4)]⟩)],c7⟩)] (fc (K4 L) (fc (K5 L) f0)) Tryz.func85
def K39:FT (C39 L):=kf [] (fc (K5 L) f0) Tryz.func87
def K40:FT (C40 L):=kf [(26,⟨[],[(1,⟨[],[],[(4,.v 3)]⟩),(2,⟨[],[],[]⟩)],c6 ⟨[],[],[(8,.v 3)]⟩⟩)] (fc (K39 L) f0) ee
def K41:FT (C41 L):=kf [] (fc (K40 L) f0) ez
def OS:FT (C42 L):=kf [] (fc (K5 L) (fc (K4 L) f0)) Tryz.func148
def K43:FT (Vx L):=kf [(14,⟨[4],[],c7⟩)] (fc (OS L) (fc (iY L) f0)) Tryz.func88
def PY:FT (C44 L):=kf [] (fc (HI L) (fc (Iv L) (fc (K4 L) f0))) Tryz.func149
def RR:FT (C45 L):=kf [(6,⟨[0],[],c7⟩)] (fc (Ca L) f0) Tryz.func216
def Uq:FT (YG L):=kf [] f0 Tryz.func330
def SX:FT (C47 L):=kf [(28,⟨[],[(0,⟨[],[],[(23,.v 4)]⟩)],c7⟩),(125,⟨[],[(0,⟨[],[],[(10,.v 3)]⟩)],c7⟩),(1017,⟨[],[(0,⟨[],[],[(11,.v 3)]⟩)],c7⟩),(4071,⟨[],[(0,⟨[],[],[(11,.v 3)]⟩)],c7⟩)] f0 Tryz.func137
def X3:FT (Ux L):=kf [] (fc (Uq L) (fc (SX L) f0)) Tryz.func309
def Fo:FT (C49 L):=kf [(12,⟨[],[(0,⟨[],[],[(20,.v 4)]⟩)],c7⟩)] (fc (K3 L) (fc (X3 L) f0)) Tryz.func276
def K50:FT (C50 L):=kf [] f0 Tryz.func218
def YO:FT (Xk L):=kf [(6,⟨[],[(0,⟨[],[],[(27,.v 4)]⟩)],c7⟩)] (fc (K50 L) f0) xx
def OM:FT (C53 L):=kf [(14,⟨[],[(2,⟨[(0,true,.aap 3 22),(1,true,.box 22 [.r 0]),(2,true,.box 4 [.v 4])],[],[]⟩)],c6 ⟨[(0,true,.aap 3 22),(1,true,.box 22 [.r 0]),(2,true,.box 4 [.v 4])],[],[(16,.v 3)]⟩⟩),(3686,⟨[],[(4,⟨[(0,true,.aap 3 22),(1,true,.box 22 [.r 0]),(2,true,.box 4 [.v 4])],[],[]⟩)],c6 ⟨[(0,true,.aap 3 22),(1,true,.box 22 [.r 0]),(2,true,.box 4 [.v 4])],[],[(22,.v 3)]⟩⟩),(1887437,⟨[],[(0,⟨[],[],[(10,.v 3),(11,.v 3)]⟩)],c7⟩),(3774878,⟨[],[(0,⟨[],[],[(44,.v 4)]⟩)],c7⟩),(3774879,⟨[],[(0,⟨[(0,true,.aap 3 22),(1,true,.box 22 [.r 0]),(2,true,.box 4 [.v 4])],[],[]⟩)],c7⟩)] (fc (Fo L) (fc (YO L) f0)) y0
def QF:FT (Up L):=kf [(58,⟨[],[(2,⟨[(3,true,.aap 3 22),(4,true,.box 22 [.r 3]),(5,false,.dead)],[],[]⟩)],c6 ⟨[(3,true,.aap 3 22),(4,true,.box 22 [.r 3]),(5,false,.dead)],[(10,[],.box 4 [.v 4])],[(10,.p 6)]⟩⟩)] (fc (oH L) (fc (OM L) f0)) q6
def Cy:FT (C55 L):=kf [(58,⟨[],[(2,⟨[(3,true,.aap 3 22),(4,true,.box 22 [.r 3]),(5,false,.dead)],[],[]⟩)],c6 ⟨[(3,true,.aap 3 22),(4,true,.box 22 [.r 3]),(5,false,.dead)],[(10,[],.box 4 [.v 4])],[(10,.p 6)]⟩⟩)] (fc (oH L) (fc (OM L) f0)) q6
def K56:FT (C56 L):=kf [] (fc (K3 L) (fc (K5 L) (fc (RR L) (fc (Cy L) f0)))) Tryz.func150
def K57:FT (C57 L):=kf [(24,⟨[],[(0,⟨[],[],[(15,.v 4)]⟩)],c7⟩),(62,⟨[1],[],c7⟩),(122,⟨[],[(1,⟨[(1,true,.box 46 [.v 44]),(2,false,.dead)],[],[(9,.v 67)]⟩),(3,⟨[(2,true,.box 140 [.v 22,.v 138])],[],[]⟩)],c6 ⟨[(2,true,.box 140 [.v 22,.r 3])],[(100002,[1],.aap 142 138)],[(43,.v 3)]⟩⟩),(31335,⟨[3],[],c7⟩)] (fc (K3 L) (fc (K5 L) (fc (PY L) (fc (iY L) (fc (K56 L) f0))))) Tryz.func89
def K58:FT (C58 L):=kf [(6,⟨[0,2],[],c7⟩)] (fc (K31 L) f0) Tryz.func90
def K59:FT (C59 L):=kf [] (fc (K5 L) f0) Tryz.func152
def UI:FT (C60 L):=kf [(26,⟨[],[(1,⟨[],[],[(4,.v 3)]⟩),(2,⟨[],[],[]⟩)],c6 ⟨[],[],[(8,.v 3)]⟩⟩)] (fc (K59 L) f0) ee
def K61:FT (C61 L):=kf [] (fc (UI L) f0) ez
def MB:FT (C62 L):=kf [] (fc (K5 L) (fc (Fo L) f0)) Tryz.func222
def K63:FT (X9 L):=kf [] (fc (K5 L) (fc (MB L) f0)) Tryz.func155
def K64:FT (C64 L):=kf [] (fc (K63 L) f0) Tryz.func154
def K65:FT (C65 L):=kf [(26,⟨[],[(1,⟨[],[],[(4,.v 3)]⟩),(2,⟨[],[],[]⟩)],c6 ⟨[],[],[(8,.v 3)]⟩⟩)] (fc (K64 L) f0) q7
def K66:FT (C66 L):=kf [] (fc (K65 L) f0) q8
def xC:FT (Kf L):=kf [(28,⟨[],[(0,⟨[],[],[(62,.v 4)]⟩)],c7⟩),(122,⟨[],[(1,⟨[],[],[(2,.b false)]⟩),(2,⟨[],[],[]⟩)],c6 ⟨[],[],[(66,.v 3)]⟩⟩),(31332,⟨[],[(0,⟨[],[],[(111,.v 4)]⟩)],c7⟩)] (fc (K9 L) (fc (K5 L) (fc (RX L) (fc (K61 L) (fc (K66 L) f0))))) Tryz.func92
def K68:FT (Xw L):=kf [(12,⟨[],[(0,⟨[],[],[(16,.v 4)]⟩)],c7⟩)] f0 Tryz.func159
def RP:FT (C70 L):=kf [(506,⟨[],[(2,⟨[(2,true,.box 35 (abx amj [(3,.r 3)]))],[],[]⟩)],c6 ⟨[(2,true,.box 35 (abx amj [(3,.r 3),(5,.r 4)]))],[(100002,[5],.aap 120 32)],[(31,.v 3)]⟩⟩),(4090,⟨[],[(4,⟨[(2,true,.box 35 (abx amj [(3,.r 3)]))],[],[]⟩)],c6 ⟨[(2,true,.box 35 (abx amj [(3,.r 3),(8,.r 4)]))],[(100002,[8],.aap 22 33)],[(58,.v 3)]⟩⟩),(64819,⟨[3],[],c7⟩),(261785,⟨[4],[],c7⟩)] (fc (oh L) (fc (sP L) (fc (O8 L) (fc (iY L) f0)))) j3
def zh:FT (C71 L):=kf [(250,⟨[],[(3,⟨[(2,true,.aap 88 31)],[],[]⟩)],c6 ⟨[(2,true,.aap 88 31)],[],[(36,.v 3)]⟩⟩),(4006,⟨[],[(0,⟨[(2,true,.aap 88 31)],[],[]⟩)],c7⟩),(256411,⟨[],[(0,⟨[(4,true,.box 88 (alh [3,3,3]))],[],[]⟩)],c7⟩)] (fc (xC L) (fc (K5 L) (fc (RP L) (fc (K68 L) f0)))) Tryz.func95
def SU:FT (C73 L):=kf [(58,⟨[],[(2,⟨[],[],[(3,.v 41)]⟩)],c6 ⟨[],[(3,[],.aap 101 41)],[(3,.r 0),(8,.v 3)]⟩⟩),(7475,⟨[2],[],c7⟩)] (fc (iY L) f0) y1
def Xr:FT (Xj L):=kf [(58,⟨[],[(2,⟨[(2,true,.box 140 [.v 22,.v 138])],[],[]⟩)],c6 ⟨[(2,true,.box 140 [.v 22,.r 3])],[(100002,[1],.aap 142 138)],[(13,.v 3)]⟩⟩),(3737,⟨[8],[],c7⟩)] (fc (iY L) f0) qa
def Hc:FT (C75 L):=kf [(58,⟨[],[(2,⟨[(2,true,.box 46 [.v 44])],[],[]⟩)],c6 ⟨[(2,true,.box 46 [.r 3])],[(100002,[0],.aap 140 44)],[(9,.v 3)]⟩⟩),(3737,⟨[4],[],c7⟩)] (fc (Xr L) f0) Tryz.func101
def NB:FT (C77 L):=kf [(262138,⟨[],[(2,⟨[(2,true,.box 56 amv)],[],[]⟩)],c6 ⟨[(2,true,.box 56 (abx amv [(35,.r 3)]))],[(100002,[35],.aap 83 54)],[(104,.v 3)]⟩⟩),(33553715,⟨[3],[],c7⟩)] (fc (zh L) (fc (oh L) (fc (sP L) (fc (G7 L) (fc (iY L) (fc (SU L) (fc (Hc L) (fc (IE L) f0)))))))) s5
def Py:FT (C78 L):=kf [(122,⟨[],[(0,⟨[],[],[(70,.v 4)]⟩)],c7⟩),(2046,⟨[7],[],c7⟩)] (fc (K24 L) (fc (UT L) (fc (KB L) (fc (vO L) (fc (K41 L) (fc (K43 L) (fc (K57 L) (fc (K58 L) (fc (NB L) f0))))))))) Tryz.func36
def K79:FT (C79 L):=kf [] (fc (K5 L) f0) Tryz.func157
def K80:FT (C80 L):=kf [(26,⟨[],[(1,⟨[],[],[(4,.v 3)]⟩),(2,⟨[],[],[]⟩)],c6 ⟨[],[],[(8,.v 3)]⟩⟩)] (fc (K79 L) f0) ee
def K81:FT (C81 L):=kf [] (fc (K80 L) f0) ez
def K82:FT (C82 L):=kf [] f0 Tryz.func224
def K83:FT (Z5 L):=kf [(26,⟨[],[(1,⟨[],[],[(4,.v 3)]⟩),(2,⟨[],[],[]⟩)],c6 ⟨[],[],[(8,.v 3)]⟩⟩)] (fc (K82 L) f0) ee
def K84:FT (C84 L):=kf [] (fc (K83 L) f0) ez
def Mo:FT (Wg L):=kf [] (fc (K84 L) f0) Tryz.func158
def sA:FT (C86 L):=kf [] (fc (OS L) (fc (K81 L) (fc (Mo L) f0))) Tryz.func94
def K87:FT (C87 L):=kf [] (fc (xC L) (fc (K3 L) (fc (sA L) f0))) Tryz.func43
def Ps:FT (C89 L):=kf [(58,⟨[],[(2,⟨[],[(3,[],.aap 3 22)],[(3,.r 1)]⟩)],c6 ⟨[],[(3,[],.aap 3 22)],[(3,.r 1),(9,.v 3)]⟩⟩),(7474,⟨[],[(0,⟨[],[],[(26,.v 4)]⟩)],c7⟩),(7475,⟨[],[(0,⟨[(1,false,.aap 3 22)],[],[(3,.r 1)]⟩)],c7⟩),(14950,⟨[2],[],c7⟩)] (fc (D5 L) f0) Tryz.func161
def Hj:FT (C90 L):=kf [(26,⟨[],[(1,⟨[],[],[(4,.v 3)]⟩),(2,⟨[],[],[]⟩)],c6 ⟨[],[],[(8,.v 3)]⟩⟩)] f0 Tryz.func136
def jP:FT (Fz L):=kf [] (fc (Hj L) f0) Tryz.func76
def K94:FT (nD L):=ae3 L (xC L) (K5 L) (jP L)
def Ru:FT (lT L):=kf [(58,⟨[],[(1,⟨[],[],[(4,.i .i64 19)]⟩),(2,⟨[],[],[]⟩)],c6 ⟨[],[],[(12,.v 3)]⟩⟩)] (fc (xC L) (fc (K5 L) f0)) Tryz.func226
def aiW:FT (mG L):=KS L (Ru L)
def K93:FT (C93 L):=kf [(12,⟨[2],[],c7⟩)] (fc (Ru L) (fc (MB L) (fc (K5 L) (fc (RP L) f0)))) Tryz.func162
def Wv:FT (C95 L):=kf [(58,⟨[],[(2,⟨[],[(3,[],.aap 101 41)],[(3,.r 0)]⟩)],c6 ⟨[],[(3,[],.aap 101 41)],[(3,.r 0),(8,.v 3)]⟩⟩),(7475,⟨[2],[],c7⟩)] (fc (iY L) f0) y1
def vf:FT (JX L):=kf [] (fc (K5 L) (fc (K4 L) f0)) z8
def ZZ:FT (C97 L):=kf [(26,⟨[],[(2,⟨[(0,false,.aap 5 95)],[],[(0,.r 0)]⟩)],c6 ⟨[(0,false,.aap 5 95)],[],[(0,.r 0),(7,.v 3)]⟩⟩),(420,⟨[7],[],c7⟩)] f0 Tryz.func79
def Xd:FT (C98 L):=kf [(62,⟨[5],[],c7⟩),(506,⟨[],[(2,⟨[(3,false,.dead)],[],[(4,.v 95)]⟩)],c6 ⟨[(3,false,.dead)],[(4,[],.aap 5 95)],[(4,.r 4),(30,.v 3)]⟩⟩)] (fc (vf L) (fc (ZZ L) f0)) Tryz.func30
def K99:FT (Ks L):=kf [(58,⟨[],[(2,⟨[],[],[(3,.v 179)]⟩)],c6 ⟨[],[],[(3,.v 179),(8,.v 3)]⟩⟩)] f0 Tryz.func81
def aaH:FT (H7 L):=kf [] f0 Tryz.func82
def afL:FT (kq L):=Yb L (K5 L) (vf L) (K99 L) (aaH L)
def akD:FT (Xc L):=kf [] (fc (K5 L) f0) Tryz.func279
def aiq:FT (adu L):=kf [(26,⟨[],[(1,⟨[],[],[(4,.v 3)]⟩),(2,⟨[],[],[]⟩)],c6 ⟨[],[],[(8,.v 3)]⟩⟩)] (fc (akD L) f0) ee
def ano:FT (ai3 L):=kf [] (fc (aiq L) f0) ez
def ald:FT (Z9 L):=kf [] (fc (K5 L) f0) Tryz.func280
def aqh:FT (afS L):=kf [(26,⟨[],[(1,⟨[],[],[(4,.v 3)]⟩),(2,⟨[],[],[]⟩)],c6 ⟨[],[],[(8,.v 3)]⟩⟩)] (fc (ald L) f0) ee
def an2:FT (aln L):=kf [] (fc (aqh L) f0) ez
def WK:FT (Uu L):=kf [(6,⟨[19],[],c7⟩)] (fc (ano L) (fc (an2 L) f0)) Tryz.func227
def acy:FT (aif L):=kf [(124,⟨[],[(0,⟨[],[],[(40,.v 4)]⟩)],c7⟩)] (fc (WK L) (fc (vf L) (fc (oH L) f0))) Tryz.func164
def aac:FT (anP L):=kf [(506,⟨[],[(2,⟨[],[],[(7,.v 247)]⟩)],c6 ⟨[],[(7,[],.aap 251 247)],[(7,.r 1),(27,.v 3)]⟩⟩),(32409,⟨[14],[],c7⟩)] (fc (vf L) f0) Tryz.func165
def mI:FT (acZ L):=kf [] f0 Tryz.func169
def Bs:FT (IP L):=kf [(58,⟨[],[(1,⟨[],[],[(4,.b false)]⟩),(2,⟨[],[],[]⟩)],c6 ⟨[],[],[(13,.v 3)]⟩⟩)] f0 Tryz.func196
def ah5:FT (ZA L):=kf [] (fc (K5 L) f0) Tryz.func336
def amW:FT (afj L):=kf [(26,⟨[],[(1,⟨[],[],[(4,.v 3)]⟩),(2,⟨[],[],[]⟩)],c6 ⟨[],[],[(8,.v 3)]⟩⟩)] (fc (ah5 L) f0) ee
def akT:FT (akW L):=kf [] (fc (amW L) f0) ez
def KO:FT (ab7 L):=kf [] (fc (K5 L) (fc (akT L) f0)) Tryz.func323
def Sw:FT (ahK L):=kf [] (fc (K3 L) (fc (KO L) (fc (QF L) (fc (Bs L) f0)))) Tryz.func290
def Wl:FT (ane L):=kf [] (fc (Sw L) f0) Tryz.func289
def aqy:FT (WA L):=kf [(26,⟨[],[(1,⟨[],[],[(4,.v 3)]⟩),(2,⟨[],[],[]⟩)],c6 ⟨[],[],[(8,.v 3)]⟩⟩)] (fc (Wl L) f0) y2
def ZM:FT (aiv L):=kf [] (fc (aqy L) f0) y3
def aeY:FT (ZD L):=kf [] f0 Tryz.func307
def Og:FT (afm L):=kf [] (fc (aeY L) f0) Tryz.func266
def Qb:FT (akZ L):=kf [(26,⟨[],[(1,⟨[],[],[(4,.v 3)]⟩),(2,⟨[],[],[]⟩)],c6 ⟨[],[],[(11,.v 3)]⟩⟩)] (fc (Og L) f0) Tryz.func288
def wY:FT (aca L):=kf [(12,⟨[],[(0,⟨[],[],[(17,.v 4)]⟩)],c7⟩),(122,⟨[],[(1,⟨[],[],[(4,.b false)]⟩),(2,⟨[],[],[]⟩)],c6 ⟨[],[],[(28,.v 3)]⟩⟩),(31332,⟨[],[(0,⟨[],[],[(33,.v 4)]⟩)],c7⟩),(501342,⟨[],[(0,⟨[],[],[(62,.v 4)]⟩)],c7⟩)] (fc (K3 L) (fc (K5 L) (fc (HI L) (fc (Iv L) (fc (PY L) (fc (Bs L) (fc (Qb L) (fc (ZM L) f0)))))))) Tryz.func235
def Rb:FT (ahM L):=kf [(24,⟨[],[(0,⟨[],[],[(11,.v 4)]⟩)],c7⟩),(102,⟨[],[(0,⟨[],[],[(30,.v 4)]⟩)],c7⟩)] (fc (Sw L) (fc (K4 L) (fc (K5 L) f0))) Tryz.func281
def aii:FT (ani L):=kf [(250,⟨[],[(2,⟨[(3,true,.aap 3 22)],[],[(14,.v 4)]⟩)],c6 ⟨[(3,true,.aap 3 22)],[],[(14,.v 4),(36,.v 3)]⟩⟩),(32051,⟨[],[(0,⟨[(3,true,.aap 3 22)],[],[(14,.v 4)]⟩)],c7⟩)] (fc (Rb L) (fc (RR L) (fc (Cy L) f0))) Tryz.func230
def yz:FT (HG L):=kf [(58,⟨[],[(2,⟨[(2,true,.box 140 [.v 22,.r 3])],[(100002,[1],.aap 142 138)],[]⟩)],c6 ⟨[(2,true,.box 140 [.v 22,.r 3])],[(100002,[1],.aap 142 138)],[(13,.v 3)]⟩⟩),(3737,⟨[8],[],c7⟩)] (fc (iY L) f0) qa
def VK:FT (aj2 L):=kf [] (fc (aii L) f0) Tryz.func229
def ap7:FT (apN L):=kf [(250,⟨[],[(1,⟨[(0,true,.box 30 [.v 27,.v 28]),(1,true,.box 22 [.v 22]),(2,true,.box 3 [.v 3]),(3,true,.box 3 [.v 3]),(6,true,.box 46 [.v 44]),(7,false,.dead)],[],[(9,.v 67)]⟩),(2,⟨[(0,true,.box 30 [.v 27,.v 28]),(1,true,.box 22 [.v 22]),(2,true,.box 3 [.v 3]),(3,true,.box 3 [.v 3]),(7,true,.box 46 [.v 44])],[],[]⟩)],c6 ⟨[(0,true,.box 30 [.v 27,.v 28]),(1,true,.box 22 [.v 22]),(2,true,.box 3 [.v 3]),(3,true,.box 3 [.v 3]),(7,true,.box 46 [.r 8])],[(100007,[0],.aap 140 44)],[(34,.v 3)]⟩⟩),(4006,⟨[],[(0,⟨[(0,true,.box 30 [.v 27,.v 28]),(1,true,.box 22 [.v 22]),(2,true,.box 3 [.v 3]),(3,true,.box 3 [.v 3]),(7,true,.box 46 [.r 8]),(8,false,.aap 140 44)],[],[]⟩),(1,⟨[(0,true,.box 30 [.v 27,.v 28]),(1,true,.box 22 [.v 22]),(2,true,.box 3 [.v 3]),(3,true,.box 3 [.v 3]),(6,true,.box 46 [.v 44])],[],[(9,.v 67)]⟩)],c7⟩),(256414,⟨[],[(0,⟨[(10,false,.dead),(11,true,.box 140 [.v 22,.v 138])],[],[]⟩),(1,⟨[(6,true,.box 46 [.v 44]),(10,false,.dead),(11,false,.dead)],[],[(9,.v 67)]⟩),(3,⟨[(10,false,.dead),(11,false,.dead)],[],[]⟩)],c7⟩),(256415,⟨[3],[],c7⟩),(4102633,⟨[],[(0,⟨[],[],[(55,.v 4)]⟩)],c7⟩),(32821087,⟨[],[(0,⟨[(10,true,.aap 142 138)],[],[]⟩)],c7⟩)] (fc (wY L) (fc (jP L) (fc (Hj L) (fc (yz L) (fc (VK L) f0))))) y4
def Zr:FT (ZF L):=kf [] (fc (ap7 L) f0) Tryz.func168
def zQ:FT (aki L):=kf [] f0 Tryz.func173
def aci:FT (acb L):=kf [(122,⟨[],[(3,⟨[(2,true,.aap 115 28)],[],[]⟩)],c6 ⟨[(2,true,.aap 115 28)],[],[(32,.v 3)]⟩⟩)] (fc (K3 L) (fc (K4 L) (fc (oh L) (fc (yo L) f0)))) y5
def ahh:FT (apu L):=kf [(122,⟨[],[(3,⟨[(3,true,.aap 115 28)],[],[]⟩)],c6 ⟨[(3,true,.aap 115 28)],[],[(32,.v 3)]⟩⟩)] (fc (K3 L) (fc (K4 L) (fc (akq L) (fc (yo L) f0)))) y5
def Ch:FT (aez L):=kf [] (fc (ahh L) f0) Tryz.func174
def ajX:FT (Uz L):=kf [] (fc (vf L) f0) Tryz.func283
def ahU:FT (abd L):=kf [(26,⟨[],[(1,⟨[],[],[(4,.v 3)]⟩),(2,⟨[],[],[]⟩)],c6 ⟨[],[],[(8,.v 3)]⟩⟩)] (fc (ajX L) f0) Tryz.func321
def amJ:FT (agV L):=kf [] (fc (ahU L) f0) Tryz.func282
def akJ:FT (Xm L):=kf [(86,⟨[6],[],c7⟩)] f0 y6
def apE:FT (adF L):=kf [] f0 Tryz.func285
def YT:FT (an9 L):=kf [(86,⟨[6],[],c7⟩)] f0 y6
def V9:FT (X2 L):=kf [(414,⟨[],[(0,⟨[],[],[(24,.v 4)]⟩)],c7⟩),(510,⟨[1],[],c7⟩),(1018,⟨[],[(3,⟨[(0,true,.box 3 [.v 3]),(1,true,.box 3 [.v 3]),(2,true,.box 120 (alh [22,3,3,3])),(3,true,.box 309 [.r 5]),(4,true,.box 41 [.v 41])],[(100003,[0],.aap 312 309)],[]⟩)],c6 ⟨[(0,true,.box 3 [.v 3]),(1,true,.box 3 [.v 3]),(2,true,.box 120 (alh [22,3,3,3])),(3,true,.box 309 [.r 5]),(4,true,.box 41 [.r 6])],[(100003,[0],.aap 312 309),(100004,[0],.aap 101 41)],[(44,.v 3)]⟩⟩),(16294,⟨[],[(0,⟨[(0,true,.box 3 [.v 3]),(1,true,.box 3 [.v 3]),(2,true,.box 120 (alh [22,3,3,3])),(3,true,.box 309 [.r 7]),(4,true,.box 41 [.r 8]),(5,false,.dead),(6,false,.dead)],[(100003,[0],.aap 312 309),(100004,[0],.aap 101 41)],[]⟩)],c7⟩),(521423,⟨[2],[],c7⟩),(2085690,⟨[],[(0,⟨[],[],[(72,.v 4)]⟩)],c7⟩),(2085691,⟨[],[(0,⟨[(0,true,.box 3 [.v 3]),(1,true,.box 3 [.v 3]),(2,true,.box 120 (alh [22,3,3,3])),(3,true,.box 309 [.r 8]),(4,true,.box 41 [.r 9]),(5,false,.dead),(6,false,.dead)],[(100003,[0],.aap 312 309),(100004,[0],.aap 101 41)],[]⟩)],c7⟩)] (fc (amJ L) (fc (K5 L) (fc (jP L) (fc (YT L) (fc (apE L) (fc (akJ L) f0)))))) Tryz.func231
def abW:FT (ad1 L):=kf [] f0 Tryz.func234
def ZC:FT (aqG L):=kf [] (fc (jP L) f0) Tryz.func322
def aeH:FT (aaz L):=kf [(6,⟨[],[(0,⟨[],[],[(27,.v 4)]⟩)],c7⟩)] (fc (ZC L) f0) xx
def acC:FT (agm L):=kf [(14,⟨[],[(2,⟨[(0,true,.aap 3 22),(1,true,.box 22 [.r 0]),(2,true,.box 4 [.v 4])],[],[]⟩)],c6 ⟨[(0,true,.aap 3 22),(1,true,.box 22 [.r 0]),(2,true,.box 4 [.v 4])],[],[(16,.v 3)]⟩⟩),(3686,⟨[],[(4,⟨[(0,true,.aap 3 22),(1,true,.box 22 [.r 0]),(2,true,.box 4 [.v 4])],[],[]⟩)],c6 ⟨[(0,true,.aap 3 22),(1,true,.box 22 [.r 0]),(2,true,.box 4 [.v 4])],[],[(22,.v 3)]⟩⟩),(1887437,⟨[],[(0,⟨[],[],[(10,.v 3),(11,.v 3)]⟩)],c7⟩),(3774878,⟨[],[(0,⟨[],[],[(44,.v 4)]⟩)],c7⟩),(3774879,⟨[],[(0,⟨[(0,true,.aap 3 22),(1,true,.box 22 [.r 0]),(2,true,.box 4 [.v 4])],[],[]⟩)],c7⟩)] (fc (Fo L) (fc (aeH L) f0)) y0
def ahB:FT (WE L):=kf [(58,⟨[],[(2,⟨[(3,true,.aap 3 22),(4,true,.box 22 [.r 3]),(5,false,.dead)],[],[]⟩)],c6 ⟨[(3,true,.aap 3 22),(4,true,.box 22 [.r 3]),(5,false,.dead)],[(10,[],.box 4 [.v 4])],[(10,.p 6)]⟩⟩)] (fc (oH L) (fc (acC L) f0)) q6
def amf:FT (ac6 L):=kf [(122,⟨[],[(3,⟨[(4,true,.aap 3 22)],[],[]⟩)],c6 ⟨[(4,true,.aap 3 22)],[],[(55,.v 3)]⟩⟩),(126,⟨[4],[],c7⟩)] (fc (Rb L) (fc (K5 L) (fc (oH L) (fc (ahB L) (fc (Cy L) f0))))) Tryz.func287
def akb:FT (aiE L):=kf [] (fc (amf L) f0) Tryz.func286
def ao8:FT (WU L):=kf [(250,⟨[],[(1,⟨[(0,true,.box 30 [.v 27,.v 28]),(1,true,.box 22 [.v 22]),(2,true,.box 3 [.v 3]),(3,true,.box 3 [.v 3]),(4,true,.box 3 [.v 3]),(7,true,.box 46 [.v 44]),(8,false,.dead)],[],[(9,.v 67)]⟩),(2,⟨[(0,true,.box 30 [.v 27,.v 28]),(1,true,.box 22 [.v 22]),(2,true,.box 3 [.v 3]),(3,true,.box 3 [.v 3]),(4,true,.box 3 [.v 3]),(8,true,.box 46 [.v 44])],[],[]⟩)],c6 ⟨[(0,true,.box 30 [.v 27,.v 28]),(1,true,.box 22 [.v 22]),(2,true,.box 3 [.v 3]),(3,true,.box 3 [.v 3]),(4,true,.box 3 [.v 3]),(8,true,.box 46 [.r 9])],[(100008,[0],.aap 140 44)],[(34,.v 3)]⟩⟩),(4006,⟨[],[(0,⟨[(0,true,.box 30 [.v 27,.v 28]),(1,true,.box 22 [.v 22]),(2,true,.box 3 [.v 3]),(3,true,.box 3 [.v 3]),(4,true,.box 3 [.v 3]),(8,true,.box 46 [.r 9]),(9,false,.aap 140 44)],[],[]⟩),(1,⟨[(0,true,.box 30 [.v 27,.v 28]),(1,true,.box 22 [.v 22]),(2,true,.box 3 [.v 3]),(3,true,.box 3 [.v 3]),(4,true,.box 3 [.v 3]),(7,true,.box 46 [.v 44])],[],[(9,.v 67)]⟩)],c7⟩),(256414,⟨[],[(0,⟨[(11,false,.dead),(12,true,.box 140 [.v 22,.v 138])],[],[]⟩),(1,⟨[(7,true,.box 46 [.v 44]),(11,false,.dead),(12,false,.dead)],[],[(9,.v 67)]⟩),(3,⟨[(11,false,.dead),(12,false,.dead)],[],[]⟩)],c7⟩),(256415,⟨[3],[],c7⟩),(4102633,⟨[],[(0,⟨[],[],[(55,.v 4)]⟩)],c7⟩),(32821087,⟨[],[(0,⟨[(11,true,.aap 142 138)],[],[]⟩)],c7⟩)] (fc (wY L) (fc (jP L) (fc (Hj L) (fc (yz L) (fc (akb L) f0))))) y4
def am2:FT (adl L):=kf [] (fc (ao8 L) f0) Tryz.func233
def Vt:FT (Wu L):=kf [] (fc (abW L) (fc (am2 L) f0)) Tryz.func232
def apW:FT (akC L):=kf [] f0 Tryz.func206
def Zf:FT (aqf L):=kf [(58,⟨[],[(2,⟨[],[(5,[],.aap 3 22)],[(5,.r 0)]⟩)],c6 ⟨[],[(5,[],.aap 3 22)],[(5,.r 0),(8,.v 3)]⟩⟩),(7475,⟨[],[(0,⟨[(0,false,.aap 3 22)],[],[(5,.r 0)]⟩)],c7⟩),(14950,⟨[2],[],c7⟩)] (fc (apW L) f0) o6
def HE:FT (ahy L):=kf [] (fc (Zf L) f0) Tryz.func132
def ab9:FT (amV L):=kf [] (fc (jP L) f0) Tryz.func291
def ag4:FT (Wj L):=kf [(26,⟨[],[(1,⟨[],[],[(4,.v 3)]⟩),(2,⟨[],[],[]⟩)],c6 ⟨[],[],[(8,.v 3)]⟩⟩)] (fc (ab9 L) f0) ee
def ae1:FT (ajO L):=kf [] (fc (ag4 L) f0) ez
def ajR:FT (apj L):=kf [] (fc (HE L) (fc (ae1 L) f0)) Tryz.func237
def aoH:FT (Zp L):=kf [(12,⟨[],[(0,⟨[],[],[(13,.v 4)]⟩)],c7⟩)] (fc (iY L) f0) Tryz.func238
def amw:FT (ae9 L):=kf [(58,⟨[],[(2,⟨[(3,true,.box 140 [.r 2,.r 4])],[(100003,[1],.aap 142 138)],[]⟩)],c6 ⟨[(3,true,.box 140 [.r 2,.r 4])],[(100003,[1],.aap 142 138)],[(13,.v 3)]⟩⟩),(3737,⟨[6,8],[],c7⟩)] (fc (oH L) (fc (iY L) f0)) qa
def U1:FT (Hy L):=kf [(122,⟨[],[(2,⟨[(3,true,.box 142 [.v 3,.v 22])],[],[]⟩)],c6 ⟨[(3,true,.box 142 [.v 3,.r 4])],[(100003,[1],.aap 3 22)],[(26,.v 3)]⟩⟩),(7833,⟨[9],[],c7⟩)] f0 Tryz.func295
def apn:FT (ajx L):=kf [] (fc (Qb L) f0) Tryz.func294
def YA:FT (ao7 L):=kf [(6,⟨[],[(2,⟨[(0,true,.aap 140 44)],[],[]⟩)],c6 ⟨[(0,true,.aap 140 44)],[],[(8,.v 3)]⟩⟩),(402,⟨[],[(4,⟨[(0,true,.aap 140 44)],[],[]⟩)],c6 ⟨[(0,true,.aap 140 44)],[],[(9,.v 3)]⟩⟩),(3216,⟨[],[(0,⟨[],[],[(34,.v 4)]⟩)],c7⟩)] (fc (apn L) f0) Tryz.func342
def VS:FT (Zd L):=kf [(28,⟨[],[(2,⟨[(0,true,.aap 140 44)],[],[(7,.v 3)]⟩)],c6 ⟨[(0,true,.aap 140 44)],[],[(7,.v 3),(8,.v 3)]⟩⟩),(62,⟨[],[(4,⟨[],[],[]⟩)],c6 ⟨[],[],[(6,.v 3)]⟩⟩),(3988,⟨[],[(6,⟨[],[],[(7,.i .i64 0)]⟩)],c6 ⟨[],[],[(7,.i .i64 0),(8,.v 3)]⟩⟩)] (fc (YA L) f0) Tryz.func338
def abL:FT (alM L):=kf [] (fc (VS L) f0) Tryz.func325
def agA:FT (adP L):=kf [] (fc (U9 L) f0) Tryz.func324
def aeu:FT (xI L):=kf [] (fc (agA L) (fc (abL L) f0)) Tryz.func292
def QO:FT (uY L):=UK L (Bs L) (U1 L) (yz L) (aeu L)
def ahn:FT (aa5 L):=kf [(120,⟨[],[(0,⟨[],[],[(34,.v 4)]⟩)],c7⟩),(506,⟨[],[(3,⟨[(3,false,.dead)],[],[(13,.v 44)]⟩)],c6 ⟨[(3,false,.aap 140 44)],[],[(13,.r 3),(62,.v 3)]⟩⟩),(8102,⟨[],[(0,⟨[(3,false,.aap 140 44)],[],[(13,.r 3)]⟩)],c7⟩),(518558,⟨[],[(0,⟨[(5,false,.dead),(6,false,.dead),(7,true,.box 140 [.v 22,.v 138])],[],[]⟩)],c7⟩),(518559,⟨[2],[],c7⟩),(2074234,⟨[],[(5,⟨[(6,true,.aap 142 138)],[],[]⟩)],c6 ⟨[(6,true,.aap 142 138)],[],[(102,.v 3)]⟩⟩),(531004007,⟨[],[(0,⟨[(6,true,.aap 142 138)],[],[]⟩)],c7⟩)] (fc (wY L) (fc (K5 L) (fc (apm L) (fc (ajR L) (fc (amw L) (fc (aoH L) (fc (QO L) f0))))))) Tryz.func172
def al4:FT (agN L):=kf [] (fc (K5 L) f0) Tryz.func296
def aj1:FT (Xf L):=kf [(26,⟨[],[(1,⟨[],[],[(4,.v 3)]⟩),(2,⟨[],[],[]⟩)],c6 ⟨[],[],[(8,.v 3)]⟩⟩)] (fc (al4 L) f0) ee
def aoX:FT (ady L):=kf [] (fc (aj1 L) f0) ez
def My:FT (ai6 L):=kf [] (fc (K3 L) (fc (K5 L) (fc (aoX L) f0))) Tryz.func241
def Vg:FT (aag L):=kf [(12,⟨[],[(0,⟨[],[],[(43,.v 4)]⟩)],c7⟩),(28,⟨[],[(0,⟨[],[],[(52,.v 4)]⟩)],c7⟩),(250,⟨[],[(2,⟨[(4,true,.aap 3 22)],[],[]⟩)],c6 ⟨[(4,true,.aap 3 22)],[],[(61,.v 3)]⟩⟩),(506,⟨[],[(4,⟨[(4,true,.aap 3 22)],[],[]⟩)],c6 ⟨[(4,true,.aap 3 22)],[],[(76,.v 3)]⟩⟩),(129636,⟨[],[(0,⟨[],[],[(98,.v 4)]⟩)],c7⟩),(129637,⟨[],[(0,⟨[(4,true,.aap 3 22)],[],[]⟩)],c7⟩),(129638,⟨[],[(0,⟨[],[],[(121,.v 4)]⟩)],c7⟩),(129639,⟨[],[(0,⟨[(4,true,.aap 3 22)],[],[]⟩)],c7⟩)] (fc (Aq L) (fc (My L) (fc (Ja L) (fc (DW L) f0)))) y7
def aa7:FT (aao L):=kf [(14,⟨[0],[],c7⟩),(122,⟨[],[(3,⟨[(2,true,.aap 3 22)],[],[]⟩)],c6 ⟨[(2,true,.aap 3 22)],[],[(40,.v 3)]⟩⟩)] (fc (Aq L) (fc (K4 L) (fc (K5 L) (fc (Ca L) (fc (DW L) f0))))) A4
def YV:FT (agb L):=kf [(26,⟨[],[(1,⟨[],[],[(2,.b false)]⟩),(2,⟨[],[],[]⟩)],c6 ⟨[],[],[(14,.v 3)]⟩⟩),(28,⟨[],[(0,⟨[],[],[(30,.v 4)]⟩)],c7⟩)] (fc (K5 L) f0) Tryz.func204
def ad8:FT (alz L):=kf [(58,⟨[],[(1,⟨[],[],[(2,.v 3)]⟩),(2,⟨[],[],[]⟩)],c6 ⟨[],[],[(8,.v 3)]⟩⟩)] f0 Tryz.func265
def QI:FT (acX L):=kf [(6,⟨[10],[],c7⟩)] (fc (Og L) (fc (ad8 L) f0)) Tryz.func205
def PS:FT (air L):=kf [(58,⟨[],[(1,⟨[],[],[(2,.b false)]⟩),(2,⟨[],[],[]⟩)],c6 ⟨[],[],[(10,.v 3)]⟩⟩),(7474,⟨[],[(0,⟨[],[],[(35,.v 4)]⟩)],c7⟩)] (fc (YV L) (fc (QI L) f0)) Tryz.func131
def alA:FT (an4 L):=kf [(60,⟨[],[(2,⟨[],[],[(9,.v 3)]⟩)],c6 ⟨[],[],[(9,.v 3),(10,.v 3)]⟩⟩),(1931,⟨[],[(0,⟨[],[],[(9,.v 3),(10,.v 3)]⟩)],c7⟩)] (fc (QI L) f0) Tryz.func243
def QV:FT (anE L):=kf [(28,⟨[],[(0,⟨[],[],[(32,.v 4)]⟩)],c7⟩),(124,⟨[],[(0,⟨[],[],[(65,.v 4)]⟩)],c7⟩)] (fc (PS L) (fc (K5 L) (fc (alA L) (fc (anc L) (fc (ail L) f0))))) Tryz.func176
def aoy:FT (acP L):=kf [] f0 Tryz.func177
def amk:FT (ana L):=kf [(26,⟨[],[(1,⟨[],[],[(4,.v 3)]⟩),(2,⟨[],[],[]⟩)],c6 ⟨[],[],[(8,.v 3)]⟩⟩)] (fc (aoy L) f0) q7
def UO:FT (acj L):=kf [] (fc (amk L) f0) q8
def aaI:FT (ahX L):=kf [] (fc (iY L) f0) y8
def Ym:FT (anr L):=kf [(6,⟨[5],[],c7⟩)] (fc (iY L) (fc (oH L) f0)) y8
def BU:FT (aeI L):=kf [(414,⟨[],[(0,⟨[],[],[(25,.v 4)]⟩)],c7⟩)] (fc (sA L) (fc (K5 L) (fc (Ym L) f0))) Tryz.func245
def abr:FT (akc L):=kf [] (fc (BU L) f0) Tryz.func178
def ags:FT (apX L):=kf [] (fc (BU L) f0) Tryz.func179
def aek:FT (ag5 L):=kf [] f0 Tryz.func180
def ai9:FT (amy L):=kf [(26,⟨[],[(1,⟨[],[],[(4,.v 3)]⟩),(2,⟨[],[],[]⟩)],c6 ⟨[],[],[(8,.v 3)]⟩⟩)] (fc (aek L) f0) ee
def an5:FT (VU L):=kf [] (fc (ai9 L) f0) ez
def RQ:FT (acp L):=kf [(102,⟨[],[(0,⟨[],[],[(12,.v 4)]⟩)],c7⟩)] (fc (sA L) (fc (Mo L) (fc (aaI L) f0))) Tryz.func246
def Um:FT (aoY L):=kf [] (fc (RQ L) f0) Tryz.func181
def aoL:FT (YW L):=kf [] f0 Tryz.func249
def Xx:FT (aeR L):=kf [(26,⟨[],[(1,⟨[],[],[(4,.v 3)]⟩),(2,⟨[],[],[]⟩)],c6 ⟨[],[],[(8,.v 3)]⟩⟩)] (fc (aoL L) f0) y2
def U5:FT (UQ L):=kf [] (fc (Xx L) f0) y3
def aaV:FT (abu L):=kf [] (fc (U5 L) f0) Tryz.func247
def afX:FT (ag9 L):=kf [(26,⟨[],[(1,⟨[],[],[(4,.v 3)]⟩),(2,⟨[],[],[]⟩)],c6 ⟨[],[],[(8,.v 3)]⟩⟩)] (fc (aaV L) f0) qb
def adW:FT (Xy L):=kf [] (fc (afX L) f0) s6
def aiN:FT (adY L):=kf [(12,⟨[],[(0,⟨[],[],[(16,.v 4)]⟩)],c7⟩),(28,⟨[],[(0,⟨[],[],[(25,.v 4)]⟩)],c7⟩)] (fc (K3 L) (fc (KO L) (fc (QF L) f0))) y9
def agC:FT (ajq L):=kf [(12,⟨[],[(0,⟨[],[],[(16,.v 4)]⟩)],c7⟩),(28,⟨[],[(0,⟨[],[],[(25,.v 4)]⟩)],c7⟩)] (fc (K3 L) (fc (KO L) (fc (Cy L) f0))) y9
def alq:FT (aaw L):=kf [(6,⟨[0],[],c7⟩),(58,⟨[],[(2,⟨[(3,true,.aap 3 22)],[],[]⟩)],c6 ⟨[(3,true,.aap 3 22)],[],[(20,.v 3)]⟩⟩)] (fc (Ca L) (fc (HE L) (fc (agC L) f0))) Tryz.func250
def aqC:FT (agj L):=kf [(252,⟨[],[(0,⟨[],[],[(44,.v 4)]⟩)],c7⟩),(2042,⟨[],[(1,⟨[(3,true,.box 46 [.v 44])],[],[(9,.v 67)]⟩),(2,⟨[],[],[(13,.v 44)]⟩)],c6 ⟨[],[(13,[],.aap 140 44)],[(13,.r 5),(49,.v 3)]⟩⟩),(522854,⟨[],[(0,⟨[(7,false,.dead),(8,true,.box 140 [.v 22,.v 138])],[],[]⟩),(1,⟨[(3,true,.box 46 [.v 44]),(7,false,.dead),(8,false,.dead)],[],[(9,.v 67)]⟩)],c7⟩),(522855,⟨[2],[],c7⟩),(2091418,⟨[],[(1,⟨[(3,true,.box 46 [.v 44]),(7,false,.dead)],[],[(9,.v 67)]⟩),(4,⟨[(7,true,.aap 142 138)],[],[]⟩)],c6 ⟨[(7,true,.aap 142 138)],[],[(58,.v 3)]⟩⟩)] (fc (wY L) (fc (aci L) (fc (adW L) (fc (yz L) (fc (alq L) (fc (QO L) f0)))))) Tryz.func182
def SK:FT (alE L):=kf [] f0 Tryz.func258
def W0:FT (ac3 L):=kf [] (fc (K5 L) f0) Tryz.func261
def Uy:FT (aiB L):=kf [(26,⟨[],[(1,⟨[],[],[(4,.v 3)]⟩),(2,⟨[],[],[]⟩)],c6 ⟨[],[],[(8,.v 3)]⟩⟩)] (fc (W0 L) f0) ee
def aau:FT (aoa L):=kf [] (fc (Uy L) f0) ez
def MA:FT (X4 L):=kf [(26,⟨[],[(1,⟨[],[],[(4,.b false)]⟩),(2,⟨[],[],[]⟩)],c6 ⟨[],[],[(12,.v 3)]⟩⟩),(6758,⟨[],[(1,⟨[],[],[(4,.b false)]⟩),(4,⟨[],[],[]⟩)],c6 ⟨[],[],[(19,.v 3)]⟩⟩)] (fc (aau L) f0) Tryz.func198
def ado:FT (ak1 L):=kf [] (fc (vO L) (fc (sA L) (fc (MA L) f0))) Tryz.func302
def IN:FT (aqH L):=kf [(414,⟨[],[(0,⟨[],[],[(19,.v 4)]⟩)],c7⟩),(6654,⟨[],[(0,⟨[],[],[(33,.v 4)]⟩)],c7⟩),(26622,⟨[],[(0,⟨[],[],[(49,.v 4)]⟩)],c7⟩)] (fc (vO L) (fc (SK L) (fc (sA L) (fc (ado L) f0)))) Tryz.func251
def agi:FT (aaC L):=kf [] (fc (IN L) f0) Tryz.func183
def ak7:FT (anl L):=kf [(12,⟨[],[(0,⟨[],[],[(14,.v 67)]⟩)],c7⟩)] (fc (IN L) f0) Tryz.func184
def ai1:FT (WH L):=kf [] (fc (IN L) f0) Tryz.func185
def anT:FT (ah3 L):=kf [(506,⟨[],[(2,⟨[(2,true,.box 35 (abx amj [(1,.r 3),(3,.r 4)]))],[],[]⟩)],c6 ⟨[(2,true,.box 35 (abx amj [(1,.r 3),(3,.r 4),(5,.r 5)]))],[(100002,[5],.aap 120 32)],[(31,.v 3)]⟩⟩),(4090,⟨[],[(4,⟨[(2,true,.box 35 (abx amj [(1,.r 3),(3,.r 4)]))],[],[]⟩)],c6 ⟨[(2,true,.box 35 (abx amj [(1,.r 3),(3,.r 4),(8,.r 5)]))],[(100002,[8],.aap 22 33)],[(58,.v 3)]⟩⟩),(64819,⟨[3],[],c7⟩),(261785,⟨[4],[],c7⟩)] (fc (oh L) (fc (yo L) (fc (O8 L) (fc (iY L) f0)))) j3
def RN:FT (anx L):=kf [(102,⟨[],[(0,⟨[],[],[(14,.v 4)]⟩)],c7⟩),(250,⟨[],[(3,⟨[(3,true,.aap 88 31)],[],[]⟩)],c6 ⟨[(3,true,.aap 88 31)],[],[(44,.v 3)]⟩⟩),(32051,⟨[],[(0,⟨[(3,true,.aap 88 31)],[],[]⟩)],c7⟩)] (fc (xC L) (fc (K5 L) (fc (anT L) f0))) Tryz.func186
def Lh:FT (afu L):=kf [(12,⟨[],[(0,⟨[],[],[(26,.v 4)]⟩)],c7⟩),(250,⟨[],[(1,⟨[(2,true,.box 46 [.v 44]),(3,false,.dead)],[],[(7,.v 67)]⟩),(2,⟨[(3,true,.box 46 [.v 44])],[],[(9,.v 67)]⟩)],c6 ⟨[(3,true,.box 46 [.r 4])],[(100003,[0],.aap 140 44)],[(9,.v 67),(31,.v 3)]⟩⟩),(64102,⟨[],[(0,⟨[(6,false,.dead),(7,true,.box 140 [.v 22,.v 138])],[],[(9,.v 67)]⟩),(1,⟨[(2,true,.box 46 [.v 44]),(6,false,.dead),(7,false,.dead)],[],[(7,.v 67)]⟩)],c7⟩),(64103,⟨[3],[],c7⟩),(256410,⟨[],[(1,⟨[(2,true,.box 46 [.v 44]),(6,false,.dead)],[],[(7,.v 67)]⟩),(4,⟨[(6,true,.aap 142 138)],[],[(9,.v 67)]⟩)],c6 ⟨[(6,true,.aap 142 138)],[],[(9,.v 67),(40,.v 3)]⟩⟩),(262564253,⟨[],[(0,⟨[],[],[(9,.v 67)]⟩)],c7⟩)] (fc (K3 L) (fc (K5 L) (fc (yz L) (fc (aiN L) f0)))) Tryz.func252
def Z2:FT (VF L):=kf [(12,⟨[],[(0,⟨[],[],[(43,.v 4)]⟩)],c7⟩),(28,⟨[],[(0,⟨[],[],[(52,.v 4)]⟩)],c7⟩),(250,⟨[],[(2,⟨[(5,true,.aap 3 22)],[],[]⟩)],c6 ⟨[(5,true,.aap 3 22)],[],[(61,.v 3)]⟩⟩),(506,⟨[],[(4,⟨[(5,true,.aap 3 22)],[],[]⟩)],c6 ⟨[(5,true,.aap 3 22)],[],[(76,.v 3)]⟩⟩),(129636,⟨[],[(0,⟨[],[],[(98,.v 4)]⟩)],c7⟩),(129637,⟨[],[(0,⟨[(5,true,.aap 3 22)],[],[]⟩)],c7⟩),(129638,⟨[],[(0,⟨[],[],[(121,.v 4)]⟩)],c7⟩),(129639,⟨[],[(0,⟨[(5,true,.aap 3 22)],[],[]⟩)],c7⟩)] (fc (Aq L) (fc (My L) (fc (Ja L) (fc (DW L) f0)))) y7
def Xl:FT (ach L):=kf [] f0 Tryz.func47
def ac2:FT (ahS L):=kf [(58,⟨[],[(2,⟨[],[(5,[],.aap 3 22)],[(5,.r 0)]⟩)],c6 ⟨[],[(5,[],.aap 3 22)],[(5,.r 0),(8,.v 3)]⟩⟩),(7475,⟨[],[(0,⟨[(0,false,.aap 3 22)],[],[(5,.r 0)]⟩)],c7⟩),(14950,⟨[2],[],c7⟩)] (fc (Xl L) f0) o6
def Nz:FT (YP L):=kf [] (fc (ac2 L) f0) Tryz.func16
def afM:FT (aeF L):=kf [] (fc (jP L) f0) Tryz.func303
def akM:FT (aj8 L):=kf [(26,⟨[],[(1,⟨[],[],[(4,.v 3)]⟩),(2,⟨[],[],[]⟩)],c6 ⟨[],[],[(8,.v 3)]⟩⟩)] (fc (afM L) f0) ee
def aiz:FT (apU L):=kf [] (fc (akM L) f0) ez
def ant:FT (ag1 L):=kf [(230,⟨[],[(0,⟨[],[],[(23,.v 4)]⟩)],c7⟩),(250,⟨[],[(3,⟨[(3,true,.aap 115 28)],[],[]⟩)],c6 ⟨[(3,true,.aap 115 28)],[],[(49,.v 3)]⟩⟩),(506,⟨[],[(5,⟨[(3,true,.aap 115 28)],[],[]⟩)],c6 ⟨[(3,true,.aap 115 28)],[],[(61,.v 3)]⟩⟩)] (fc (K3 L) (fc (K4 L) (fc (aiz L) (fc (oh L) (fc (yo L) f0))))) Tryz.func253
def ali:FT (amt L):=kf [(24,⟨[],[(0,⟨[],[],[(11,.v 4)]⟩)],c7⟩),(102,⟨[],[(0,⟨[],[],[(22,.v 4)]⟩)],c7⟩)] (fc (KB L) (fc (wY L) (fc (K5 L) f0))) Tryz.func254
def aqo:FT (VL L):=kf [] (fc (K5 L) f0) Tryz.func50
def an8:FT (ajl L):=kf [(26,⟨[],[(1,⟨[],[],[(4,.v 3)]⟩),(2,⟨[],[],[]⟩)],c6 ⟨[],[],[(8,.v 3)]⟩⟩)] (fc (aqo L) f0) qb
def WR:FT (aoT L):=kf [] (fc (an8 L) f0) s6
def acI:FT (YS L):=kf [] (fc (WR L) f0) Tryz.func48
def aai:FT (aly L):=kf [(58,⟨[],[(2,⟨[],[(5,[],.aap 3 22)],[(5,.r 0)]⟩)],c6 ⟨[],[(5,[],.aap 3 22)],[(5,.r 0),(8,.v 3)]⟩⟩),(7475,⟨[],[(0,⟨[(0,false,.aap 3 22)],[],[(5,.r 0)]⟩)],c7⟩),(14950,⟨[2],[],c7⟩)] (fc (acI L) f0) o6
def Cm:FT (aib L):=kf [] (fc (aai L) f0) Tryz.func17
def adi:FT (ZV L):=kf [(58,⟨[],[(2,⟨[],[],[(3,.v 3)]⟩)],c6 ⟨[],[],[(3,.v 3),(11,.v 3)]⟩⟩),(250,⟨[],[(4,⟨[(0,false,.aap 3 22)],[],[(6,.r 0)]⟩)],c6 ⟨[(0,false,.aap 3 22)],[],[(6,.r 0),(27,.v 3)]⟩⟩)] (fc (abI L) f0) Tryz.func328
def aia:FT (afF L):=kf [] (fc (KB L) (fc (K5 L) f0)) Tryz.func71
def af3:FT (VX L):=kf [] f0 Tryz.func138
def Rr:FT (acv L):=kf [(12,⟨[],[(0,⟨[],[],[(20,.v 4)]⟩)],c7⟩)] (fc (K3 L) (fc (af3 L) (fc (SX L) f0))) Tryz.func77
def auQ:FT (auM L):=kf [(58,⟨[],[(2,⟨[(3,true,.aap 4 168)],[],[]⟩)],c6 ⟨[(3,true,.aap 4 168)],[],[(31,.v 3)]⟩⟩),(122,⟨[],[(4,⟨[(3,true,.aap 4 168)],[],[]⟩)],c6 ⟨[(3,true,.aap 4 168)],[],[(46,.v 3)]⟩⟩),(250,⟨[],[(6,⟨[(4,true,.aap 4 168)],[],[]⟩)],c6 ⟨[(4,true,.aap 4 168)],[],[(58,.v 3)]⟩⟩),(506,⟨[],[(8,⟨[(5,true,.box 170 [.v 3,.v 167,.r 3,.r 4])],[],[]⟩)],c6 ⟨[(5,true,.box 170 [.v 3,.r 6,.r 3,.r 4])],[(100005,[1],.aap 174 167)],[(70,.v 3)]⟩⟩),(8102,⟨[],[(0,⟨[(5,true,.box 170 [.v 3,.r 6,.r 3,.r 4]),(6,false,.aap 174 167)],[],[]⟩)],c7⟩),(518555,⟨[],[(0,⟨[(5,true,.box 170 [.v 3,.r 6,.r 3,.r 4]),(6,false,.aap 174 167)],[],[]⟩)],c7⟩),(518559,⟨[],[(0,⟨[(5,true,.box 170 [.v 3,.r 6,.r 3,.r 4]),(6,false,.aap 174 167)],[],[]⟩)],c7⟩),(1037110,⟨[9],[],c7⟩),(1037118,⟨[9],[],c7⟩)] (fc (jP L) (fc (Rr L) f0)) E3
def SB:FT (YY L):=kf [] f0 Tryz.func75
def Wr:FT (aeU L):=kf [] f0 Tryz.func259
def aqE:FT (akn L):=kf [(58,⟨[],[(2,⟨[(1,true,.aap 275 272)],[],[]⟩)],c6 ⟨[(1,true,.aap 275 272)],[],[(14,.v 3)]⟩⟩),(122,⟨[],[(4,⟨[(1,true,.aap 275 272)],[],[]⟩)],c6 ⟨[(1,true,.aap 275 272)],[],[(5,.v 4)]⟩⟩),(7475,⟨[],[(0,⟨[(1,true,.aap 275 272)],[],[]⟩)],c7⟩),(7830,⟨[],[(6,⟨[(1,true,.aap 275 272)],[],[(5,.v 4)]⟩)],c6 ⟨[(1,true,.aap 275 272)],[],[(5,.v 4),(32,.v 3)]⟩⟩),(2004582,⟨[],[(0,⟨[],[],[(73,.v 4)]⟩)],c7⟩),(2004583,⟨[],[(0,⟨[(1,true,.aap 275 272)],[],[(5,.v 4)]⟩)],c7⟩)] (fc (SB L) (fc (Wr L) f0)) Tryz.func193
def ZW:FT (ap5 L):=kf [] (fc (SB L) f0) Tryz.func194
def W9:FT (ahe L):=kf [(26,⟨[],[(1,⟨[],[],[(4,.v 3)]⟩),(2,⟨[],[],[]⟩)],c6 ⟨[],[],[(8,.v 3)]⟩⟩)] (fc (ZW L) f0) s7
def acT:FT (amH L):=kf [(250,⟨[],[(2,⟨[(2,false,.aap 3 22),(3,false,.dead)],[(4,[],.aap 3 22)],[(4,.r 4),(6,.r 2)]⟩)],c6 ⟨[(2,false,.aap 3 22),(3,false,.dead)],[(4,[],.aap 3 22),(9,[],.box 3 [.v 3])],[(4,.r 4),(6,.r 2),(9,.p 5)]⟩⟩),(16019,⟨[7,11],[],c7⟩)] (fc (aqE L) (fc (W9 L) f0)) Tryz.func117
def Qg:FT (V6 L):=kf [] (fc (jP L) f0) Tryz.func119
def afD:FT (aju L):=kf [(26,⟨[],[(1,⟨[],[],[(4,.v 3)]⟩),(2,⟨[],[],[]⟩)],c6 ⟨[],[],[(8,.v 3)]⟩⟩)] (fc (Qg L) f0) s7
def aky:FT (ao5 L):=kf [(122,⟨[],[(2,⟨[(0,true,.aap 174 167)],[],[(5,.v 3)]⟩)],c6 ⟨[(0,true,.aap 174 167)],[],[(5,.v 3),(6,.v 3)]⟩⟩),(126,⟨[2],[],c7⟩),(7827,⟨[],[(0,⟨[(0,true,.aap 174 167)],[],[(5,.v 3)]⟩)],c7⟩)] (fc (afD L) (fc (Qg L) f0)) Tryz.func118
def aio:FT (Y7 L):=kf [(58,⟨[],[(2,⟨[(3,true,.aap 4 168)],[],[]⟩)],c6 ⟨[(3,true,.aap 4 168)],[],[(31,.v 3)]⟩⟩),(122,⟨[],[(4,⟨[(3,true,.aap 4 168)],[],[]⟩)],c6 ⟨[(3,true,.aap 4 168)],[],[(46,.v 3)]⟩⟩),(250,⟨[],[(6,⟨[(4,true,.aap 4 168)],[],[]⟩)],c6 ⟨[(4,true,.aap 4 168)],[],[(58,.v 3)]⟩⟩),(506,⟨[],[(8,⟨[(5,true,.box 170 [.v 3,.r 6,.r 3,.r 4])],[(100005,[1],.aap 174 167)],[]⟩)],c6 ⟨[(5,true,.box 170 [.v 3,.r 6,.r 3,.r 4])],[(100005,[1],.aap 174 167)],[(70,.v 3)]⟩⟩),(8102,⟨[],[(0,⟨[(5,true,.box 170 [.v 3,.r 6,.r 3,.r 4]),(6,false,.aap 174 167)],[],[]⟩)],c7⟩),(518555,⟨[],[(0,⟨[(5,true,.box 170 [.v 3,.r 6,.r 3,.r 4]),(6,false,.aap 174 167)],[],[]⟩)],c7⟩),(518559,⟨[],[(0,⟨[(5,true,.box 170 [.v 3,.r 6,.r 3,.r 4]),(6,false,.aap 174 167)],[],[]⟩)],c7⟩),(1037110,⟨[9],[],c7⟩),(1037118,⟨[9],[],c7⟩)] (fc (jP L) (fc (Rr L) f0)) E3
def Sr:FT (alI L):=kf [(2042,⟨[],[(2,⟨[(5,true,.aap 4 168)],[],[]⟩)],c6 ⟨[(5,true,.aap 4 168)],[],[(46,.v 3)]⟩⟩)] (fc (aia L) (fc (aio L) (fc (acT L) (fc (aky L) f0)))) Tryz.func52
def VW:FT (UY L):=kf [(58,⟨[],[(2,⟨[],[],[(5,.v 3)]⟩)],c6 ⟨[],[],[(5,.v 3),(11,.v 3)]⟩⟩),(14949,⟨[],[(0,⟨[],[],[(5,.v 3)]⟩)],c7⟩),(14951,⟨[],[(0,⟨[],[],[(5,.v 3)]⟩)],c7⟩)] (fc (Rr L) f0) Tryz.func29
def Tw:FT (abF L):=kf [] (fc (Sr L) (fc (VW L) f0)) Tryz.func203
def M3:FT (aod L):=kf [] (fc (Tw L) f0) Tryz.func305
def WD:FT (X6 L):=kf [(26,⟨[],[(1,⟨[],[],[(4,.v 3)]⟩),(2,⟨[],[],[]⟩)],c6 ⟨[],[],[(8,.v 3)]⟩⟩)] (fc (M3 L) f0) ee
def acu:FT (ad6 L):=kf [(122,⟨[],[(2,⟨[(0,true,.aap 3 22)],[],[(5,.v 3)]⟩)],c6 ⟨[(0,true,.aap 3 22)],[],[(5,.v 3),(6,.v 3)]⟩⟩),(126,⟨[2],[],c7⟩),(7827,⟨[],[(0,⟨[(0,true,.aap 3 22)],[],[(5,.v 3)]⟩)],c7⟩)] (fc (WD L) (fc (M3 L) f0)) ya
def Z8:FT (T9 L):=kf [(58,⟨[],[(1,⟨[(0,false,.aap 3 22)],[],[(2,.r 0)]⟩),(2,⟨[],[],[]⟩)],c6 ⟨[],[],[(3,.v 3)]⟩⟩),(59690,⟨[],[(4,⟨[(0,true,.aap 3 22)],[],[(3,.v 3)]⟩)],c6 ⟨[(0,true,.aap 3 22)],[],[(3,.v 3),(5,.v 3)]⟩⟩),(59694,⟨[2],[],c7⟩),(1910089,⟨[],[(0,⟨[(0,true,.aap 3 22)],[],[(3,.v 3)]⟩)],c7⟩)] f0 Tryz.func329
def afh:FT (aaG L):=kf [(6,⟨[2],[],c7⟩)] (fc (adi L) (fc (D5 L) (fc (Z8 L) f0))) Tryz.func304
def aj4:FT (agr L):=kf [(58,⟨[],[(2,⟨[],[(9,[],.aap 3 22)],[(9,.r 3)]⟩)],c6 ⟨[],[(9,[],.aap 3 22)],[(9,.r 3),(17,.v 3)]⟩⟩)] (fc (Cm L) (fc (afh L) (fc (acu L) f0))) Tryz.func255
def Qn:FT (alL L):=kf [] (fc (jP L) f0) Tryz.func257
def amP:FT (ade L):=kf [(26,⟨[],[(1,⟨[],[],[(4,.v 3)]⟩),(2,⟨[],[],[]⟩)],c6 ⟨[],[],[(8,.v 3)]⟩⟩)] (fc (Qn L) f0) ee
def akQ:FT (aiM L):=kf [(122,⟨[],[(2,⟨[(0,true,.aap 3 22)],[],[(5,.v 3)]⟩)],c6 ⟨[(0,true,.aap 3 22)],[],[(5,.v 3),(6,.v 3)]⟩⟩),(126,⟨[2],[],c7⟩),(7827,⟨[],[(0,⟨[(0,true,.aap 3 22)],[],[(5,.v 3)]⟩)],c7⟩)] (fc (amP L) (fc (Qn L) f0)) ya
def apO:FT (aoh L):=kf [] (fc (ant L) (fc (ali L) (fc (Lh L) (fc (aj4 L) (fc (oH L) (fc (akQ L) f0)))))) Tryz.func188
def afZ:FT (afy L):=kf [(1662,⟨[],[(0,⟨[],[],[(25,.v 4)]⟩)],c7⟩)] (fc (vO L) (fc (SK L) f0)) Tryz.func189
def Wi:FT (ak5 L):=kf [] (fc (RQ L) f0) Tryz.func190
def ab1:FT (Ud L):=kf [] (fc (BU L) f0) Tryz.func191
def ZJ:FT (ahV L):=kf [] (fc (BU L) f0) Tryz.func192
def aeT:FT (V8 L):=kf [(262138,⟨[],[(2,⟨[(2,true,.box 56 (abx amv [(35,.r 3)]))],[(100002,[35],.aap 83 54)],[]⟩)],c6 ⟨[(2,true,.box 56 (abx amv [(35,.r 3)]))],[(100002,[35],.aap 83 54)],[(104,.v 3)]⟩⟩),(33553715,⟨[3],[],c7⟩)] (fc (zh L) (fc (oh L) (fc (sP L) (fc (G7 L) (fc (iY L) (fc (SU L) (fc (Hc L) (fc (IE L) f0)))))))) s5
def acM:FT (afk L):=kf [] (fc (zh L) f0) Tryz.func103
def ahI:FT (apV L):=kf [(262138,⟨[],[(2,⟨[(2,true,.box 56 (abx amv [(19,.r 3),(20,.r 4),(35,.r 5)]))],[(100002,[35],.aap 83 54)],[]⟩)],c6 ⟨[(2,true,.box 56 (abx amv [(19,.r 3),(20,.r 4),(35,.r 5)]))],[(100002,[35],.aap 83 54)],[(104,.v 3)]⟩⟩),(33553715,⟨[3],[],c7⟩)] (fc (zh L) (fc (oh L) (fc (sP L) (fc (G7 L) (fc (iY L) (fc (Wv L) (fc (Hc L) (fc (IE L) f0)))))))) s5
def amm:FT (acQ L):=kf [] (fc (Ps L) (fc (jP L) (fc (K93 L) f0))) Tryz.func104
def akm:FT (VQ L):=kf [] (fc (K94 L) f0) Tryz.func105
def apf:FT (aff L):=kf [] (fc (mI L) (fc (Zr L) f0)) Tryz.func167
def am6:FT (YU L):=kf [(11,⟨[],[(0,⟨[(2,true,.box 133 (abx adU [(19,.r 0),(35,.r 1)]))],[],[]⟩)],c7⟩),(14,⟨[1002],[],c7⟩)] (fc (apf L) (fc (zQ L) (fc (Ch L) f0))) yk
def VC:FT (ahD L):=kf [(11,⟨[],[(0,⟨[(2,true,.box 133 (abx adU [(19,.r 0),(35,.r 1)]))],[],[]⟩)],c7⟩),(14,⟨[1002],[],c7⟩)] (fc (Vt L) (fc (zQ L) (fc (Ch L) f0))) yk
def ap3:FT (abq L):=kf [(60,⟨[],[(0,⟨[],[],[(43,.v 4)]⟩)],c7⟩)] (fc (V9 L) (fc (mI L) (fc (VC L) f0))) Tryz.func170
def Zk:FT (ajT L):=kf [(510,⟨[7],[],c7⟩),(65530,⟨[],[(3,⟨[(0,true,.aap 101 41),(1,true,.aap 83 54),(2,true,.box 133 (abx adU [(19,.r 0),(35,.r 1)])),(3,false,.dead),(4,true,.box 130 [.p 2]),(8,false,.dead)],[],[]⟩)],c6 ⟨[(0,true,.aap 101 41),(1,true,.aap 83 54),(2,true,.box 133 (abx adU [(19,.r 0),(35,.r 1)])),(3,false,.dead),(4,true,.box 130 [.p 2]),(8,true,.box 120 (alh [22,3,3,3]))],[],[(135,.v 3)]⟩⟩),(131066,⟨[],[(5,⟨[(0,true,.aap 101 41),(1,true,.aap 83 54),(2,true,.box 133 (abx adU [(19,.r 0),(35,.r 1)]))],[],[]⟩)],c6 ⟨[(0,true,.aap 101 41),(1,true,.aap 83 54),(2,true,.box 133 (abx adU [(19,.r 0),(35,.r 1)]))],[],[(154,.v 3)]⟩⟩),(4193944,⟨[],[(0,⟨[(3,false,.dead)],[(11,[],.box 251 (alh [3,3,3,3]))],[(11,.p 9)]⟩)],c7⟩),(16776499,⟨[],[(0,⟨[(0,true,.aap 101 41),(1,true,.aap 83 54),(2,true,.box 133 (abx adU [(19,.r 0),(35,.r 1)]))],[],[]⟩)],c7⟩)] (fc (K5 L) (fc (Xd L) (fc (afL L) (fc (acy L) (fc (aac L) (fc (am6 L) (fc (iY L) (fc (jP L) (fc (ap3 L) f0))))))))) Tryz.func106
def aen:FT (adV L):=kf [(30,⟨[1002],[],c7⟩),(58,⟨[],[(0,⟨[],[],[(55,.v 4)]⟩)],c7⟩)] (fc (aiW L) (fc (mI L) (fc (ahn L) (fc (zQ L) (fc (Ch L) f0))))) Tryz.func107
def acf:FT (al7 L):=kf [(14,⟨[12],[],c7⟩),(125,⟨[],[(0,⟨[(5,true,.aap 3 22)],[],[]⟩),(1,⟨[],[],[(4,.v 67)]⟩)],c7⟩),(4014,⟨[],[(2,⟨[(5,true,.aap 3 22)],[],[]⟩)],c6 ⟨[(5,true,.aap 3 22)],[],[(89,.v 3)]⟩⟩)] (fc (K5 L) (fc (mI L) (fc (aa7 L) (fc (Vg L) (fc (QV L) f0))))) Tryz.func108
def ahd:FT (agf L):=kf [] (fc (K5 L) (fc (UO L) (fc (abr L) (fc (ags L) (fc (an5 L) (fc (Um L) (fc (mI L) (fc (aqC L) f0)))))))) Tryz.func109
def ae8:FT (aoB L):=kf [] (fc (mI L) (fc (agi L) f0)) Tryz.func110
def ajV:FT (aby L):=kf [] (fc (mI L) (fc (ak7 L) f0)) Tryz.func111
def ahQ:FT (Uo L):=kf [] (fc (mI L) (fc (ai1 L) f0)) Tryz.func112
def Sd:FT (adZ L):=kf [(62,⟨[],[(0,⟨[(3,true,.box 133 (abx adU [(19,.r 0),(20,.r 1),(35,.r 2)])),(4,true,.aap 90 36),(6,false,.dead)],[],[]⟩)],c7⟩),(509,⟨[],[(0,⟨[(3,true,.box 133 (abx adU [(19,.r 0),(20,.r 1),(35,.r 2)]))],[],[]⟩),(1,⟨[(3,true,.box 133 (abx adU [(19,.r 0),(20,.r 1),(35,.r 2)]))],[],[(4,.v 67)]⟩)],c7⟩),(2036,⟨[1002],[],c7⟩)] (fc (VN L) (fc (oh L) (fc (yo L) (fc (mI L) (fc (Lh L) (fc (zQ L) (fc (Ch L) (fc (Z2 L) f0)))))))) Tryz.func187
def U8:FT (W7 L):=kf [] (fc (RN L) (fc (Sd L) f0)) yl
def apA:FT (agl L):=kf [] (fc (RN L) (fc (Sd L) f0)) yl
def YM:FT (Z7 L):=kf [(12,⟨[],[(0,⟨[],[],[(40,.v 4)]⟩)],c7⟩),(254,⟨[13],[],c7⟩),(506,⟨[],[(2,⟨[],[],[(6,.v 22)]⟩)],c6 ⟨[],[(6,[],.aap 3 22)],[(6,.r 6),(62,.v 3)]⟩⟩),(2045,⟨[],[(0,⟨[(3,true,.box 133 (abx adU [(19,.r 0),(20,.r 1),(35,.r 2)]))],[],[]⟩)],c7⟩),(16362,⟨[],[(4,⟨[(3,true,.box 133 (abx adU [(19,.r 0),(20,.r 1),(35,.r 2)]))],[],[]⟩)],c6 ⟨[(3,true,.box 133 (abx adU [(19,.r 0),(20,.r 1),(35,.r 2)]))],[],[(105,.v 3)]⟩⟩),(64819,⟨[],[(0,⟨[(6,false,.aap 3 22)],[],[(6,.r 6)]⟩)],c7⟩),(129638,⟨[3],[],c7⟩),(4188775,⟨[],[(0,⟨[(3,true,.box 133 (abx adU [(19,.r 0),(20,.r 1),(35,.r 2)]))],[],[]⟩)],c7⟩)] (fc (K5 L) (fc (mI L) (fc (Nz L) (fc (apO L) (fc (QV L) (fc (apA L) f0)))))) Tryz.func114
def V5:FT (aiD L):=kf [(29,⟨[],[(0,⟨[(3,true,.box 133 (abx adU [(19,.r 0),(20,.r 1),(35,.r 2)]))],[],[]⟩),(1,⟨[(3,true,.box 133 (abx adU [(19,.r 0),(20,.r 1),(35,.r 2)]))],[],[(4,.v 67)]⟩)],c7⟩),(61,⟨[],[(0,⟨[(3,true,.box 133 (abx adU [(19,.r 0),(20,.r 1),(35,.r 2)]))],[],[]⟩),(1,⟨[(3,true,.box 133 (abx adU [(19,.r 0),(20,.r 1),(35,.r 2)]))],[],[(4,.v 67)]⟩)],c7⟩),(250,⟨[],[(1,⟨[(3,true,.box 133 (abx adU [(19,.r 0),(20,.r 1),(35,.r 2)]))],[],[(4,.v 67)]⟩),(2,⟨[(3,true,.box 133 (abx adU [(19,.r 0),(20,.r 1),(35,.r 2)]))],[],[]⟩)],c6 ⟨[(3,true,.box 133 (abx adU [(19,.r 0),(20,.r 1),(35,.r 2)]))],[],[(73,.v 3)]⟩⟩),(64101,⟨[],[(0,⟨[(3,true,.box 133 (abx adU [(19,.r 0),(20,.r 1),(35,.r 2)]))],[],[]⟩),(1,⟨[(3,true,.box 133 (abx adU [(19,.r 0),(20,.r 1),(35,.r 2)]))],[],[(4,.v 67)]⟩)],c7⟩),(64103,⟨[],[(0,⟨[(3,true,.box 133 (abx adU [(19,.r 0),(20,.r 1),(35,.r 2)]))],[],[]⟩),(1,⟨[(3,true,.box 133 (abx adU [(19,.r 0),(20,.r 1),(35,.r 2)]))],[],[(4,.v 67)]⟩)],c7⟩)] (fc (Ps L) (fc (mI L) (fc (afZ L) (fc (Wi L) (fc (ab1 L) (fc (ZJ L) f0)))))) Tryz.func115
def NW:FT (ZG L):=kf [(507,⟨[],[(0,⟨[(3,true,.aap 101 41),(4,false,.dead),(5,true,.aap 83 54),(6,true,.box 133 (abx adU [(19,.r 3),(35,.r 5)]))],[],[(7,.v 67)]⟩)],c7⟩),(1014,⟨[],[(0,⟨[(3,true,.aap 101 41),(4,false,.dead),(5,true,.aap 83 54),(6,true,.box 133 (abx adU [(19,.r 3),(35,.r 5)]))],[],[(7,.v 67)]⟩)],c7⟩),(1021,⟨[],[(0,⟨[(3,false,.dead),(5,false,.dead),(7,true,.box 56 (abx amv [(35,.r 8)]))],[(100007,[35],.aap 83 54)],[]⟩)],c7⟩),(1022,⟨[12],[],c7⟩),(4084,⟨[1],[],c7⟩),(8171,⟨[],[(0,⟨[(7,true,.box 56 (abx amv [(35,.r 8)]))],[],[]⟩)],c7⟩)] (fc (K87 L) (fc (ahI L) (fc (K88 L) (fc (acM L) (fc (amm L) (fc (akm L) (fc (Zk L) (fc (aen L) (fc (acf L) (fc (ahd L) (fc (ae8 L) (fc (ajV L) (fc (ahQ L) (fc (U8 L) (fc (YM L) (fc (V5 L) (fc (aeT L) f0))))))))))))))))) Tryz.func15
def Zy:FT (afr L):=kf [(26,⟨[],[(2,⟨[(0,true,.box 56 amv)],[],[]⟩)],c6 ⟨[(0,true,.box 56 amv)],[],[(9,.v 3)]⟩⟩)] (fc (NW L) (fc (NB L) f0)) Tryz.func20
def aeE:FT (ak3 L):=kf [(6,⟨[0],[],c7⟩)] f0 Tryz.func65
def ajt:FT (ZY L):=kf [] (fc (Bs L) f0) Tryz.func195
def ahw:FT (akB L):=kf [(26,⟨[],[(1,⟨[],[],[(4,.v 3)]⟩),(2,⟨[],[],[]⟩)],c6 ⟨[],[],[(8,.v 3)]⟩⟩)] (fc (ajt L) f0) qb
def amc:FT (anU L):=kf [] (fc (ahw L) f0) s6
def Q9:FT (afg L):=kf [(26,⟨[],[(1,⟨[],[],[(4,.b false)]⟩),(2,⟨[],[],[]⟩)],c6 ⟨[],[],[(11,.v 3)]⟩⟩)] (fc (Cm L) (fc (jP L) (fc (amc L) f0))) Tryz.func122
def ao4:FT (akN L):=kf [] (fc (Q9 L) f0) Tryz.func121
def Yd:FT (aqp L):=kf [] (fc (Q9 L) f0) Tryz.func123
def Vq:FT (afp L):=kf [] (fc (jP L) f0) Tryz.func260
def abl:FT (ap0 L):=kf [(58,⟨[],[(2,⟨[],[(5,[],.aap 3 22)],[(5,.r 0)]⟩)],c6 ⟨[],[(5,[],.aap 3 22)],[(5,.r 0),(8,.v 3)]⟩⟩),(7475,⟨[],[(0,⟨[(0,false,.aap 3 22)],[],[(5,.r 0)]⟩)],c7⟩),(14950,⟨[2],[],c7⟩)] (fc (Vq L) f0) o6
def MS:FT (aha L):=kf [] (fc (abl L) f0) Tryz.func197
def aee:FT (amC L):=kf [(12,⟨[],[(0,⟨[],[],[(21,.v 4)]⟩)],c7⟩)] (fc (MS L) (fc (MA L) f0)) Tryz.func124
def ab2:FT (abQ L):=kf [] (fc (jP L) f0) Tryz.func199
def ag0:FT (ama L):=kf [(26,⟨[],[(1,⟨[],[],[(4,.v 3)]⟩),(2,⟨[],[],[]⟩)],c6 ⟨[],[],[(8,.v 3)]⟩⟩)] (fc (ab2 L) f0) q7
def alJ:FT (apP L):=kf [] (fc (ag0 L) f0) q8
def ajM:FT (agW L):=kf [] (fc (alJ L) f0) Tryz.func126
def aoE:FT (amn L):=kf [] (fc (ajM L) f0) Tryz.func125
def R7:FT (VE L):=kf [] (fc (jP L) f0) Tryz.func133
def UX:FT (aje L):=kf [(26,⟨[],[(1,⟨[],[],[(4,.v 3)]⟩),(2,⟨[],[],[]⟩)],c6 ⟨[],[],[(8,.v 3)]⟩⟩)] (fc (R7 L) f0) ee
def api:FT (aoP L):=kf [] (fc (UX L) f0) ez
def Yx:FT (YN L):=kf [] (fc (R7 L) f0) Tryz.func134
def adK:FT (alu L):=kf [(26,⟨[],[(1,⟨[],[],[(4,.v 3)]⟩),(2,⟨[],[],[]⟩)],c6 ⟨[],[],[(8,.v 3)]⟩⟩)] (fc (Yx L) f0) ee
def abD:FT (UH L):=kf [] (fc (adK L) f0) ez
def agy:FT (abm L):=kf [(126,⟨[4],[],c7⟩)] (fc (HE L) (fc (api L) (fc (abD L) f0))) Tryz.func69
def aet:FT (anY L):=kf [(58,⟨[],[(2,⟨[(2,true,.box 90 [.v 3,.v 3])],[],[]⟩)],c6 ⟨[(2,true,.box 90 [.v 3,.v 3])],[],[(18,.v 3)]⟩⟩),(59802,⟨[],[(4,⟨[],[],[(10,.v 3),(11,.v 3)]⟩)],c6 ⟨[],[],[(10,.v 3),(11,.v 3),(26,.v 3)]⟩⟩),(59805,⟨[],[(0,⟨[(2,true,.box 90 [.v 3,.v 3])],[],[]⟩)],c7⟩),(30618829,⟨[],[(0,⟨[],[],[(10,.v 3)]⟩)],c7⟩),(30618831,⟨[],[(0,⟨[],[],[(11,.v 3)]⟩)],c7⟩)] (fc (agy L) f0) Tryz.func27
def aji:FT (Xq L):=kf [] (fc (aet L) (fc (MS L) (fc (K5 L) f0))) Tryz.func127
def aoc:FT (adL L):=kf [] f0 Tryz.func264
def alZ:FT (aqr L):=kf [(26,⟨[],[(1,⟨[],[],[(4,.v 3)]⟩),(2,⟨[],[],[]⟩)],c6 ⟨[],[],[(8,.v 3)]⟩⟩)] (fc (aoc L) f0) Tryz.func306
def Us:FT (aal L):=kf [] (fc (alZ L) f0) Tryz.func263
def SZ:FT (aga L):=kf [] (fc (Us L) f0) Tryz.func202
def X5:FT (Ua L):=kf [] (fc (SZ L) f0) Tryz.func201
def Va:FT (afK L):=kf [(26,⟨[],[(1,⟨[],[],[(4,.v 3)]⟩),(2,⟨[],[],[]⟩)],c6 ⟨[],[],[(8,.v 3)]⟩⟩)] (fc (X5 L) f0) Tryz.func262
def aa4:FT (aqg L):=kf [] (fc (Va L) f0) Tryz.func200
def af6:FT (aab L):=kf [] (fc (aa4 L) f0) Tryz.func128
def ad5:FT (afU L):=kf [(28,⟨[],[(0,⟨[],[],[(40,.v 4)]⟩)],c7⟩),(506,⟨[],[(1,⟨[],[],[(2,.b false)]⟩),(2,⟨[],[],[]⟩)],c6 ⟨[],[],[(48,.v 3)]⟩⟩),(129638,⟨[],[(1,⟨[],[],[(2,.b false)]⟩),(4,⟨[],[],[]⟩)],c6 ⟨[],[],[(59,.v 3)]⟩⟩),(16593714,⟨[],[(0,⟨[],[],[(74,.v 4)]⟩)],c7⟩)] (fc (Cm L) (fc (Tw L) (fc (SZ L) f0))) Tryz.func129
def anV:FT (Wk L):=kf [] (fc (PS L) (fc (sA L) (fc (vO L) f0))) Tryz.func130
def agJ:FT (acO L):=kf [(58,⟨[],[(2,⟨[],[],[(3,.v 22)]⟩)],c6 ⟨[],[(3,[],.aap 3 22)],[(3,.r 1),(8,.v 3)]⟩⟩),(7474,⟨[],[(0,⟨[],[],[(16,.v 4)]⟩)],c7⟩),(7475,⟨[],[(0,⟨[(1,false,.aap 3 22)],[],[(3,.r 1)]⟩)],c7⟩),(14950,⟨[3],[],c7⟩)] (fc (aeE L) (fc (ao4 L) (fc (Yd L) (fc (aee L) (fc (aoE L) (fc (aji L) (fc (af6 L) (fc (ad5 L) (fc (anV L) f0))))))))) Tryz.func23
def alw:FT (aih L):=kf [(62,⟨[3,6],[],c7⟩),(126,⟨[1,3,4,5,6,8,10],[],c7⟩),(254,⟨[6],[],c7⟩)] (fc (Py L) (fc (Zy L) (fc (agJ L) f0))) Tryz.func9
def ajw:FT (Zq L):=kf [] f0 Tryz.func10
def aor:FT (afa L):=kf [] f0 Tryz.func19
def oC:FT (akI L):=kf [] (fc (aor L) f0) Tryz.func13
def zn:FT (abV L):=kf [] (fc (oC L) f0) Tryz.func32
def tf:FT (ahA L):=kf [] (fc (oC L) f0) Tryz.func40
def Yf:FT (am1 L):=kf [(61,⟨[],[(0,⟨[],[],[(4,.v 3)]⟩)],c7⟩),(250,⟨[],[(2,⟨[(0,true,.box 122 [.v 22,.v 3]),(2,true,.box 30 [.v 27,.r 3])],[(100002,[1],.aap 115 28)],[]⟩)],c6 ⟨[(0,true,.box 122 [.v 22,.v 3]),(2,true,.box 30 [.r 3,.r 4])],[(100002,[0],.aap 117 27),(100002,[1],.aap 115 28)],[(5,.v 3)]⟩⟩),(1018,⟨[],[(4,⟨[(0,true,.box 122 [.v 22,.v 3]),(2,true,.box 30 [.v 27,.r 3]),(3,false,.aap 115 28)],[],[]⟩)],c6 ⟨[(0,true,.box 122 [.v 22,.v 3]),(2,true,.box 30 [.v 27,.r 3]),(3,false,.aap 115 28)],[],[(7,.v 3)]⟩⟩),(2042,⟨[],[(6,⟨[(0,true,.box 122 [.v 22,.v 3]),(2,true,.box 30 [.v 27,.r 3]),(3,false,.aap 115 28)],[],[]⟩)],c6 ⟨[(0,true,.box 122 [.v 22,.v 3]),(2,true,.box 30 [.v 27,.r 3]),(3,false,.aap 115 28)],[],[(9,.v 3)]⟩⟩),(4004,⟨[12],[(0,⟨[(0,true,.box 122 [.v 22,.v 3]),(2,true,.box 30 [.r 3,.r 4]),(3,false,.aap 117 27)],[],[]⟩)],c7⟩),(16336,⟨[],[(0,⟨[],[],[(83,.v 4)]⟩)],c7⟩),(65170,⟨[9,13],[],c7⟩),(65171,⟨[3],[],c7⟩),(130706,⟨[7,11],[],c7⟩),(522831,⟨[],[(0,⟨[(2,true,.box 30 [.v 27,.r 3]),(3,false,.aap 115 28)],[],[]⟩)],c7⟩),(1045662,⟨[3],[],c7⟩)] (fc (oC L) (fc (zn L) (fc (tf L) f0))) Tryz.func37
def adv:FT (aeh L):=kf [(58,⟨[],[(2,⟨[(0,true,.box 122 [.v 22,.v 3])],[],[(5,.v 22)]⟩)],c6 ⟨[(0,true,.box 122 [.v 22,.v 3])],[(5,[],.aap 3 22)],[(5,.r 1),(6,.v 3)]⟩⟩),(1865,⟨[],[(0,⟨[(1,false,.aap 3 22)],[],[(5,.r 1)]⟩)],c7⟩),(3730,⟨[2],[],c7⟩)] (fc (oC L) f0) Tryz.func24
def abn:FT (ajQ L):=kf [(58,⟨[],[(2,⟨[(0,true,.box 122 [.v 22,.v 3])],[],[(5,.v 32)]⟩)],c6 ⟨[(0,true,.box 122 [.v 22,.v 3])],[(5,[],.aap 120 32)],[(5,.r 2),(6,.v 3)]⟩⟩),(1864,⟨[6,12],[],c7⟩),(3731,⟨[2],[],c7⟩),(7461,⟨[],[(0,⟨[(0,true,.box 122 [.v 22,.v 3]),(3,true,.box 120 (alh [22,3,3,3]))],[],[]⟩)],c7⟩),(14922,⟨[5],[],c7⟩)] (fc (oC L) (fc (adv L) (fc (tf L) f0))) Tryz.func38
def agq:FT (apq L):=kf [(58,⟨[],[(2,⟨[(0,true,.box 122 [.v 22,.v 3])],[],[(5,.v 36)]⟩)],c6 ⟨[(0,true,.box 122 [.v 22,.v 3])],[(5,[],.aap 90 36)],[(5,.r 2),(6,.v 3)]⟩⟩),(1864,⟨[1],[],c7⟩),(3730,⟨[3,8,12],[],c7⟩),(7463,⟨[],[(0,⟨[(2,true,.aap 90 36)],[],[]⟩)],c7⟩)] (fc (tf L) (fc (zn L) f0)) Tryz.func39
def alb:FT (Zt L):=kf [] f0 Tryz.func275
def ai4:FT (al3 L):=kf [(12,⟨[],[(0,⟨[],[],[(16,.v 4)]⟩)],c7⟩),(58,⟨[],[(1,⟨[],[],[(2,.i .i64 1)]⟩),(2,⟨[],[],[]⟩)],c6 ⟨[],[],[(3,.v 3)]⟩⟩),(122,⟨[],[(1,⟨[],[],[(2,.v 67)]⟩),(4,⟨[],[],[]⟩)],c6 ⟨[],[],[(5,.v 3)]⟩⟩),(3730,⟨[],[(0,⟨[],[],[(35,.v 4)]⟩)],c7⟩),(15652,⟨[],[(0,⟨[],[],[(78,.v 4)]⟩)],c7⟩),(15654,⟨[],[(0,⟨[],[],[(108,.v 4)]⟩)],c7⟩)] (fc (alb L) f0) Tryz.func219
def an1:FT (Vh L):=kf [] f0 Tryz.func220
def alK:FT (abZ L):=kf [(12,⟨[],[(0,⟨[],[],[(48,.v 4)]⟩)],c7⟩),(509,⟨[],[(0,⟨[],[],[(17,.v 3)]⟩)],c7⟩),(1021,⟨[],[(0,⟨[],[],[(17,.v 3)]⟩)],c7⟩)] (fc (ai4 L) (fc (an1 L) f0)) Tryz.func151
def Uk:FT (aox L):=kf [] (fc (alK L) f0) Tryz.func91
def aaa:FT (Yn L):=kf [(26,⟨[],[(1,⟨[],[],[(4,.b true)]⟩),(2,⟨[],[],[]⟩)],c6 ⟨[],[],[(5,.v 3)]⟩⟩)] f0 Tryz.func26
def Xt:FT (ael L):=kf [(58,⟨[],[(2,⟨[],[],[(5,.v 22)]⟩)],c6 ⟨[],[(5,[],.aap 3 22)],[(5,.r 1),(6,.v 3)]⟩⟩),(3730,⟨[],[(0,⟨[],[],[(8,.v 4)]⟩)],c7⟩),(7462,⟨[],[(0,⟨[],[],[(47,.v 4)]⟩)],c7⟩),(7463,⟨[],[(0,⟨[(1,false,.aap 3 22)],[],[(5,.r 1)]⟩)],c7⟩),(14926,⟨[2],[],c7⟩)] (fc (Uk L) (fc (aaa L) f0)) Tryz.func41
def ada:FT (Ul L):=kf [(250,⟨[],[(2,⟨[(0,true,.box 122 [.v 22,.v 3]),(2,true,.box 60 [.v 27,.v 28,.v 32,.v 22,.v 22,.v 36,.v 22,.v 22,.v 22,.i .i64 0,.v 22,.i .i64 0,.i .i64 0,.v 22])],[],[]⟩)],c6 ⟨[(0,true,.box 122 [.v 22,.v 3]),(2,true,.box 60 [.v 27,.v 28,.v 32,.r 3,.r 4,.v 36,.v 22,.v 22,.v 22,.i .i64 0,.v 22,.i .i64 0,.i .i64 0,.v 22])],[(100002,[3],.aap 3 22),(100002,[4],.aap 3 22)],[(5,.v 3)]⟩⟩),(254,⟨[1],[],c7⟩),(1021,⟨[],[(0,⟨[(0,true,.box 122 [.v 22,.v 3]),(2,true,.box 60 [.v 27,.v 28,.v 32,.v 22,.v 22,.v 36,.v 22,.v 22,.v 22,.v 3,.v 22,.i .i64 0,.i .i64 0,.v 22])],[],[]⟩)],c7⟩),(1022,⟨[2,4,8],[],c7⟩),(2042,⟨[3],[],c7⟩),(4004,⟨[5,12],[],c7⟩),(4092,⟨[],[(0,⟨[(0,true,.box 122 [.v 22,.v 3])],[],[(77,.v 4)]⟩)],c7⟩),(4093,⟨[],[(0,⟨[(2,true,.box 60 (alh [27,28,32,22,22,36,22,22,22,3,22,3,3,22]))],[],[]⟩)],c7⟩),(8186,⟨[4],[],c7⟩),(16380,⟨[],[(0,⟨[(0,true,.box 122 [.v 22,.v 3])],[],[(99,.v 4)]⟩)],c7⟩),(32762,⟨[6],[],c7⟩)] (fc (Yf L) (fc (abn L) (fc (oC L) (fc (agq L) (fc (tf L) (fc (zn L) (fc (Xt L) f0))))))) Tryz.func12
def aaR:FT (aaU L):=kf [] (fc (Py L) f0) Tryz.func11
def afT:FT (agD L):=kf [(6,⟨[1],[],c7⟩),(117,⟨[],[(0,⟨[(0,true,.box 122 [.v 22,.v 3]),(2,true,.box 65 (alh [3,3,3,3]))],[],[]⟩)],c7⟩),(234,⟨[1],[],c7⟩),(942,⟨[7],[],c7⟩),(3774,⟨[4,7],[],c7⟩),(120831,⟨[],[(0,⟨[(0,true,.box 122 [.v 22,.v 3]),(2,true,.box 65 [.v 3,.v 3,.v 3,.i .i64 0])],[],[]⟩)],c7⟩),(3866621,⟨[],[(0,⟨[],[],[(82,.v 4)]⟩)],c7⟩),(61865981,⟨[],[(0,⟨[],[],[(95,.v 4)]⟩)],c7⟩)] (fc (tf L) (fc (oC L) f0)) Tryz.func42
def adO:FT (WZ L):=kf [(58,⟨[],[(2,⟨[(0,true,.box 122 [.v 22,.v 3])],[],[(7,.v 62)]⟩)],c6 ⟨[(0,true,.box 122 [.v 22,.v 3])],[(7,[],.aap 65 62)],[(7,.r 2),(8,.v 3)]⟩⟩),(464,⟨[],[(0,⟨[],[],[(21,.v 4)]⟩)],c7⟩),(466,⟨[],[(0,⟨[(0,true,.box 122 [.v 22,.v 3]),(2,false,.aap 65 62)],[],[(7,.r 2)]⟩)],c7⟩),(3731,⟨[25],[],c7⟩),(7460,⟨[],[(0,⟨[(0,true,.box 122 [.v 22,.v 3])],[],[(54,.v 4)]⟩)],c7⟩),(29834,⟨[5],[],c7⟩),(59666,⟨[],[(4,⟨[(2,false,.aap 65 62)],[],[(7,.r 2)]⟩)],c6 ⟨[(2,false,.aap 65 62)],[],[(7,.r 2),(9,.v 3)]⟩⟩),(59690,⟨[3,9,12],[],c7⟩),(954660,⟨[3],[],c7⟩)] (fc (oC L) (fc (zn L) (fc (tf L) (fc (afT L) f0)))) Tryz.func14
def aiL:FT (adn L):=kf [] (fc (Sr L) f0) Tryz.func18
def asB:FT (at7 L):=kf [] f0 Tryz.func74
def asg:FT (auS L):=kf [(26,⟨[],[(1,⟨[],[],[(4,.v 3)]⟩),(2,⟨[],[],[]⟩)],c6 ⟨[],[],[(8,.v 3)]⟩⟩)] (fc (asB L) f0) s7
def as5:FT (asH L):=kf [(122,⟨[],[(1,⟨[(2,false,.dead),(4,false,.dead)],[],[(8,.i .i64 0),(9,.i .i64 45)]⟩),(3,⟨[(2,false,.dead),(4,true,.box 3 [.v 3])],[],[(11,.v 3)]⟩)],c6 ⟨[(2,false,.aap 3 22),(4,true,.box 3 [.v 3])],[],[(11,.v 3),(13,.r 2),(36,.v 3)]⟩⟩),(62668,⟨[],[(0,⟨[],[],[(65,.v 4)]⟩)],c7⟩),(62671,⟨[2],[],c7⟩)] (fc (KB L) (fc (aia L) (fc (auQ L) (fc (asg L) (fc (SB L) (fc (jP L) f0)))))) Tryz.func28
def asI:FT (ar8 L):=kf [(1018,⟨[],[(1,⟨[(1,false,.dead)],[],[(2,.b false)]⟩),(2,⟨[(1,false,.dead)],[],[]⟩)],c6 ⟨[(1,true,.box 56 amv)],[],[(7,.v 3)]⟩⟩),(8146,⟨[],[(0,⟨[(1,true,.box 56 amv)],[],[]⟩),(1,⟨[(1,false,.dead)],[],[(2,.b false)]⟩)],c7⟩),(260684,⟨[],[(0,⟨[],[],[(70,.v 4)]⟩)],c7⟩),(521374,⟨[],[(1,⟨[],[],[(2,.b false)]⟩),(4,⟨[],[],[]⟩)],c6 ⟨[],[],[(9,.v 3)]⟩⟩),(266943642,⟨[],[(6,⟨[],[],[(11,.v 4)]⟩)],c6 ⟨[],[],[(11,.v 4),(12,.v 3)]⟩⟩),(4271098276,⟨[],[(0,⟨[],[],[(11,.v 4)]⟩)],c7⟩),(4271098366,⟨[],[(0,⟨[],[],[(194,.v 4)]⟩)],c7⟩),(8542196730,⟨[],[(8,⟨[],[],[(15,.v 4)]⟩)],c6 ⟨[],[],[(15,.v 4),(21,.v 3)]⟩⟩),(136675147684,⟨[],[(0,⟨[],[],[(15,.v 4)]⟩)],c7⟩)] (fc (K0 L) (fc (alw L) (fc (ajw L) (fc (ada L) (fc (aaR L) (fc (adO L) (fc (NW L) (fc (aiL L) (fc (as5 L) (fc (VW L) (fc (aaa L) f0))))))))))) Tryz.func6
end Go.X.T
namespace Go.X.T
open Go Go.Aml
def ae2{a:Int}(c: -9223372036854775808<=a)(b:a<=9223372036854775807):c3 c4 a=a:=by
 rw[h8];omega
def aoI{a:Int}(c:0<=a)(b:a<=255):L0.wrap a=a:=by
 unfold yn;simp[yv,vd];omega
def U3{a:Int}(c:0<=a)(b:a<=18446744073709551615):Kr.wrap a=a:=by
 unfold yn;simp[yv,vd];omega
def Ok{a:Type}(c:Option a)(Q:a->Prop):Prop:=∃b,c=c6 b/\Q b
def ae{b:Type}{a:b}{Q:b->Prop}(c:Q a):Ok (c6 a) Q:=⟨a,rfl,c⟩
def aD{b d:Type}{f:Option b}{c:b->Option d}{Q:b->Prop}{e:d->Prop}(i:Ok f Q)(g:∀a,Q a->Ok (c a) e):Ok (f.bind c) e:=by
 obtain⟨a,rfl,h⟩:=i;exact g a h
def WI{b:Type}{d:Option b}{Q c:b->Prop}(h:Ok d Q)(e:∀a,Q a->c a):Ok d c:=by
 obtain⟨a,f,g⟩:=h;exact⟨a,f,e a g⟩
def dy{c:Type}{a:Bool}{e d:Option c}{b:c->Prop}(g:a=true->Ok e b)(f:a=false->Ok d b):Ok (bif a then e else d) b:=by
 cases a with
 |true=>exact g rfl
 |false=>exact f rfl
def aV{c:Type}{p:Prop}[Decidable p]{e d:Option c}{a:c->Prop}(g:p->Ok e a)(f:¬p->Ok d a):Ok (bif decide p then e else d) a:=
 dy (λb=>g (of_decide_eq_true b)) (λb=>f (of_decide_eq_false b))
def ok_eq{a:Type}{d:Option a}{b:a}{c:a->Prop}(f:d=c6 b)(e:c b):Ok d c:=⟨b,f,e⟩
def c8{b d:Type}{m:Option b}{a:b}{c:b->Option d}{e:d->Prop}(g:m=c6 a)(f:Ok (c a) e):Ok (m.bind c) e:=by subst g;exact f
def Ok.val{c:Type}{m:Option c}{a:c}(h:Ok m (·=a)):m=c6 a:=by
 obtain⟨b,h,rfl⟩:=h;exact h
def aC{b:Type}{p:Prop}[Decidable p]{a c:b}(d:p:=by omega):(bif decide p then a else c)=a:=by rw[decide_eq_true d];rfl
def aG{b:Type}{p:Prop}[Decidable p]{c a:b}(d:¬p:=by omega):(bif decide p then c else a)=a:=by rw[decide_eq_false d];rfl
def wL{d:Type}{p:Prop}[Decidable p]{c b:d}:(bif decide p then c else b)=if p then c else b:=by
 by_cases a:p
 .rw[aC a,if_pos a]
 .rw[aG a,if_neg a]
def aa{a d:Type}{b:a}{c:a->Option d}:(c6 b).bind c=c b:=rfl
def ew{p q:Prop}[Decidable p][Decidable q]{c:Option Bool}(b:c=c6 (decide q)):(bif decide p then c6 true else c)=c6 (c5 (p\/q)):=by
 subst b
 by_cases a:p
 .rw[aC a,decide_eq_true (Or.inl a)]
 .rw[aG a];congr 1;exact decide_eq_decide.2 ⟨Or.inr,λb=>b.resolve_left a⟩
def fm{p q:Prop}[Decidable p][Decidable q]{c:Option Bool}(a:c=c6 (decide q)):(bif decide p then c else c6 false)=c6 (c5 (p/\q)):=by
 subst a
 by_cases b:p
 .rw[aC b];congr 1;exact decide_eq_decide.2 ⟨λa=>⟨b,a⟩,λa=>a.2⟩
 .rw[aG b,decide_eq_false (λa=>b a.1)]
def qC{b:Type}{a:List b}{i:Int}(h0:0<=i)(c:i<(a.length:Int)):aj a i=c6 (a[i.toNat]'(by omega)):=by
 unfold aj;rw[if_pos h0];exact dk (by omega)
def bn{c:Type}{b:List c}{a:Nat}:aj b (a:Int)=b[a]? :=by
 unfold aj;rw[if_pos (by omega),la]
def fC{a:Type}{c:List a}{i:Nat}{b:a}(d:c[i]?=c6 b):b∈c:=fe d
def l8{d:Type}{c:List d}{a b:Int}(h0:0<=a)(f:a<=b)(e:b<=(c.length:Int)):eG c a b=c6 ((c.take b.toNat).drop a.toNat):=by
 unfold eG;rw[if_pos ⟨h0,f,e⟩]
def pN{d:Type}{c:Nat}{b a:List d}(e:(b.length+a.length)*c<=140737488355328):bj c b a=c6 (b++a):=by
 unfold bj;rw[if_pos e]
def nS{c:Type}{b:Nat}{z:c}{a:Int}(h0:0<=a)(d:a.toNat*b<=140737488355328):gP b z a=c6 (List.replicate a.toNat z):=by
 unfold gP;rw[if_pos ⟨h0,d⟩]
def D7{a b:Int}(c:b≠0):nG a b=c6 (a.tmod b):=by
 unfold nG;rw[if_neg c]
def Ek{a:IntKind}{c b:Int}(d:b≠0):ph a c b=c6 (a.wrap (c.tdiv b)):=by
 unfold ph;rw[if_neg d]
def AD{a:IntKind}{c b:Int}(d:0<=b):iN a c b=c6 (c.fdiv (2^ (min b.toNat a.bits))):=by
 unfold iN;rw[if_pos d]
def ahO{a:IntKind}{c b:Int}(d:0<=b):uU a c b=c6 (a.wrap (c*2^ (min b.toNat a.bits))):=by
 unfold uU;rw[if_pos d]
def aJ{n:Int}(b: -9223372036854775808<=n:=by omega)(a:n<=9223372036854775807:=by omega):c3 c4 n=n:=ae2 b a
def w8{a:Int}(c:0<=a)(b:a<=255):L0.wrap a=a:=aoI c b
def mB{n:Int}(b:0<=n)(a:n<=18446744073709551615):Kr.wrap n=n:=U3 b a
def iO{a c:Type}{f:a->Option (a⊕c)}{b a':a}(d:f b=c6 (.inl a')):bO f b=bO f a':=by
 rw[Qk,d];rfl
def fZ{a c:Type}{f:a->Option (a⊕c)}{d:a}{b:c}(e:f d=c6 (.inr b)):bO f d=c6 b:=by
 rw[Qk,e];rfl
def oa{c l:Type}{f:c->Option (c⊕l)}(h:c->Prop)(e:c->Nat)(k:l->Prop)
 (step:∀a,h a->Ok (f a) λi=>match i with | .inl d=>h d/\e d<e a | .inr b=>k b):∀a,h a->Ok (bO f a) k:=by
 intro a p;generalize n:e a=m
 induction m using sT generalizing a with
 |_ m o=>
  obtain⟨i,j,g⟩:=step a p;cases i with
  |inl d=>
   rw[iO j];exact o _ (n▸g.2) d g.1 rfl
  |inr b=>exact⟨b,fZ j,g⟩
def Bytes(a:List Int):Prop:=∀b∈a,0<=b/\b<=255
def Bytes.nil:Bytes []:=by intro b h;cases h
def Bytes.cons{a:Int}{b:List Int}(h:0<=a/\a<=255)(k:Bytes b):Bytes (a::b):=by
 intro x d;rcases hI.1 d with rfl |c
 .exact h
 .exact k x c
def Bytes.take{a:List Int}(h:Bytes a)(n:Nat):Bytes (a.take n):=λx c=>h x (ie c)
end Go.X.T
namespace Go.Top
abbrev T5:Int:=1099511627776
abbrev SM:Int:=2147483648
abbrev vG:=Int->Int->Int->Prop
structure Tr where
 pl:Int->Int
 L3:Int->Int
def adJ(A:vG)(e b:Int)(c:Tr):Prop:=
 ∀a,e<=a->a<b->(c.pl (a+1)=c.pl a/\c.L3 (a+1)=c.L3 a)\/∃d,A (c.pl a) (c.pl (a+1)) d/\c.L3 a+d<=a+1/\c.L3 (a+1)=a+1
def pG(A:vG)(b:Int)(c:Int->Prop)(g:Int->Int):Prop:=
 ∀p q a,A p q a->c q->g p<T5->max (g p+a) b<=SM->g q<=max (g p+a) b
def eN(A:vG)(a:Int)(g:Int->Int):Prop:=pG A a (λ_=>True) g
structure Tr.Ok (tr:Tr) (T:Int):Prop where
 hi:T<=SM
 L3:∀u,0<=u->u<=T->0<=tr.L3 u/\tr.L3 u<=u
structure Snd (A:vG) (tr:Tr) (T τ:Int) (g:Int->Int):Prop where
 lo:0<=τ
 le:τ<=T
 mv:adJ A τ T tr
 ok:∀u,τ<=u->u<=T->g (tr.pl u)<=tr.L3 u
section
variable {A:vG}{tr:Tr}{T τ:Int}{g g':Int->Int}
def adJ.less{a b d c:Int}(h:adJ A a b tr)(l:a<=d)(k:c<=b):adJ A d c tr:=λe j m=>h e (by omega) (by omega)
def stay(j:tr.Ok T){S:Int->Prop}{h a b:Int}(n:pG A h S g)(z:0<=a)(v:b<=T)(t:adJ A a b tr)(w:h<=a+1)(s:∀d,a<d->d<=b->S (tr.pl d))(h0:g (tr.pl a)<=tr.L3 a):
 ∀d,a<=d->d<=b->g (tr.pl d)<=tr.L3 d:=by
 have o:∀c:Nat,a+c<=b->g (tr.pl (a+c))<=tr.L3 (a+c):=by
  intro c
  induction c with
  |zero=>intro _;simpa using h0
  |succ c p=>
   intro y;have i:=p (by omega);have e:a+((c+1:Nat):Int)=a+(c:Int)+1:=by omega
   have m:=j.L3 (a+c) (by omega) (by omega);have x:=j.hi;rw[e];rcases t (a+c) (by omega) (by omega) with⟨f,k⟩ |⟨l,f,k,r⟩
   .rw[f,k];exact i
   .have q:=n _ _ l f (s _ (by omega) (by omega)) (by unfold T5 SM at*;omega);rw[r];have u:max (g (tr.pl (a+c))+l) h<=a+c+1:=by omega
    exact hz (q (by unfold SM at*;omega)) u
 intro d i m;have:=o (d -a).toNat (by omega);have e:a+((d -a).toNat:Int)=d:=by omega
 rwa [e] at this
def Snd.raise(h:Snd A tr T τ g){c:Int}(k:τ<=c)(j:c<=T)(l:∀a,c<=a->a<=T->g' (tr.pl a)<=g (tr.pl a)):Snd A tr T c g':=
 ⟨by have:=h.lo;omega,j,h.mv.less k (by omega),λa e d=>hz (l a e d) (h.ok a (by omega) d)⟩
def Snd.Ls(k:tr.Ok T)(h:Snd A tr T τ g){L from_ to:Int}(o:τ<=from_)(n:from_<=L)(m:L<=to)(l:to<=T)(e:g' (tr.pl L)<=g (tr.pl L))(j:eN A from_ g'):Snd A tr T to g':=by
 have s:=h.lo;have:=stay k (S:=λ_=>True) (a:=L) (b:=T) j (by omega) (ej _) (h.mv.less (by omega) (ej _)) (by omega) (λ_ _ _=>trivial) (hz e (h.ok L (by omega) (by omega)));exact⟨by omega,l,h.mv.less (by omega) (ej _),λd t c=>this d (by omega) c⟩
def am4(f:Int->Prop)(d b:Int)(m:d<=b)(k:¬∀a,d<=a->a<=b->f a):∃a,d<=a/\a<=b/\¬f a/\∀v,a<v->v<=b->f v:=by
 generalize s:(b -d).toNat=j
 induction j generalizing b with
 |zero=>
  have c:d=b:=by omega
  subst c;refine⟨d,by omega,by omega,λq=>k λa e h=>?_,λv e h=>by omega⟩
  have c:a=d:=by omega
  rw[c];exact q
 |succ j o=>
  by_cases i:f b
  .obtain⟨a,e,h,l,p⟩:=o (b -1) (by omega) (λn=>k λa e h=>by
    by_cases c:a=b
    .rw[c];exact i
    .exact n a e (by omega)) (by omega)
   refine⟨a,e,by omega,l,λv r t=>?_⟩
   by_cases c:v=b
   .rw[c];exact i
   .exact p v r (by omega)
  .exact⟨b,m,ej _,i,λv e h=>by omega⟩
def Snd.agP(x:tr.Ok T)(h:Snd A tr T τ g){S:Int->Prop}[DecidablePred S]{b to blind:Int}{g1:Int->Int}(K:τ<=b)(l:to<=T)(I:0<=blind)(N:blind<to -b)
 (n:∀s e,b<=s->e<=to->s<=e->(∀c,s<=c->c<=e->S (tr.pl c))->e -s<=blind)
 (o:∀c,b<=c->c<=to->¬S (tr.pl c)->g1 (tr.pl c)<=g (tr.pl c)) (G:pG A (to -blind) S g1) (y:g' (tr.pl to)<=g1 (tr.pl to)) (B:eN A to g'):Snd A tr T to g':=by
 have M:=h.lo;have H:g1 (tr.pl to)<=tr.L3 to:=by
  by_cases w:S (tr.pl to)
  .have E:¬∀c,b<=c->c<=to->S (tr.pl c):=λD=>by
    have:=n b to (ej _) (ej _) (by omega) D;omega
   obtain⟨d,F,m,k,t⟩:=am4 (λc=>S (tr.pl c)) b to (by omega) E;have L:d<to:=by
    rcases Int.lt_or_eq_of_le m with h |h
    .exact h
    .subst h;exact absurd w k
   have:=n (d+1) to (by omega) (ej _) (by omega) λc u j=>t c (by omega) j
   exact stay x (S:=S) (a:=d) (b:=to) G (by omega) l (h.mv.less (by omega) (by omega)) (by omega) (λc u j=>t c u j) (hz (o d F m k) (h.ok d (by omega) (by omega))) to (by omega) (ej _)
  .exact hz (o to (by omega) (ej _) w) (h.ok to (by omega) (by omega))
 have:=stay x (S:=λ_=>True) (a:=to) (b:=T) B (by omega) (ej _) (h.mv.less (by omega) (ej _)) (by omega) (λ_ _ _=>trivial) (hz y H);exact⟨by omega,l,h.mv.less (by omega) (ej _),λc J C=>this c (by omega) C⟩
def Tr.ext(tr:Tr)(T d p a:Int):Tr:=⟨λc=>if c<=T then tr.pl c else if c<d then tr.pl T else p,λc=>if c<=T then tr.L3 c else if c<d then tr.L3 T else a⟩
def Tr.abS{d p a c:Int}(h:c<=T):(tr.ext T d p a).pl c=tr.pl c/\(tr.ext T d p a).L3 c=tr.L3 c:=by
 unfold Tr.ext;exact⟨if_pos h,if_pos h⟩
def Tr.ab8{d p a c:Int}(h:T<=c)(j:c<d):(tr.ext T d p a).pl c=tr.pl T/\(tr.ext T d p a).L3 c=tr.L3 T:=by
 unfold Tr.ext
 by_cases e:c<=T
 .have:c=T:=by omega
  subst this;exact⟨if_pos e,if_pos e⟩
 .exact⟨by dsimp only;rw[if_neg e,if_pos j],by dsimp only;rw[if_neg e,if_pos j]⟩
def Tr.acW{c p a:Int}(h:T<c):(tr.ext T c p a).pl c=p/\(tr.ext T c p a).L3 c=a:=by
 unfold Tr.ext;exact⟨by dsimp only;rw[if_neg (by omega),if_neg (by omega)],by dsimp only;rw[if_neg (by omega),if_neg (by omega)]⟩
def Tr.Ok.ext(j:tr.Ok T){c p a:Int}(h0:0<=T)(h:T<c)(l:c<=SM)(m:0<=a/\a<=c):(tr.ext T c p a).Ok c:=⟨l,λd k o=>by
 by_cases e:d<=T
 .rw[(Tr.abS e).2];exact j.L3 d k e
 .by_cases n:d<c
  .rw[(Tr.ab8 (by omega) n).2];have:=j.L3 T h0 (ej _);omega
  .have:d=c:=by omega
   subst this;rw[(Tr.acW h).2];exact m⟩
def Snd.tick(D:tr.Ok T)(h:Snd A tr T τ g)(y:eN A τ g){d p a:Int}(m:T<d)(F:d<=SM)(w:(p=tr.pl T/\a=tr.L3 T)\/∃n,A (tr.pl T) p n/\tr.L3 T+n<=d/\a=d):Snd A (tr.ext T d p a) d τ g:=by
 have E:=h.lo;have B:=h.le;have G:=D.L3 T (by omega) (ej _);have x:=h.ok T B (ej _);refine⟨E,by omega,λc o u=>?_,λc o u=>?_⟩
 .by_cases e:c<T
  .rw[(Tr.abS (show c<=T by omega)).1,(Tr.abS (show c<=T by omega)).2,(Tr.abS (show c+1<=T by omega)).1,(Tr.abS (show c+1<=T by omega)).2];exact h.mv c o e
  .rw[(Tr.ab8 (show T<=c by omega) u).1,(Tr.ab8 (show T<=c by omega) u).2]
   by_cases l:c+1<d
   .rw[(Tr.ab8 (show T<=c+1 by omega) l).1,(Tr.ab8 (show T<=c+1 by omega) l).2];exact .inl ⟨rfl,rfl⟩
   .have t:c+1=d:=by omega
    rw[t,(Tr.acW m).1,(Tr.acW m).2];rcases w with⟨j,k⟩ |⟨n,j,k,s⟩
    .exact .inl ⟨j,k⟩
    .exact .inr ⟨n,j,k,s⟩
 .by_cases e:c<=T
  .rw[(Tr.abS e).1,(Tr.abS e).2];exact h.ok c o e
  .by_cases l:c<d
   .rw[(Tr.ab8 (show T<=c by omega) l).1,(Tr.ab8 (show T<=c by omega) l).2];exact x
   .have t:c=d:=by omega
    rw[t,(Tr.acW m).1,(Tr.acW m).2];rcases w with⟨j,k⟩ |⟨n,j,k,s⟩
    .rw[j,k];exact x
    .rw[s];have C:max (g (tr.pl T)+n) τ<=d:=by omega
     exact hz (y _ _ n j trivial (by unfold T5 SM at*;omega) (by unfold SM at*;omega)) C
end
structure abc where
 t:Int
 num:Int
 bo:List Int
structure aaA (S:Int->Prop) (P M:Int) (tp:Int->Int->Int) (T:Int) (lk:Nat->abc) (c:Nat):Prop where
 bG:∀i,i<c->(lk i).t<=T
 seen:∀i X,i<c->X∈(lk i).bo->S (tp X (lk i).t)
 adj:∀i,i+1<c->(lk i).t<=(lk (i+1)).t/\(((lk (i+1)).num=(lk i).num+1/\(lk (i+1)).t - (lk i).t<=P)\/(lk (i+1)).num=(lk i).num+2)
 win:∀X (i:Nat),i+M.toNat<c->∃j,i<=j/\j<=i+M.toNat/\(S (tp X (lk j).t)->X∈(lk j).bo)
def aaA.mono{j:Int->Prop}{d m T:Int}{tp:Int->Int->Int}{lk:Nat->abc}{c:Nat}(h:aaA j d m tp T lk c):∀i k:Nat,i+k<c->(lk i).num+k<=(lk (i+k)).num:=by
 intro i k
 induction k with
 |zero=>intro _;simp
 |succ k l=>
  intro n;have o:=l (by omega);have a:=(h.adj (i+k) (by omega)).2;have e:i+(k+1)=i+k+1:=by omega
  rw[e];rcases a with a |a <;> omega
def aaA.next{l:Int->Prop}{d m T:Int}{tp:Int->Int->Int}{lk:Nat->abc}{c:Nat}(h:aaA l d m tp T lk c){i a:Nat}(hi:i<c)(j:a<c)(n:(lk a).num=(lk i).num+1):a=i+1/\(lk a).t - (lk i).t<=d:=by
 have e:a=i+1:=by
  by_cases o:a<=i
  .have:=h.mono a (i -a) (by omega);rw[show a+(i -a)=i by omega] at this;omega
  .have:=h.mono i (a -i) (by omega);rw[show i+(a -i)=a by omega] at this;omega
 subst e;refine⟨rfl,?_⟩
 rcases(h.adj i j).2 with k |k <;> omega
def aaA.run{l:Int->Prop}{e o T:Int}{tp:Int->Int->Int}{lk:Nat->abc}{c:Nat}(h:aaA l e o tp T lk c)(ix:Nat->Nat)(m:Nat)(d:∀a,a<=m->ix a<c)(k:∀a,a<m->(lk (ix (a+1))).num=(lk (ix a)).num+1):
 ∀a,a<=m->ix a=ix 0+a:=by
 intro a
 induction a with
 |zero=>intro _;rfl
 |succ a n=>
  intro j;have:=(h.next (d a (by omega)) (d (a+1) j) (k a (by omega))).1;rw[this,n (by omega)];omega
def aqQ(f:Nat->Int)(c:Int)(d:Nat)(q:c<f d):∃e,e<=d/\c<f e/\∀i,i<e->f i<=c:=by
 induction d with
 |zero=>exact⟨0,dv _,q,λi j=>by omega⟩
 |succ d h=>
  by_cases o:c<f d
  .obtain⟨e,u,b,t⟩:=h o;exact⟨e,by omega,b,t⟩
  .by_cases m:∀i,i<d+1->f i<=c
   .exact⟨d+1,dv _,q,m⟩
   .have ⟨i,j,r⟩:∃i,i<d+1/\c<f i:=j6 λn=>m λi j=>by
     by_cases k:f i<=c
     .exact k
     .exact absurd ⟨i,j,by omega⟩ n
    clear h o m
    induction i using sT with
    |_ i h=>
     by_cases p:∀a,a<i->f a<=c
     .exact⟨i,by omega,r,p⟩
     .have ⟨a,l,s⟩:∃a,a<i/\c<f a:=j6 λn=>p λa l=>by
       by_cases k:f a<=c
       .exact k
       .exact absurd ⟨a,l,by omega⟩ n
      exact h a l (by omega) s
def aaA.agP{S:Int->Prop}{j k T:Int}{tp:Int->Int->Int}{lk:Nat->abc}{c:Nat}(h:aaA S j k tp T lk c)(y:0<=j)(W:0<=k){X:Int}(ix:Nat->Nat)(m:Nat)(w:∀d,d<=m->ix d<c)(G:∀d,d<m->(lk (ix (d+1))).num=(lk (ix d)).num+1)
 (Q:∀d,d<=m->X∉(lk (ix d)).bo) {s s':Int} (h0:(lk (ix 0)).t<=s) (O:s'<=(lk (ix m)).t) (N:∀C,s<=C->C<=s'->S (tp X C)):s' -s<=(k+1)*j:=by
 by_cases P:s' -s<=(k+1)*j
 .exact P
 exfalso
 have Y:0<=(k+1)*j:=Int.mul_nonneg (by omega) y;have l:=h.run ix m w G
 let f:Nat->Int:=λd=>(lk (ix d)).t
 obtain⟨a,a1,I,M⟩:=aqQ f s m (show s<f m by show s<(lk (ix m)).t;omega);have U:1<=a:=by
  by_cases e:a=0
  .subst e;have:s<(lk (ix 0)).t:=I;omega
  .omega
 have H:∀d,d<m->f (d+1) -f d<=j:=λd t=>(h.next (w d (by omega)) (w (d+1) t) (G d t)).2
 have key:∀r:Nat,a+r<=m->f (a+r)<=s+(r+1:Int)*j:=by
  intro r
  induction r with
  |zero=>
   intro _;have n:=M (a -1) (by omega);have o:=H (a -1) (by omega);rw[show a -1+1=a by omega] at o;have e:((0:Nat)+1:Int)*j=j:=by simp
   rw[e];show f a<=s+j
   omega
  |succ r u=>
   intro F;have n:=u (by omega);have o:=H (a+r) (by omega);have e:(((r+1:Nat):Int)+1)*j=((r:Int)+1)*j+j:=by rw[show((r+1:Nat):Int)+1=((r:Int)+1)+1 by omega,Int.add_mul ((r:Int)+1),Int.one_mul]
   rw[e];show f (a+r+1)<=_
   omega
 have x:∀r:Nat,r<=k.toNat->a+r<=m:=by
  intro r
  induction r with
  |zero=>intro _;omega
  |succ r u=>
   intro F;have n:=u (by omega)
   by_cases e:a+r=m
   .have o:=key r n;rw[e] at o;have J:((r:Int)+1)*j<=(k+1)*j:=kd (by omega) y;have D:s'<=f m:=O;omega
   .omega
 have L:∀r:Nat,a+r<=m->s<f (a+r):=by
  intro r
  induction r with
  |zero=>intro _;exact I
  |succ r u=>
   intro F;have n:=u (by omega);have K:=(h.adj (ix (a+r)) (by rw[l (a+r) (by omega)];have:=w (a+r+1) (by omega);rw[l (a+r+1) (by omega)] at this;omega)).1;have e:ix (a+r)+1=ix (a+r+1):=by rw[l (a+r) (by omega),l (a+r+1) (by omega)];omega
   rw[e] at K;show s<(lk (ix (a+r+1))).t
   have o:s<(lk (ix (a+r))).t:=n;omega
 obtain⟨d,ab,Z,R⟩:=h.win X (ix a) (by
  have:=w (a+k.toNat) (x _ (dv _));rw[l _ (x _ (dv _))] at this;rw[l a a1];omega)
 have t:d=ix (a+(d -ix a)):=by
  have V:=l a a1;have aa:=l (a+(d -ix a)) (x _ (by omega));omega
 have B:=x (d -ix a) (by omega);have n:=key (d -ix a) B;have o:=L (d -ix a) B;have J:(((d -ix a:Nat):Int)+1)*j<=(k+1)*j:=kd (by omega) y;have D:f (a+(d -ix a))=(lk d).t:=by show(lk (ix (a+(d -ix a)))).t=_;rw[<-t]
 rw[D] at n o;have E:=R (N _ (by omega) (by omega));rw[t] at E;exact Q _ B E
def aaA.look{m:Int->Prop}{o j T:Int}{tp:Int->Int->Int}{lk:Nat->abc}{c:Nat}(h:aaA m o j tp T lk c){x:abc}(ht:x.t=T)(y:∀a,a∈x.bo->m (tp a T))
 (w:∀k,0<c->k=lk (c -1)->(x.num=k.num+1/\T -k.t<=o)\/x.num=k.num+2)
 (u:∀a,j.toNat<c+1->∃d,c -j.toNat<=d/\d<=c/\(m (tp a (if d=c then x else lk d).t)->a∈(if d=c then x else lk d).bo)):aaA m o j tp T (λi=>if i=c then x else lk i) (c+1):=by
 refine⟨λi hi=>?_,λi a hi n=>?_,λi hi=>?_,λa i hi=>?_⟩
 .by_cases e:i=c
  .rw[if_pos e,ht];exact ej _
  .rw[if_neg e];exact h.bG i (by omega)
 .by_cases e:i=c
  .rw[if_pos e] at n⊢;rw[ht];exact y a n
  .rw[if_neg e] at n⊢;exact h.seen i a (by omega) n
 .by_cases e:i+1=c
  .rw[if_neg (show i≠c by omega),if_pos e,ht];have l:=h.bG i (by omega);exact⟨l,w (lk i) (by omega) (by rw[<-e];rfl)⟩
  .rw[if_neg (show i≠c by omega),if_neg e];exact h.adj i (by omega)
 .by_cases e:i+j.toNat=c
  .obtain⟨d,l,t,s⟩:=u a (by omega);exact⟨d,by omega,by omega,s⟩
  .obtain⟨d,l,t,s⟩:=h.win a i (by omega);refine⟨d,l,t,?_⟩
   rw[if_neg (show d≠c by omega)];exact s
end Go.Top
namespace Go.X.T
open Go Go.Aml
def nV{e g:Type}{f:e->Option (e⊕g)}(a:Nat)(c:Nat->e)(b:g)(m:∀i,i<a->f (c i)=c6 (.inl (c (i+1))))(k:f (c a)=c6 (.inr b)):bO f (c 0)=c6 b:=by
 have l:∀d i,i+d=a->bO f (c i)=c6 b:=by
  intro d
  induction d with
  |zero=>intro i h;have:i=a:=by omega
         subst this;exact fZ k
  |succ d j=>intro i h;rw[iO (m i (by omega))];exact j (i+1) (by omega)
 exact l a 0 (by omega)
def di{m o:Type}{f:m->Option (m⊕o)}(g:Nat)(e:Nat->m->Prop)(j:o->Prop)(v:∀i a,i<g->e i a->Ok (f a) λc=>match c with | .inl p=>e (i+1) p | .inr b=>j b)
 (u:∀a,e g a->Ok (f a) λc=>match c with | .inl _=>False | .inr b=>j b):∀a,e 0 a->Ok (bO f a) j:=by
 have q:∀h i a,i+h=g->e i a->Ok (bO f a) j:=by
  intro h
  induction h with
  |zero=>
   intro i a t l;have:i=g:=by omega
   subst this;obtain⟨c,k,d⟩:=u a l;cases c with
   |inl n=>exact d.elim
   |inr b=>exact⟨b,fZ k,d⟩
  |succ h r=>
   intro i a t l;obtain⟨c,k,d⟩:=v i a (by omega) l;cases c with
   |inl n=>rw[iO k];exact r (i+1) n (by omega) d
   |inr b=>exact⟨b,fZ k,d⟩
 intro a s;exact q g 0 a (by omega) s
def jv{a:Type}(r:Nat->Option a):Nat->Nat->Option a
 |_,0=>c7
 |i,c+1=>match r i with
  |some b=>c6 b
  |none=>jv r (i+1) c
def xk{g:Type}{r:Nat->Option g}:∀{k i:Nat},jv r i k=c7↔∀a,i<=a->a<i+k->r a=c7
 |0,i=>⟨λ_ a f d=>by omega,λ_=>rfl⟩
 |k+1,i=>by
  unfold jv;cases e:r i with
  |some b=>exact⟨λc=>by simp at c,λc=>by have:=c i (dv _) (by omega);rw[e] at this;cases this⟩
  |none=>
   show jv r (i+1) k=c7↔_
   rw[xk];refine⟨λc a f d=>?_,λc a f d=>c a (by omega) (by omega)⟩
   by_cases h:a=i
   .rw[h];exact e
   .exact c a (by omega) (by omega)
def yO{f:Type}{r:Nat->Option f}{b:f}:∀{k i:Nat},jv r i k=c6 b->∃d,i<=d/\d<i+k/\r d=c6 b/\∀c,i<=c->c<d->r c=c7
 |0,i,a=>by cases a
 |k+1,i,a=>by
  unfold jv at a;cases e:r i with
  |some o=>rw[e] at a;injection a with a;subst a;exact⟨i,dv _,by omega,e,λc l j=>by omega⟩
  |none=>
   rw[e] at a;obtain⟨d,l,j,g,n⟩:=yO (r:=r) (i:=i+1) (k:=k) a;refine⟨d,by omega,by omega,g,λc p h=>?_⟩
   by_cases m:c=i
   .rw[m];exact e
   .exact n c (by omega) h
def Kp{a c:Type}(e:Option a)(d:c):a⊕c:=match e with |some b=>.inl b |none=>.inr d
def Xv{a d:Type}(c:Option a)(i:Nat):Int⊕(a⊕d):=match c with |some b=>.inr (.inl b) |none=>.inl ((i:Int)+1)
def Hf{j g:Type}{f:Int->Option (Int⊕(j⊕g))}(a:Nat)(r:Nat->Option j)(e:g)(o:∀i:Nat,i<a->f (i:Int)=c6 (Xv (r i) i))(m:f (a:Int)=c6 (.inr (.inr e))):
 bO f 0=c6 (Kp (jv r 0 a) e):=by
 have n:∀c i,i+c=a->bO f (i:Int)=c6 (Kp (jv r i c) e):=by
  intro c
  induction c with
  |zero=>intro i k;have:i=a:=by omega
         subst this;exact fZ m
  |succ c l=>
   intro i k;have d:=o i (by omega);unfold jv;cases h:r i with
   |some b=>rw[h] at d;exact fZ d
   |none=>
    rw[h] at d;rw[iO d];have:=l (i+1) (by omega);rw[show((i+1:Nat):Int)=(i:Int)+1 by omega] at this;exact this
 exact n a 0 (by omega)
def sy(b:Nat->Bool)(i:Nat):Option Unit:=bif b i then c6 () else c7
def oD{g:Type}{f:Int->Option (Int⊕(Unit⊕g))}(a:Nat)(b:Nat->Bool)(d:g)(n:∀i:Nat,i<a->f (i:Int)=c6 (bif b i then .inr (.inl ()) else .inl ((i:Int)+1)))(l:f (a:Int)=c6 (.inr (.inr d))):
 bO f 0=c6 (if ∀i,i<a->b i=false then .inr d else .inl ()):=by
 rw[Hf a (sy b) d (λi e=>by rw[n i e];unfold sy;cases b i <;> rfl) l]
 congr 1
 by_cases c:∀i,i<a->b i=false
 .rw[if_pos c,(xk (r:=sy b) (i:=0) (k:=a)).2 λj _ o=>by unfold sy;rw[c j (by omega)];rfl]
  rfl
 .rw[if_neg c];cases m:jv (sy b) 0 a with
  |some p=>rfl
  |none=>exact absurd (λi e=>by
   have:=(xk.1 m) i (ei _) (by omega);unfold sy at this;cases h:b i with
   |false=>rfl
   |true=>rw[h] at this;cases this) c
def mj{a:Type}(p:a->Bool)(c:List a)(i:Nat):Option Int:=match c[i]? with |some b=>bif p b then c6 (i:Int) else c7 |none=>c7
def gg{a:Type}(p:a->Bool)(b:List a):Int:=match jv (mj p b) 0 b.length with |some i=>i |none=>-1
def fF{d:Type}{l:List d}{P:d->Option Bool}{p:d->Bool}{f:Int->Option (Int⊕(Int⊕Unit))}(n:l.length<=4611686018427387904)(j:∀a,a∈l->P a=c6 (p a))
 (e:∀b,f b=bif c5 (b<(l.length:Int)) then(aj l b).bind λa=>(P a).bind λh=>bif h then c6 (.inr (.inl b)) else c6 (.inl (c3 c4 (b+1))) else c6 (.inr (.inr ()))):
 ((bO f 0).bind λk=>Sum.elim (λm=>c6 m) (λ_=>c6 (-1)) k)=c6 (gg p l):=by
 rw[Hf l.length (mj p l) () (λi c=>?_) (by rw[e,aG])]
 .unfold gg;cases jv (mj p l) 0 l.length <;> rfl
 .rw[e,aC,bn,dk c,aa,j _ (j5 c),aa];unfold mj;rw[dk c];cases g:p l[i] with
  |true=>simp only[g,cond_true];rfl
  |false=>simp only[g,cond_false];rw[aJ];rfl
def Aw{h:Type}{p:h->Bool}{d:List h}:(0<=gg p d)↔∃c,c∈d/\p c=true:=by
 unfold gg;cases g:jv (mj p d) 0 d.length with
 |none=>
  refine⟨λg=>by simp at g,?_⟩
  rintro⟨c,e,f⟩;obtain⟨i,j,rfl⟩:=ih.1 e;have:=(xk.1 g) i (ei _) (by omega);unfold mj at this;rw[dk j] at this;simp only[f,cond_true] at this;cases this
 |some b=>
  obtain⟨k,_,l,a,_⟩:=yO g;unfold mj at a;cases e:d[k]? with
  |none=>rw[e] at a;cases a
  |some c=>
   rw[e] at a;cases f:p c with
   |false=>simp only[f,cond_false] at a;cases a
   |true=>
    simp only[f,cond_true] at a;injection a with a
    refine⟨λ_=>⟨c,fC e,f⟩,λ_=>?_⟩
    show(0:Int)<=b
    omega
def HN{e:Type}{p:e->Bool}{l:List e}(j:0<=gg p l):∃(i:Nat) (c:e),gg p l=(i:Int)/\l[i]?=c6 c/\p c=true/\∀(d:Nat) (f:e),d<i->l[d]?=c6 f->p f=false:=by
 unfold gg at j⊢;cases k:jv (mj p l) 0 l.length with
 |none=>rw[k] at j;simp at j
 |some b=>
  obtain⟨d,_,s,a,o⟩:=yO k;unfold mj at a;cases g:l[d]? with
  |none=>rw[g] at a;cases a
  |some c=>
   rw[g] at a;cases h:p c with
   |false=>simp only[h,cond_false] at a;cases a
   |true=>
    simp only[h,cond_true] at a;injection a with a
    refine⟨d,c,a.symm,g,h,λr f m q=>?_⟩
    have:=o r (ei _) m;unfold mj at this;rw[q] at this;cases n:p f with
    |false=>rfl
    |true=>simp only[n,cond_true] at this;cases this
def gm{a:Type}{p:a->Bool}{b:List a}:c5 (0<=gg p b)=b.any p:=by
 rw[ta,decide_eq_true_iff,Aw,List.any_eq_true]
def cF(a b c:Int):cp LC a b c=c6 (c5 (b<=a/\a<=c)):=by
 unfold cp;exact fm rfl
def cj(c b:Int)(a:List Int):Prop:=∀i:Nat,i<a.length->c<=a.getD i 0/\a.getD i 0<=b/\(0<i->a.getD (i -1) 0<a.getD i 0)
instance (a b:Int) (c:List Int):Decidable (cj a b c):=by unfold cj;exact Nat.decidableBallLT _ _
def pu{a:Type}{b:List a}{i:Nat}{d c:a}(e:b[i]?=c6 c):b.getD i d=c:=by rw[List.getD_eq_getElem?_getD,e];rfl
def uu{a:List Int}{i:Nat}(b:i<a.length):aj a (i:Int)=c6 (a.getD i 0):=by rw[bn,dk b,pu (dk b)]
def kw(a:List Int)(d b:Int)(l:a.length<=4611686018427387904):iU LC a d b=c6 (c5 (cj d b a)):=by
 unfold iU;have h:bO (λg=>wx LC a d b g) 0=c6 (if ∀i,i<a.length->(λi:Nat=>c5 (¬(d<=a.getD i 0/\a.getD i 0<=b/\(0<i->a.getD (i -1) 0<a.getD i 0)))) i=false then .inr () else .inl ()):=by
  refine oD a.length _ () (λi e=>?_) ?_
  .unfold wx;rw[aC,uu e,aa];have j:(bif c5 (0<(i:Int)) then(aj a (c3 c4 ((i:Int) -1))).bind λk=>c6 (c5 (a.getD i 0<=k)) else c6 false)=c6 (c5 (0<i/\a.getD i 0<=a.getD (i -1) 0)):=by
    by_cases h0:0<i
    .rw[aC,aJ,show(i:Int) -1=((i -1:Nat):Int) by omega,uu (by omega),aa]
     congr 1
     exact decide_eq_decide.2 ⟨λc=>⟨h0,c⟩,λc=>c.2⟩
    .rw[aG]
     congr 1
     exact(decide_eq_false λc=>h0 c.1).symm
   rw[j,ew (ew rfl),aa,aJ]
   by_cases f:d<=a.getD i 0/\a.getD i 0<=b/\(0<i->a.getD (i -1) 0<a.getD i 0)
   .rw[decide_eq_false (by omega),decide_eq_false (by rw[hD];exact f)];rfl
   .rw[decide_eq_true (show a.getD i 0<d\/b<a.getD i 0\/(0<i/\a.getD i 0<=a.getD (i -1) 0) by omega),decide_eq_true f];rfl
  .unfold wx;rw[aG]
 rw[show LC.loop (λg=>wx LC a d b g) 0=_ from h,aa]
 by_cases c:cj d b a
 .rw[if_pos (λi e=>decide_eq_false (by rw[hD];exact c i e)),decide_eq_true c];rfl
 .rw[if_neg (λf=>c λi e=>by have:=of_decide_eq_false (f i e);rw[hD] at this;exact this),decide_eq_false c];rfl
def cj.mem{a b:Int}{c:List Int}(h:cj a b c){x:Int}(d:x∈c):a<=x/\x<=b:=by
 obtain⟨i,hi,rfl⟩:=ih.1 d;have:=h i hi;rw[pu (dk hi)] at this;exact⟨this.1,this.2.1⟩
def cj.lt{a b:Int}{d:List Int}(h:cj a b d):∀{i c:Nat},i<c->c<d.length->d.getD i 0<d.getD c 0:=by
 intro i c m
 induction c with
 |zero=>omega
 |succ c l=>
  intro k;have j:=(h (c+1) k).2.2 (by omega);rw[show c+1 -1=c by omega] at j
  by_cases e:i=c
  .rw[e];exact j
  .exact Int.lt_trans (l (by omega) (by omega)) j
def cj.len{a b:Int}{c:List Int}(h:cj a b c)(k:a<=b+1):(c.length:Int)<=b -a+1:=by
 have key:∀i:Nat,i<c.length->a+i<=c.getD i 0:=by
  intro i
  induction i with
  |zero=>intro hi;have:=(h 0 hi).1;omega
  |succ i j=>
   intro hi;have e:=j (by omega);have d:=h.lt (show i<i+1 by omega) hi;omega
 by_cases h0:c.length=0
 .omega
 .have e:=key (c.length -1) (by omega);have d:=(h (c.length -1) (by omega)).2.1;omega
def cj.nil{a b:Int}:cj a b []:=λi hi=>by simp at hi
def cj.one{a b x:Int}(d:a<=x)(c:x<=b):cj a b [x]:=λi hi=>by
 have:i=0:=by simpa using hi
 subst this;exact⟨d,c,λh=>by omega⟩
def jx(a:Nat)(r:aZ):Prop:=
 (0<=r.an/\r.an<a/\0<=r.To/\r.To<a/\r.an≠r.To)/\(1<=r.aj3/\r.aj3<=100000/\1<=r.bT/\r.bT<=1000)/\
 (1<=r.anC.eF/\r.anC.eF<=r.anC.fk/\r.anC.fk<=262144)/\(-2199023255552<=r.eI.eF/\r.eI.eF<=r.eI.fk/\r.eI.fk<=2199023255552)
instance (a:Nat) (r:aZ):Decidable (jx a r):=by unfold jx;infer_instance
def cP(a:ak):Prop:=a.ai.length<=64/\a.af.length<=128/\(∀p,p∈a.ai->-10000<=p.eU/\p.eU<=10000)/\∀r,r∈a.af->jx a.ai.length r
instance (a:ak):Decidable (cP a):=by unfold cP;infer_instance
def Tp(a:bI)(c b:Int):yQ LC a c b=c6 (c5 (c<=a.eF/\a.eF<=a.fk/\a.fk<=b)):=by
 unfold yQ;exact fm (fm rfl)
def de{d:Type}{b:Bool}{c a:d}:(bif (!b) then c else a)=bif b then a else c:=by cases b <;> rfl
def fh{p q:Prop}[Decidable p][Decidable q]{b:Option Bool}(e:b=c6 (decide q)):(bif (!decide p) then c6 true else b)=c6 (c5 (¬p\/q)):=by
 by_cases a:p
 .rw[decide_eq_true a,oq,cond_false,e]
  congr 1
  exact decide_eq_decide.2 ⟨.inr,λd=>d.resolve_left (λc=>c a)⟩
 .rw[decide_eq_false a,o7,cond_true,decide_eq_true (.inl a)]
def lA{p:Prop}[Decidable p]:c6 (!decide p)=c6 (c5 (¬p)):=by rw[decide_not]
def VM(a:ak):∃h:Int,zG LC a=c6 h/\(h=0↔cP a):=by
 unfold zG;rw[ew rfl,aa]
 by_cases h0:64<(a.ai.length:Int)\/128<(a.af.length:Int)
 .rw[aC h0];exact⟨2,rfl,⟨λb=>absurd b (by decide),λb=>by have j:=b.1;have A:=b.2.1;omega⟩⟩
 rw[aG h0];have v:bO (λe=>yL LC a e) 0=c6 (if ∀i,i<a.ai.length->(λi:Nat=>match a.ai[i]? with |some p=>c5 (p.eU< -10000\/10000<p.eU) |none=>false) i=false then .inr () else .inl ()):=by
  refine oD _ _ () (λi c=>?_) ?_
  .unfold yL;rw[aC,bn,dk c,aa,ew rfl,aa,aJ]
   by_cases f:a.ai[i].eU< -10000\/10000<a.ai[i].eU
   .rw[decide_eq_true f];simp only[dk c,decide_eq_true f,cond_true]
   .rw[decide_eq_false f];simp only[dk c,decide_eq_false f,cond_false]
  .unfold yL;rw[aG]
 rw[show LC.loop (λe=>yL LC a e) 0=_ from v,aa]
 by_cases j:∀p,p∈a.ai->-10000<=p.eU/\p.eU<=10000
 .rw[if_pos (λi c=>by
   dsimp only;rw[dk c];have:=j _ (j5 c);exact decide_eq_false (by omega))]
  rw[yy];have w:bO (λe=>vX LC a e) 0=c6 (Kp (jv (λi=>match a.af[i]? with
   |some r=>if ¬(0<=r.an/\r.an<a.ai.length/\0<=r.To/\r.To<a.ai.length/\r.an≠r.To) then c6 (4:Int) else if jx a.ai.length r then c7 else c6 1
   |none=>c7) 0 a.af.length) ()):=by
   refine Hf _ _ () (λi c=>?_) ?_
   .unfold vX;rw[aC,bn,dk c,aa,ew (ew (ew (ew rfl))),aa];dsimp only;generalize a.af[i]=r
    by_cases l:0<=r.an/\r.an<a.ai.length/\0<=r.To/\r.To<a.ai.length/\r.an≠r.To
    .rw[aG,if_neg (λb=>b l),ew (ew (ew rfl)),aa]
     by_cases o:1<=r.aj3/\r.aj3<=100000/\1<=r.bT/\r.bT<=1000
     .rw[aG,Tp,Tp,aa,aa,lA,fh rfl,aa]
      by_cases g:jx a.ai.length r
      .rw[if_pos g,aG (by have x:=g.2.2.1;have d:=g.2.2.2;omega),aJ];rfl
      .rw[if_neg g,aC (by
        by_cases t:1<=r.anC.eF/\r.anC.eF<=r.anC.fk/\r.anC.fk<=262144
        .exact .inr λu=>g ⟨l,o,t,u⟩
        .exact .inl t)];rfl
     .rw[aC,if_neg (λb=>o b.2.1)];rfl
    .rw[aC,if_pos l];rfl
   .unfold vX;rw[aG]
  rw[show LC.loop (λe=>vX LC a e) 0=_ from w,aa];cases s:jv (λi=>match a.af[i]? with
   |some r=>if ¬(0<=r.an/\r.an<a.ai.length/\0<=r.To/\r.To<a.ai.length/\r.an≠r.To) then c6 (4:Int) else if jx a.ai.length r then c7 else c6 1
   |none=>c7) 0 a.af.length with
  |some h=>
   obtain⟨q,_,x,d,_⟩:=yO s;have m:q<a.af.length:=by omega
   rw[dk m] at d;dsimp only at d;have n:h≠0/\¬jx a.ai.length a.af[q]:=by
    split at d
    .rename_i k;injection d with d
     exact⟨by omega,λb=>k b.1⟩
    .split at d
     .cases d
     .rename_i k;injection d with d
      exact⟨by omega,k⟩
   exact⟨h,rfl,⟨λb=>absurd b n.1,λb=>absurd (b.2.2.2 _ (j5 m)) n.2⟩⟩
  |none=>
   refine⟨0,rfl,⟨λ_=>⟨by omega,by omega,j,λr y=>?_⟩,λ_=>rfl⟩⟩
   obtain⟨i,c,rfl⟩:=ih.1 y;have:=(xk.1 s) i (ei _) (by omega);rw[dk c] at this;dsimp only at this
   split at this
   .cases this
   .split at this
    .assumption
    .cases this
 .rw[if_neg (λf=>j λp z=>by
   obtain⟨i,c,rfl⟩:=ih.1 z;have:=f i c;dsimp only at this;rw[dk c] at this;have:=of_decide_eq_false this;omega)]
  exact⟨1,rfl,⟨λb=>absurd b (by decide),λb=>absurd b.2.2.1 j⟩⟩
def ko(a:ak):ij LC a=c6 (c5 (cP a)):=by
 obtain⟨d,c,b⟩:=VM a;unfold ij;rw[c,aa]
 congr 1
 exact decide_eq_decide.2 b
def Sm{a:Type}(b:List a):Prop:=b.length<=1000000
def pr{c:Type}{b:Nat}{a:List c}(d:b<=100)(f:Sm a):bj b [] a=c6 a:=by
 rw[pN]
 .rfl
 .have e:a.length<=1000000:=f;have:a.length*b<=1000000*100:=vl e d;simp only[tc,j2];omega
def dm{c:Type}{b:Nat}{a:List c}{d:c}(e:b<=100)(f:a.length<=2000000):bj b a [d]=c6 (a++[d]):=by
 refine pN ?_
 have:(a.length+1)*b<=2000001*100:=vl (by omega) e;simp only[m4,tc,j2];omega
def bV{a:List Int}(b:Sm a):cc LC a=c6 a:=pr (by decide) b
def mV{a:List bP}(b:Sm a):kF LC a=c6 a:=pr (by decide) b
def nk{a:List aZ}(b:Sm a):kQ LC a=c6 a:=pr (by decide) b
def Ep{a:List bC}(b:Sm a):rf LC a=c6 a:=pr (by decide) b
def zS{a:List bI}(b:Sm a):q9 LC a=c6 a:=pr (by decide) b
def wE{a:List cy}(b:Sm a):pI LC a=c6 a:=pr (by decide) b
def jg{a:Type}{c done rest:List a}{b:a}(d:c=done++b::rest):aj c (done.length:Int)=c6 b:=by
 subst d;rw[bn,e6 (dv _),q5]
 rfl
def jm{b e h:Type}{f:e->Option (e⊕h)}(a:List b)(c:List b->Int->e)(d:List b->h)
 (o:∀(done:List b) (g:b) (l:List b),a=done++g::l->f (c done (done.length:Int))=c6 (.inl (c (done++[g]) ((done.length:Int)+1)))) (n:f (c a (a.length:Int))=c6 (.inr (d a))):bO f (c [] 0)=c6 (d a):=by
 have:=nV (f:=f) a.length (λi=>c (a.take i) (i:Int)) (d a) (λi k=>?_) (by simpa using n)
 .simpa using this
 .have j:=o (a.take i) a[i] (a.drop (i+1)) (by rw[<-List.drop_eq_getElem_cons k,k8]);have m:(a.take i).length=i:=by rw[dt];omega
  rw[m,List.take_append_getElem] at j;exact j
def iy{a:Type}{b done c:List a}{d:a}(e:b=done++d::c):(done.length:Int)<(b.length:Int):=by
 subst e;rw[ea,m4];omega
def ks{a:Type}{b done d:List a}{c:a}(e:b=done++c::d):c∈b:=by subst e;simp
def MZ(a:Int):∀c,(mM a c).Perm (a::c)
 |[]=>.refl _
 |b::c=>by
  unfold mM;cases c5 (a<=b) with
  |true=>exact .refl _
  |false=>exact((MZ a c).cons b).trans (.swap a b c)
def uK:∀a,(dQ a).Perm a
 |[]=>.refl _
 |b::a=>(MZ b (dQ a)).trans ((uK a).cons b)
def uP(a:List Int):(dQ a).length=a.length:=(uK a).length_eq
def zF{a:List Int}(b:Sm a):rl LC a=c6 (dQ a):=by
 unfold rl rC;have c:a.length<=1000000:=b;rw[show x3 a.length 140737488355328=true from ng (by omega)]
 rfl
def Iy{a:List Int}(b:Sm a):rG LC a=c6 (dQ a):=by
 unfold rG Kx IA;rw[pr (by decide) b,aa,aa,zF b,aa]
def lz(a:List Int):Prop:=cj 1 65535 (dQ a)
instance (a:List Int):Decidable (lz a):=by unfold lz;infer_instance
def KN{a:List Int}(b:Sm a):ym LC a=c6 (c5 (lz a)):=by
 unfold ym qK;have c:a.length<=1000000:=b;rw[aa,Iy b,aa,kw _ _ _ (by rw[uP];omega),aa]
 rfl
def O6{a:List Int}(b:Sm a):AI LC a=c6 (c5 (lz a)):=KN b
def cj.nodup{a b:Int}{d:List Int}(h:cj a b d):d.Nodup:=by
 refine List.pairwise_iff_getElem.2 λi l hi c j e=>?_
 have k:=h.lt j c;rw[pu (dk hi),pu (dk c),e] at k;omega
def lz.nodup{a:List Int}(h:lz a):a.Nodup:=(uK a).nodup_iff.1 (cj.nodup h)
def lS(a:Nat)(r:aS):Prop:=r.ai.length≠0/\cj 0 ((a:Int) -1) r.ai/\(1<=r.dX/\r.dX<=600)/\(0<=r.dY/\r.dY<=10)/\0<=r.cR/\r.cR<=60
instance (a:Nat) (r:aS):Decidable (lS a r):=by unfold lS;infer_instance
def uG(a:ak)(b:List aS):Prop:=cP a/\b.length<=32/\∀r,r∈b->lS a.ai.length r
instance (a:ak) (b:List aS):Decidable (uG a b):=by unfold uG;infer_instance
def X7{d:ak}{r:aS}(g:d.ai.length<=64)(f:r.ai.length<=4611686018427387904):wN LC r d=c6 (!c5 (lS d.ai.length r)):=by
 unfold wN;rw[aJ,kw _ _ _ f,aa,cF,aa,cF,aa,cF,aa,lA,fh (fh (fh rfl)),ew rfl,lA]
 congr 1
 apply decide_eq_decide.2
 unfold lS
 by_cases e:(r.ai.length:Int)=0
 .exact⟨λ_ a=>a.1 (by omega),λ_=>.inl e⟩
 .refine⟨λa c=>?_,λa=>.inr ?_⟩
  .rcases a with a |a |a |a |a
   .exact e a
   .exact a c.2.1
   .exact a c.2.2.1
   .exact a c.2.2.2.1
   .exact a c.2.2.2.2
  .refine gb λb=>a ?_
   simp only[not_or,hD] at b;exact⟨by omega,b.1,b.2.1,b.2.2.1,b.2.2.2⟩
def ot{b:Type}{p:b->Prop}[DecidablePred p]{c:List b}:(!c.any λa=>!c5 (p a))=c5 (∀a,a∈c->p a):=by
 rw[ta,decide_eq_true_iff];simp
abbrev Fit{a:Type}(b:List a):Prop:=b.length<=4611686018427387904
def Pm(a:ak)(l:List aS)(i:∀r,r∈l->Fit r.ai):wI LC a l=c6 (c5 (uG a l)):=by
 unfold wI;rw[ko,aa]
 by_cases c:cP a
 .rw[aC c]
  by_cases e:(l.length:Int)<=32
  .rw[aC e];have h:El LC l a=c6 (l.any λr=>!c5 (lS a.ai.length r)):=by
    unfold El Fh;have:=fF (l:=l) (P:=λr=>wN LC r a) (p:=λr=>!c5 (lS a.ai.length r)) (f:=λd=>Ha LC l a d) (by omega) (λr g=>X7 c.1 (i r g)) (λd=>rfl);rw[show(LC.loop (λd=>Ha LC l a d) 0).bind _=_ from this,aa,gm]
   rw[h,aa,ot]
   congr 1
   exact decide_eq_decide.2 ⟨λb=>⟨c,by omega,b⟩,λb=>b.2.2⟩
  .rw[aG e,decide_eq_false (λb=>e (by have:=b.2.1;omega))]
 .rw[aG c,decide_eq_false (λb=>c b.1)]
def jo(a:ak)(p:Int):Int:=match a.ai[p.toNat]? with |some b=>b.eU |none=>0
def fy(a:ak)(r:aZ)(b:Bool):Int:=if b then -(jo a r.To -jo a r.an) else jo a r.To -jo a r.an
def wt(b:ak)(r:aZ)(a:Bool)(e c d:Int):Int:=
 if r.eN=true\/r.jy=false then -1 else(10*r.aj3+(if r.aj3<10*fy b r a then e else if r.aj3< -10*fy b r a then c else d) -1)/ (if r.aj3<10*fy b r a then e else if r.aj3< -10*fy b r a then c else d)
def Ph{a:ak}(f:cP a){i:Nat}{r:aZ}(j:a.af[i]?=c6 r)(b:Bool)(p:kD)(g:(1<=p.up/\p.up<=100)/\(1<=p.down/\p.down<=100)/\1<=p.level/\p.level<=100):
 xu LC a (i:Int) b p=c6 (wt a r b p.up p.down p.level):=by
 obtain⟨⟨A,I,x,H,C⟩,⟨E,B,G,D⟩,_⟩:=f.2.2.2 r (fC j);unfold xu;rw[bn,j,aa];unfold wt;have s:(bif r.eN then c6 true else c6 (!r.jy))=c6 (c5 (r.eN=true\/r.jy=false)):=by cases r.eN <;> cases r.jy <;> rfl
 rw[s,aa]
 by_cases e:r.eN=true\/r.jy=false
 .rw[aC e,if_pos e]
 rw[aG e,if_neg e];have m:aj a.ai r.To=c6 (a.ai[r.To.toNat]'(by omega)):=qC x (by omega);have y:aj a.ai r.an=c6 (a.ai[r.an.toNat]'(by omega)):=qC A (by omega);have k:jo a r.To=(a.ai[r.To.toNat]'(by omega)).eU:=by unfold jo;rw[dk (by omega)]
 have h:jo a r.an=(a.ai[r.an.toNat]'(by omega)).eU:=by unfold jo;rw[dk (by omega)]
 have u:=f.2.2.1 _ (j5 (show r.To.toNat<a.ai.length by omega));have q:=f.2.2.1 _ (j5 (show r.an.toNat<a.ai.length by omega));rw[m,aa,y,aa, <-k, <-h];rw[<-k] at u;rw[<-h] at q;have t:(bif b then c6 (c3 c4 (0 -c3 c4 (jo a r.To -jo a r.an))) else c6 (c3 c4 (jo a r.To -jo a r.an)))=c6 (fy a r b):=by
  unfold fy;rw[aJ (n:=jo a r.To -jo a r.an),aJ (n:=0 - (jo a r.To -jo a r.an))];cases b
  .rfl
  .simp only[cond_true,if_true];congr 1;omega
 have F: -20000<=fy a r b/\fy a r b<=20000:=by unfold fy;split <;> omega
 rw[t,aa,aJ (n:=10*fy a r b),aJ (n:=-10*fy a r b)];have z:(bif c5 (r.aj3<10*fy a r b) then c6 p.up else(bif c5 (r.aj3< -10*fy a r b) then c6 p.down else c6 p.level).bind λw=>c6 w)=c6 (if r.aj3<10*fy a r b then p.up else if r.aj3< -10*fy a r b then p.down else p.level):=by
  by_cases c:r.aj3<10*fy a r b
  .rw[aC c,if_pos c]
  .rw[aG c,if_neg c]
   by_cases d:r.aj3< -10*fy a r b
   .rw[aC d,if_pos d];rfl
   .rw[aG d,if_neg d];rfl
 rw[z,aa];have l:1<=(if r.aj3<10*fy a r b then p.up else if r.aj3< -10*fy a r b then p.down else p.level)/\(if r.aj3<10*fy a r b then p.up else if r.aj3< -10*fy a r b then p.down else p.level)<=100:=by
  split
  .exact g.1
  .split
   .exact g.2.1
   .exact g.2.2
 generalize (if r.aj3<10*fy a r b then p.up else if r.aj3< -10*fy a r b then p.down else p.level)=v at l⊢;rw[aJ (n:=10*r.aj3),aJ (n:=10*r.aj3+v),aJ (n:=10*r.aj3+v -1),Ek (by omega),aa];have o:(10*r.aj3+v -1).tdiv v=(10*r.aj3+v -1)/v:=Int.tdiv_eq_ediv_of_nonneg (by omega);have h0:0<=(10*r.aj3+v -1)/v:=Int.ediv_nonneg (by omega) (by omega);have c:(10*r.aj3+v -1)/v<=10*r.aj3+v -1:=r4 _ (by omega);rw[o,aJ]
def aoC{a:ak}{r:aZ}{b:Bool}{e c d:Int}(i:1<=r.aj3/\r.aj3<=100000)(f:(1<=e/\e<=100)/\(1<=c/\c<=100)/\1<=d/\d<=100):wt a r b e c d= -1\/(1<=wt a r b e c d/\wt a r b e c d<=1000099):=by
 unfold wt
 split
 .exact .inl rfl
 .right
  have g:1<=(if r.aj3<10*fy a r b then e else if r.aj3< -10*fy a r b then c else d)/\(if r.aj3<10*fy a r b then e else if r.aj3< -10*fy a r b then c else d)<=100:=by
   split
   .exact f.1
   .split
    .exact f.2.1
    .exact f.2.2
  generalize (if r.aj3<10*fy a r b then e else if r.aj3< -10*fy a r b then c else d)=v at g⊢;have h:(10*r.aj3+v -1)/v<=10*r.aj3+v -1:=r4 _ (by omega);refine⟨?_,by omega⟩
  refine Int.le_ediv_of_mul_le (by omega) ?_
  omega
def wT(a:ak)(i:Int)(b:Bool)(c d e:Int):Int:=if cP a/\0<=i then(match a.af[i.toNat]? with |some r=>wt a r b c d e |none=>-1) else -1
def rF(a:ak)(i:Int)(b:Bool){u d l:Int}(e:(1<=u/\u<=100)/\(1<=d/\d<=100)/\1<=l/\l<=100):wT a i b u d l= -1\/(1<=wT a i b u d l/\wT a i b u d l<=1000099):=by
 unfold wT
 split
 .rename_i f
  split
  .rename_i r c;have:=(f.1.2.2.2 r (fC c)).2.1;exact aoC ⟨this.1,this.2.1⟩ e
  .exact .inl rfl
 .exact .inl rfl
def Oz(a:ak)(i:Int):((ij LC a).bind λb=>bif (!b) then c6 true else bif c5 (i<0) then c6 true else c6 (c5 ((a.af.length:Int)<=i)))=c6 (c5 (¬cP a\/i<0\/(a.af.length:Int)<=i)):=by
 rw[ko,aa,fh (ew rfl)]
def Cv(c:ak)(i:Int)(b:Bool):rO LC c i b=c6 (wT c i b 6 9 12):=by
 unfold rO;rw[Oz,aa];unfold wT
 by_cases a:¬cP c\/i<0\/(c.af.length:Int)<=i
 .rw[aC a]
  split
  .rename_i d;have j:(c.af.length:Int)<=i:=by
    rcases a with a |a |a
    .exact absurd d.1 a
    .omega
    .exact a
   rw[hQ (by omega)]
  .rfl
 .rw[aG a];have f:cP c:=gb λg=>a (.inl g)
  have e:i.toNat<c.af.length:=by
   have:¬(c.af.length:Int)<=i:=λd=>a (.inr (.inr d))
   have:¬i<0:=λd=>a (.inr (.inl d))
   omega
  have h0:¬i<0:=λd=>a (.inr (.inl d))
  rw[if_pos ⟨f,by omega⟩,dk e];unfold FX G5;have h:i=((i.toNat:Nat):Int):=by omega
  rw[aa]
  conv=>lhs;rw[h]
  rw[Ph f (dk e) b _ (by decide)]
  rfl
def AF(c:ak)(i:Int)(b:Bool):nK LC c i b=c6 (wT c i b 2 3 4):=by
 unfold nK;rw[Oz,aa];unfold wT
 by_cases a:¬cP c\/i<0\/(c.af.length:Int)<=i
 .rw[aC a]
  split
  .rename_i d;have j:(c.af.length:Int)<=i:=by
    rcases a with a |a |a
    .exact absurd d.1 a
    .omega
    .exact a
   rw[hQ (by omega)]
  .rfl
 .rw[aG a];have f:cP c:=gb λg=>a (.inl g)
  have e:i.toNat<c.af.length:=by
   have:¬(c.af.length:Int)<=i:=λd=>a (.inr (.inr d))
   have:¬i<0:=λd=>a (.inr (.inl d))
   omega
  have h0:¬i<0:=λd=>a (.inr (.inl d))
  rw[if_pos ⟨f,by omega⟩,dk e];unfold Fx;have h:i=((i.toNat:Nat):Int):=by omega
  rw[aa]
  conv=>lhs;rw[h]
  rw[Ph f (dk e) b _ (by decide)]
  rfl
def mQ(a:ak)(i p:Int):Int:=
 if 0<=i then(match a.af[i.toNat]? with |some r=>if p=r.an then wT a i false 6 9 12 else if p=r.To then wT a i true 6 9 12 else -1 |none=>-1) else -1
def Tt(a:ak)(i p:Int)(f:a.af.length<=4611686018427387904):yM LC a i p=c6 (mQ a i p):=by
 unfold yM mQ;rw[aJ,cF,aa,de]
 by_cases d:0<=i/\i<=(a.af.length:Int) -1
 .have e:i.toNat<a.af.length:=by omega
  have g:aj a.af i=c6 a.af[i.toNat]:=qC d.1 (by omega);rw[aC d,g,aa,aa,if_pos d.1,dk e];dsimp only
  by_cases c:p=a.af[i.toNat].an
  .rw[aC c,if_pos c,Cv,aa]
  .rw[aG c,if_neg c]
   by_cases b:p=a.af[i.toNat].To
   .rw[aC b,if_pos b,Cv,aa]
   .rw[aG b,if_neg b]
 .rw[aG d]
  by_cases h0:0<=i
  .rw[if_pos h0,hQ (by omega)]
  .rw[if_neg h0]
def sq(b:ak)(a:bC):Prop:=(0<=a.abG/\a.abG<=(b.ai.length:Int) -1)/\(if a.akw= -1 then a.ami=0 else 0<=mQ b a.akw a.abG/\1<=a.ami/\a.ami<=2147483648)
instance (a:ak) (b:bC):Decidable (sq a b):=by unfold sq;infer_instance
def Vs{c:ak}(a:bC)(d:cP c):BS LC c a=c6 (c5 (sq c a)):=by
 have f:=d.1;have e:=d.2.1;unfold BS sq;rw[aJ,cF,aa,de,Tt _ _ _ (by omega),aa,cF,aa,fm (p:=0<=mQ c a.akw a.abG) rfl]
 by_cases b:a.akw= -1
 .simp only[if_pos b];rw[aC b];exact fm rfl
 .simp only[if_neg b];rw[aG b];exact fm rfl
def sj(a:aB)(i:Nat):Prop:=∃r c b d,a.aQ[i]?=c6 r/\a.cn[i]?=c6 c/\a.cf[i]?=c6 b/\a.bp[i]?=c6 d/\(-1<=c/\c<=65535)/\(-1<=b/\b<=a.aa0)/\(c= -1↔b= -1)/\d.length=a.aN.length/\∀e,e∈d->0<=e/\e<=r.dY
def fw(a:aB):Prop:=uG a.ao a.aQ/\(1<=a.aN.length/\a.aN.length<=12)/\a.aw.length=a.aN.length/\lz a.aw/\(0<=a.aa0/\a.aa0<=2147483648)/\a.cn.length=a.aQ.length/\a.cf.length=a.aQ.length/\a.bp.length=a.aQ.length/\
 (∀i,i<a.aQ.length->sj a i)/\∀b,b∈a.aN->sq a.ao b
noncomputable instance (a:aB) (i:Nat):Decidable (sj a i):=m6 _
noncomputable instance (a:aB):Decidable (fw a):=m6 _
def abJ{l:List Int}{b:aB}{i:Nat}{r:aS}(e:b.aQ[i]?=c6 r)(d:Fit l):BW LC l b (i:Int)=c6 (l.any λa=>!c5 (0<=a/\a<=r.dY)):=by
 unfold BW Iq;have:=fF (l:=l) (P:=λa=>Ao LC a b (i:Int)) (p:=λa=>!c5 (0<=a/\a<=r.dY)) (f:=λc=>Kl LC l b (i:Int) c) d (λa g=>by
  unfold Ao;rw[bn,e,aa,cF,aa]) (λc=>rfl)
 rw[show(LC.loop (λc=>Kl LC l b (i:Int) c) 0).bind _=_ from this,aa,gm]
def ajZ{l:List bC}{a:aB}(e:cP a.ao)(d:Fit l):zH LC l a=c6 (l.any λg=>!c5 (sq a.ao g)):=by
 unfold zH Gd;have:=fF (l:=l) (P:=λc=>DB LC c a) (p:=λc=>!c5 (sq a.ao c)) (f:=λb=>Gl LC l a b) d (λc h=>by
  unfold DB;rw[Vs _ e,aa]) (λb=>rfl)
 rw[show(LC.loop (λb=>Gl LC l a b) 0).bind _=_ from this,aa,gm]
def HA{c:Type}{p:c->Prop}[DecidablePred p]{b:List c}:(b.any λa=>!c5 (p a))=c5 (¬∀a,a∈b->p a):=by
 rw[<-Bool.not_not (b.any _),ot,decide_not]
def xf(c:aB)(J:∀r,r∈c.aQ->Fit r.ai):pV LC c=c6 (c5 (fw c)):=by
 unfold pV;rw[Pm _ _ J,aa,cF,aa]
 by_cases g:uG c.ao c.aQ
 rotate_left
 .rw[decide_eq_false g];simp only[o7,cond_true,aa];rw[decide_eq_false (λa=>g a.1)]
 by_cases n:1<=(c.aN.length:Int)/\(c.aN.length:Int)<=12
 rotate_left
 .rw[decide_eq_true g,decide_eq_false n];simp only[o7,oq,cond_true,cond_false,aa];rw[decide_eq_false (λa=>n (by have:=a.2.1;omega))]
 by_cases y:(c.aw.length:Int)=(c.aN.length:Int)
 rotate_left
 .rw[decide_eq_true g,decide_eq_true n];simp only[oq,cond_false];rw[aC y,aa];simp only[cond_true];rw[decide_eq_false (λa=>y (by have:=a.2.2.1;omega))]
 rw[KN (by show c.aw.length<=1000000;omega),aa,cF,aa,ew (ew rfl),fh rfl,fh rfl,ew rfl,fh rfl,fh rfl,aa]
 by_cases C:lz c.aw/\(0<=c.aa0/\c.aa0<=2147483648)/\(c.cn.length:Int)=c.aQ.length/\(c.cf.length:Int)=c.aQ.length/\(c.bp.length:Int)=c.aQ.length
 rotate_left
 .rw[aC (by
   refine .inr (.inr (.inr (gb λd=>C ?_)))
   simp only[not_or,hD] at d;exact⟨d.1,d.2.1,d.2.2.1,d.2.2.2.1,d.2.2.2.2⟩)]
  rw[decide_eq_false (λa=>C (by obtain⟨_,_,_,v,p,E,F,G,_⟩:=a;exact⟨v,p,by omega,by omega,by omega⟩))]
 obtain⟨v,p,E,F,G⟩:=C;rw[aG (by
  intro a;rcases a with a |a |a |a |a |a |a |a
  .exact a g
  .exact a n
  .exact a y
  .exact a v
  .exact a p
  .exact a E
  .exact a F
  .exact a G)]
 have N:=g.2.1;have I:bO (λz=>xm LC c z) 0=c6 (if ∀i,i<c.aQ.length->(λi:Nat=>c5 (¬sj c i)) i=false then .inr () else .inl ()):=by
  refine oD _ _ () (λi l=>?_) ?_
  .obtain⟨r,A⟩:∃r,c.aQ[i]?=c6 r:=⟨_,dk l⟩;obtain⟨e,B⟩:∃e,c.cn[i]?=c6 e:=⟨_,dk (by omega)⟩;obtain⟨b,w⟩:∃b,c.cf[i]?=c6 b:=⟨_,dk (by omega)⟩;obtain⟨f,x⟩:∃f,c.bp[i]?=c6 f:=⟨_,dk (by omega)⟩;have k:sj c i↔((-1<=e/\e<=65535)/\(-1<=b/\b<=c.aa0)/\(e= -1↔b= -1)/\f.length=c.aN.length/\∀h,h∈f->0<=h/\h<=r.dY):=by
    constructor
    .rintro⟨M,L,P,O,m,t,u,s,D⟩;rw[A] at m;rw[B] at t;rw[w] at u;rw[x] at s;injection m with m;injection t with t;injection u with u;injection s with s
     subst m t u s;exact D
    .exact λa=>⟨r,e,b,f,A,B,w,x,a⟩
   unfold xm;rw[aC,bn,B,aa,cF,aa,bn,w,aa,cF,aa,aa,aa,bn,x,aa,aa];have D:(bif (c5 (e= -1) != c5 (b= -1)) then c6 true else c6 (c5 ((f.length:Int)≠(c.aN.length:Int))))=c6 (c5 (¬(e= -1↔b= -1)\/(f.length:Int)≠(c.aN.length:Int))):=by
    by_cases K:e= -1 <;> by_cases j:b= -1 <;> simp[K,j]
   rw[D,fh rfl,fh rfl,aa,aJ]
   by_cases q:(-1<=e/\e<=65535)/\(-1<=b/\b<=c.aa0)/\(e= -1↔b= -1)/\f.length=c.aN.length
   .rw[aG (by
     rintro(a |a |a |a)
     .exact a q.1
     .exact a q.2.1
     .exact a q.2.2.1
     .exact a (by have:=q.2.2.2;omega)),abJ A (by have:=q.2.2.2;show f.length<=_;omega),aa,HA]
    by_cases j:∀h,h∈f->0<=h/\h<=r.dY
    .rw[decide_eq_false (λa=>a j),decide_eq_false (λa=>a (k.2 ⟨q.1,q.2.1,q.2.2.1,q.2.2.2,j⟩))];rfl
    .rw[decide_eq_true j,decide_eq_true (show ¬sj c i from λa=>j (k.1 a).2.2.2.2)];rfl
   .rw[aC (by
     refine gb λd=>q ?_
     simp only[not_or,hD] at d;exact⟨d.1,d.2.1,d.2.2.1,by have:=d.2.2.2;omega⟩),decide_eq_true (show ¬sj c i from λa=>q ⟨(k.1 a).1,(k.1 a).2.1,(k.1 a).2.2.1,(k.1 a).2.2.2.1⟩)]
    rfl
  .unfold xm;rw[aG]
 rw[show LC.loop (λz=>xm LC c z) 0=_ from I,aa]
 by_cases o:∀i,i<c.aQ.length->sj c i
 .rw[if_pos (λi l=>decide_eq_false (λa=>a (o i l))),yy,ajZ g.1 (by show c.aN.length<=_;omega),aa,ot]
  congr 1
  exact decide_eq_decide.2 ⟨λa=>⟨g,by omega,by omega,v,p,by omega,by omega,by omega,o,a⟩,λa=>a.2.2.2.2.2.2.2.2.2⟩
 .rw[if_neg (λH=>o λi l=>by have:=of_decide_eq_false (H i l);exact j6 this),Sum.elim_inl,decide_eq_false (λa=>o a.2.2.2.2.2.2.2.2.1)]
end Go.X.T
