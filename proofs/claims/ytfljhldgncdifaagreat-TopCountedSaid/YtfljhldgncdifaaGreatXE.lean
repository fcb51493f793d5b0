/- For TopCounted, part 5. -/
import Derived.Test.YtfljhldgncdifaaGreatXD
import Derived.Lib.AppendZerosOnto
import Derived.Lib.AppendZeros
import Derived.Lib.Walk
import Derived.Laws.Externs
import Derived.Laws.NewBlocks
import Derived.Deep.RegionLaw
import Derived.Shelf.Sort.Plain
import Derived.Shelf.Slices.In.SortNone
import Derived.Ground.Names2Prog
import Derived.Lib.Overlaps
import Derived.WalkKit
import Derived.Test.YtfljhldgncdifaaGreatProg
set_option linter.defProp false
set_option linter.unusedVariables false
set_option linter.unusedSimpArgs false
set_option maxHeartbeats 2000000
set_option maxRecDepth 100000
set_option maxHeartbeats 4000000
set_option maxHeartbeats 0
set_option maxRecDepth 1000000
open Go.IntKind renaming wrap → c3, i64 → c4, wrap_i64 → h8, signed → u0, wrap → yl, bits → yn, u64 → E3, u8 → Kr
open Decidable renaming decide → c5, byContradiction → gb, not_not → hD
open Option renaming some → c6, none → c7, bind_some → ef, bind_eq_some_iff → m2, map → tt
open Go.Proofs.Tryz renaming prog → dd, func147 → ee, func86 → ez, underlying53 → hB, func143 → j3, f163 → kc, func46 → m0, f171 → m4, func116 → ng, func49 → o8, func340 → q3, func244 → q4, func217 → q8, func221 → qa, func153 → qb, func160 → qq, underlying3 → r0, f143 → r4, func44 → s6, f34 → tx, ntmps340 → vl, ntmps244 → wa, func145 → x9, func274 → xv, func273 → xx, func100 → y0, func300 → y1, func248 → y2, func228 → y3, func240 → y4, func284 → y5, func175 → y6, func299 → y7, func301 → y8, func256 → y9, func166 → ya, func113 → yk, func45 → yy, func78 → z7, func34 → z8, func84 → A3, func73 → A4
open List renaming getElem?_eq_getElem → dk, length_take → dt, getElem?_eq_some_iff → e4, length_drop → e5, getElem?_append_right → e6, length_append → ea, getElem?_append_left → ev, mem_singleton → eH, mem_of_getElem? → fe, getElem?_take → gv, getElem?_take_of_lt → h5, length_map → hq, mem_cons → hI, eq_nil_of_length_eq_zero → hM, getElem?_drop → hP, getElem?_eq_none → hQ, getElem?_map → hS, mem_of_mem_take → ie, mem_iff_getElem → ih, mem_map → j1, not_mem_nil → j4, getElem_mem → j5, pairwise_cons → j8, size_toArray → k0, take_append_drop → k8, mem_of_mem_drop → km, append_nil → l0, mem_append → l1, append_assoc → l3, length_cons → m5, drop_eq_nil_of_le → mx, take_of_length_le → n2, length → o6, map → o7, getElem?_range → oo, Pairwise → oq, take_left' → sa, length_nil → ta, take_take → tj, take → x0, drop → x1, append → z6
open Nat renaming le_refl → dv, zero_le → ei, beq → ey, mul_le_mul_right → hY, zero_add → j2, min_eq_left → j7, add_mul → l4, ble_eq_true_of_le → o2, min_def → o4, eq_zero_or_pos → p6, le_trans → q6, sub_self → q7, one_pos → rb, mul_one → s3, strongRecOn → sp, mul_le_mul → vd, ble → x2, le_of_eq → x6
open Go.Builtin renaming zeroCells → dT, copy_ → h7, firstCells → pc, append_ → s8
open Array renaming length_toList → e0, getElem?_toList → eE, getD_eq_getD_getElem? → ft, getElem?_setIfInBounds_self_of_lt → gx, getElem?_eq_getElem → h9, size_append → j9, getElem?_modify → k7, getElem?_push → oj
open Go.Result renaming andThen_ok → ec, andThen → k6, ok → wb
open Int renaming le_refl → ej, le_trans → hz, mul_le_mul_of_nonneg_right → kd, toNat_natCast → la, ediv_le_self → r5
open Go.Sem renaming run_bind → eo, run_pure → h6
open Go.Value renaming agg → ga, int → hK, slice → s5
open Go.World renaming cell?_setCells_out → gy, alloc_heap_new → hU, cell?_setCells_in → m3, putObj_heap_other → m6, frozen?_setCells → my, cell?_alloc_past → n0, frozen? → vw, setCell → w3, cell? → z1
open Go.RowKit.Below renaming heap_alloc → hL
open Go.Instr renaming checkKey → hX, findNow → kh, findKey → m1, lookup → mb, mapUpdate → s7
open Classical renaming byContradiction → j6, propDecidable → ma
open Go.Sort renaming putCells → kl, putRow → o3, ahead → p7, onCells → x3
open Go.Addr renaming add_lit → l2
open Sum renaming inr → n1, inl → oi, elim_inr → yv
open Go.Lib renaming wpList_append_run → o1
open Bool renaming not_false → o9, not_true → p0, false_eq_true → p4, eq_iff_iff → sT
open Go.Region renaming wanted → oS
open Go.Fence renaming wide → q2
open Go.Act renaming eval → q5, put → x5
open Go.Extern.SlicesOverlaps renaming overlaps → r3
open Option.some renaming inj → sn
open Go.Oper renaming wp → tc
namespace Go.X.T
open Go Go.Aml Go.Bml Go.X Go.RowKit Go.Proofs
def YQ(a:World)(e b:Obj):(a.alloc e).putObj a.heap.size b=a.alloc b:=by
 unfold World.putObj World.alloc;have:(a.heap.push e).setIfInBounds a.heap.size b=a.heap.push b:=by
  apply Array.ext_getElem?
  intro i;rw[Array.getElem?_setIfInBounds,oj,oj]
  by_cases c:a.heap.size=i
  .subst c;simp
  .rw[if_neg c,if_neg (λd=>c d.symm),if_neg (λd=>c d.symm)]
 rw[this]
def LK(a:World)(b:Obj):(a.alloc b).heap[a.heap.size]?=c6 b:=hU a b
def PG{d:Program}(b:World)(a:Array MapEntry)(i:Nat):(getObj b.heap.size).run d (b.alloc (.map a i))= .ok (.map a i) (b.alloc (.map a i)):=by
 have c:=LK b (.map a i);simp only[getObj,Sem.run,c]
def ag2{g:Program}(a:World)(b c:Array MapEntry)(i d:Nat):(setObj a.heap.size (.map c d)).run g (a.alloc (.map b i))= .ok () (a.alloc (.map c d)):=by
 have e:=LK a (.map b i);have f:=YQ a (.map b i) (.map c d);simp only[setObj,Sem.run,e];exact congrArg (wb ()) f
def aaO{P:Program}{w0:World}{t kt et:TypeId}{es:Array MapEntry}{i:Nat}{k:Int}{v:Value}(f:P.underlying t=c6 (.map kt et))(a:P.underlying kt=c6 (.int .i64))(c:kh (.int .i64) (.int .i64 k) es.toList 0=c6 c7):
 (s7 t (.map (c6 w0.heap.size)) (.int .i64 k) v).run P (w0.alloc (.map es i))= .ok () (w0.alloc (.map (es.push ⟨.int .i64 k,v,i⟩) (i+1))):=by
 have b:(hX false (9999+1) kt (.int .i64 k)).run P (w0.alloc (.map es i))= .ok () (w0.alloc (.map es i)):=by
  unfold hX;simp only[eo,run_underlying a,ec,h6]
 have d:(m1 kt (.int .i64 k) es.toList).run P (w0.alloc (.map es i))= .ok c7 (w0.alloc (.map es i)):=by
  unfold m1;simp only[eo,run_underlying a,ec,c,h6]
 unfold s7;simp only[eo,run_underlying f,ec,PG];have e:(hX false 10000 kt (.int .i64 k)).run P (w0.alloc (.map es i))= .ok () (w0.alloc (.map es i)):=b;rw[e];simp only[ec,d,eo,ag2]
def PB(z:Value):Option (Nat×Value)->Value
 |some p=>p.2
 |none=>z
def anN{P:Program}{w0:World}{t kt et:TypeId}{es:Array MapEntry}{i:Nat}{k:Int}{r:Option (Nat×Value)}{z:Value}(g:P.underlying t=c6 (.map kt et))(a:P.underlying kt=c6 (.int .i64))(f:dV P et=c6 z)(d:kh (.int .i64) (.int .i64 k) es.toList 0=c6 r):
 (mb t (.map (c6 w0.heap.size)) (.int .i64 k) false).run P (w0.alloc (.map es i))= .ok (PB z r) (w0.alloc (.map es i)):=by
 have c:∀b,(hX b 10000 kt (.int .i64 k)).run P (w0.alloc (.map es i))= .ok () (w0.alloc (.map es i)):=λb=>by
  show(hX b (9999+1) kt (.int .i64 k)).run P _=_
  unfold hX;simp only[eo,run_underlying a,ec,h6]
 have e:(m1 kt (.int .i64 k) es.toList).run P (w0.alloc (.map es i))= .ok r (w0.alloc (.map es i)):=by
  unfold m1;simp only[eo,run_underlying a,ec,d,h6]
 unfold mb;simp only[eo,run_underlying g,ec,PG,h6,c,e];cases r with
 |none=>simp only[eo,Ey f,ec,h6,p4,if_false];rfl
 |some p=>simp only[eo,ec,h6,p4,if_false];rfl
def nv:Nat->Array MapEntry
 |0=>#[]
 |i+1=>(nv i).push ⟨.int .i64 ((i:Int)+1),.func (.func (103+i)) #[] #[],i⟩
def uj{c:Program}{h:Array Oper}{d:Exit->Act->World->Prop}{a:Oper}{e:List Oper}{b:Act}{f g:World}{v:Value}(j:a.guard=c7)(k:(execOp b.eval a).run c f= .ok (.value v) g)(i:wpList c h d e (b.put a.dst v) g):wpList c h d (a::e) b f:=
 wpList_plain j λm l=>by
  unfold tc;rw[k];exact l _ _ i
def lr{c:Program}{h:Array Oper}{d:Exit->Act->World->Prop}{a:Oper}{e:List Oper}{b:Act}{f g:World}(j:a.guard=c7)(k:(execOp b.eval a).run c f= .ok .skip g)(i:wpList c h d e (b.put a.dst undef) g):wpList c h d (a::e) b f:=
 wpList_plain j λm l=>by
  unfold tc;rw[k];exact l _ _ i
def kZ{a:Act}{w0:World}{k:Int}{f:Nat}{h:TypeId}{l:String}{e:Array Edge}(i:Nat)(j:a.eval (.tmp 3)= .map (c6 w0.heap.size))(m:k=(i:Int)+1:=by rfl)(b:f=103+i:=by rfl)(g:kh (.int .i64) (.int .i64 ((i:Int)+1)) (nv i).toList 0=c6 c7:=by rfl):
 (execOp a.eval ⟨c7,.insert 209 (.tmp 3) (.const (.int .i64 k)) (.func f),h,l,e,c7⟩).run dd (w0.alloc (.map (nv i) i))= .ok .skip (w0.alloc (.map (nv (i+1)) (i+1))):=by
 subst m;subst b;have d:a.eval (.const (.int .i64 ((i:Int)+1)))= .int .i64 ((i:Int)+1):=rfl;have c:a.eval (.func (103+i))= .func (.func (103+i)) #[] #[]:=rfl;have:=aaO (P:=dd) (w0:=w0) (t:=209) (kt:=3) (et:=134) (es:=nv i) (i:=i) (k:=(i:Int)+1) (v:=.func (.func (103+i)) #[] #[]) (by kernel_rfl) (by kernel_rfl) g;simp only[execOp,j,d,c,eo,this,ec,h6]
 rfl
def afd{b:Act}{c a:World}{d:Int}{v:Value}{h:TypeId}{j:String}{f:Array Edge}(g:b.eval (.tmp 4)= .map (c6 c.heap.size))(i:b.eval (.tmp 5)= .int .i64 d)(e:(mb 209 (.map (c6 c.heap.size)) (.int .i64 d) false).run dd a= .ok v a):
 (execOp b.eval ⟨c6 6,.lookup 209 (.tmp 4) (.tmp 5) false,h,j,f,c7⟩).run dd a= .ok (.value v) a:=by
 simp only[execOp,g,i];simp[e]
def apG(a:Int):∃r,kh (.int .i64) (.int .i64 a) (nv 13).toList 0=c6 r/\PB .nilFunc r=(match lK a with |none=>.nilFunc |some f=>.func (.func f) #[] #[]):=by
 by_cases e:1<=a/\a<=13
 .have:a=1\/a=2\/a=3\/a=4\/a=5\/a=6\/a=7\/a=8\/a=9\/a=10\/a=11\/a=12\/a=13:=by omega
  rcases this with rfl |rfl |rfl |rfl |rfl |rfl |rfl |rfl |rfl |rfl |rfl |rfl |rfl <;> exact⟨_,rfl,rfl⟩
 .have g:∀d:Int,1<=d->d<=13->(a==d)=false:=λd b c=>by
   rw[beq_eq_false_iff_ne];intro h;exact e ⟨by omega,by omega⟩
  refine⟨c7,?_,?_⟩
  .simp[nv,kh,Instr.sameNow,g]
  .have:lK a=c7:=by
    unfold lK
    by_cases b:1<=a
    .have c:¬a<=13:=λc=>e ⟨b,c⟩
     rw[decide_eq_true b,decide_eq_false c]
     rfl
    .rw[decide_eq_false b]
     rfl
   rw[this]
   rfl
def amx{a:Act}{e b:World}{d:Int}{v:Value}{k p:TypeId}{f q:String}{n j:Array Edge}{s:Array Oper}{c:Ending->World->Prop}(i:a.eval (.tmp 4)= .map (c6 e.heap.size))(m:a.eval (.tmp 5)= .int .i64 d)(t:a.tmps.size=7)(l:a.defers=[])
 (o:(mb 209 (.map (c6 e.heap.size)) (.int .i64 d) false).run dd b= .ok v b) (r:c (.returned v) b):
 wpList dd s (Exit.then (Code.ret.wp dd (bodyPost dd Tryz.f45 c)) (bodyPost dd Tryz.f45 c)) [⟨c6 6,.lookup 209 (.tmp 4) (.tmp 5) false,k,f,n,c7⟩,⟨c6 2,.assign (.tmp 6),p,q,j,c7⟩] a b:=by
 refine uj rfl (afd i m o) ?_
 have g:(a.put (c6 6) v).eval (.tmp 6)=v:=by
  show(a.tmps.setIfInBounds 6 v).getD 6 undef=v
  rw[ft,gx (by omega)]
  rfl
 refine uj (v:=v) rfl (by
  show wb (Next.value ((a.put (c6 6) v).eval (.tmp 6))) b=_
  rw[g]) ?_
 refine wpList_nil (wp_ret ⟨l,v,?_,r⟩)
 rw[results_tmp rfl];have h:(((a.put (c6 6) v).put (c6 2) v).tmps).getD 2 undef=v:=by
  show((a.tmps.setIfInBounds 6 v).setIfInBounds 2 v).getD 2 undef=v
  rw[ft,gx (by simp;omega)]
  rfl
 exact congrArg (λz=>wb z b) h
def K88(l:Lp):FT (FZ l):=by
 refine⟨pA yy rfl rfl,λc j e g w vs n h y=>?_⟩
 have e:c6 (lK c)=c6 j:=e;injection e with e
 match vs,n with
 |[u],_=>
 have h0:=y 0;have s:u= .int .i64 c:=VR.fQ (g:=g) (w:=w) h0;subst s;refine calls_of_wp yy rfl ?_
 refine wp_seq (wp_region_lit (uj rfl rfl ?_))
 show Code.wp _ _ _ _ _
 refine wp_seq (wp_region_lit (uj rfl rfl ?_))
 refine lr rfl (kZ 0 rfl) ?_
 refine lr rfl (kZ 1 rfl) ?_
 refine lr rfl (kZ 2 rfl) ?_
 refine lr rfl (kZ 3 rfl) ?_
 refine lr rfl (kZ 4 rfl) ?_
 refine lr rfl (kZ 5 rfl) ?_
 refine lr rfl (kZ 6 rfl) ?_
 refine lr rfl (kZ 7 rfl) ?_
 refine lr rfl (kZ 8 rfl) ?_
 refine lr rfl (kZ 9 rfl) ?_
 refine lr rfl (kZ 10 rfl) ?_
 refine lr rfl (kZ 11 rfl) ?_
 refine lr rfl (kZ 12 rfl) ?_
 refine uj rfl rfl (uj rfl rfl ?_)
 obtain⟨r,x,p⟩:=apG c;have q:dV dd 134=c6 .nilFunc:=by kernel_rfl
 have m:=anN (P:=dd) (w0:=w) (t:=209) (kt:=3) (et:=134) (es:=nv 13) (i:=13) (k:=c) (by kernel_rfl) (by kernel_rfl) q x;rw[p] at m;refine amx rfl rfl rfl rfl m ?_
 have a:Below w.heap.size w (w.alloc (.map (nv 13) 13)):=(Below.refl _ w).alloc (dv _) _;have o:(cz BT (FZ l).par c).H=[]:=rfl;have v:(cz BT (FZ l).az j)=⟨[(0,.jC j)],[]⟩:=rfl;rw[o] at h⊢;rw[v];obtain⟨z,A⟩:=GStep.lF (w':=w.alloc (.map (nv 13) 13)) (GStep.refl 0 g (av BT []) w) h a.os a.tape a.output a.size (λb d=>a.block b (h.fb b d)) (λr b B d=>a.block b (h.qD d)) (λb d=>a.block b d);refine⟨_,g,rfl,A,z,?_⟩
 subst e;show VR g (av BT []) _ (pv BT (.jC (lK c))) _
 cases lK c with
 |none=>exact .aW .dB
 |some f=>exact .aW (.fn f [] [] [] [] rfl (by simp) rfl (by simp))
def aiC(j:Program)(f:FuncId)(h i g:Nat):Prop:=
 ∀(a:World) (c:Nat),c*g<=140737488355328->c<=140737488355328->Calls j f #[.slice c7 0 0,.int .i64 c] a λd e=>(d= .returned (.slice c7 0 0)/\e=a)\/∃b cells,d= .returned (.slice (c6 ⟨a.heap.size,0,c7⟩) 0 b)/\cells.size=b*i/\b<=maxLen/\e=a.drew.alloc (.cells cells h)
section
open Go.RowKit
def acK:(dd.info? 3).map (λi=>(i.zero,i.size,i.bytes))=c6 (c6 (hK .i64 0),1,8):=by kernel_rfl
def aaj(w:World):Calls dd 340 #[.slice c7 0 0,.int .i64 0] w λe w'=>e= .returned (.slice c7 0 0)/\w'=w:=by
 go_enter q3,vl
 go_wp2
 go_ret
 exact⟨rfl,rfl⟩
def ak2(w:World)(n:Nat)(h0:0<n)(hb:n*8<=140737488355328)(hb2:n<=140737488355328):Calls dd 340 #[.slice c7 0 0,.int .i64 n] w λe w'=>e= .returned (.slice (c6 ⟨w.heap.size,0,c7⟩) 0 (grownCap w n 0 3))/\w'=w.drew.alloc (.cells (dT ((hK .i64 0):Value).cells n++dT ((hK .i64 0):Value).cells (grownCap w n 0 3 -n)) 3):=by
 obtain⟨i0,hi0,hz0,hzs,hzb⟩:=info_parts acK;have hrz:∀ty,(s8 #[22,3] ty #[.slice c7 0 0,.int .i64 (n:Int)]).run dd w=_:=λty=>
  Lib.run_append_nil_zeros w 22 3 ty 3 i0 _ .i64 .i64 Tryz.underlying22 r0 hi0 hz0 n h0 (by omega) (by omega) (by rw[hzb];omega)
 have hG:=grownCap_ge w n 0 3;have hG63:grownCap w n 0 3<=9223372036854775807:=grownCap_le_maxLen w n 0 3 (by unfold maxLen;omega);have hp:(0:Int)<(n:Int):=by omega
 generalize grownCap w n 0 3=G at hrz hG hG63⊢;have hG0:¬(G=0):=by omega
 go_enter q3,vl
 go_wp2_with (at_builtin;refine o1 _ rfl _ _ _ _ rfl _ _ rfl rfl _ _ (hrz _) ?_)
 go_ret
 exact⟨rfl,rfl⟩
def V0:aiC dd 340 3 1 8:=by
 intro a b g d;rcases p6 b with rfl |h0
 .exact(aaj a).mono λe h c=>.inl c
 .refine(ak2 a b h0 g d).mono ?_
  rintro e h ⟨rfl,rfl⟩;refine .inr ⟨_,_,rfl,?_,grownCap_le_maxLen a b 0 3 (by unfold maxLen;omega),rfl⟩
  have i:=grownCap_ge a b 0 3;have f:((hK .i64 0):Value).cells.size=1:=by decide
  simp only[j9,size_zeroCells,f];omega
def anw{g:Gh}{c:World}(l:bF g [] c)(f:Nat)(cells:Array Value)(h:Nat)(q:cells.size=h*1)(v:h<=maxLen):
 Bml.GStep 0 g [] c ⟨g.F,λr=>if r=0 then c6 (c.heap.size,h) else c7⟩ [⟨f,1,[],0⟩] (c.alloc (.cells cells f))/\bF ⟨g.F,λr=>if r=0 then c6 (c.heap.size,h) else c7⟩ [⟨f,1,[],0⟩] (c.alloc (.cells cells f)):=by
 refine⟨⟨rfl,rfl,rfl,by simp,λ_ a=>a,λb a=>hL c _ b (l.fb b a),λb a _=>hL c _ b a,λb a=>.inl a,λr b n a=>?_,λr m x d=>?_⟩,⟨λb a=>?_,λr p b C1 C2 k j=>?_,λr b n a=>?_,λr m d=>?_⟩⟩
 .dsimp only at a
  by_cases e:r=0
  .rw[if_pos e] at a;injection a with a
   injection a with a
   exact .inl (by omega)
  .rw[if_neg e] at a;cases a
 .omega
 .have:=l.fb b a;simp;omega
 .dsimp only at k j
  by_cases e:r=0
  .by_cases o:p=0
   .omega
   .rw[if_neg o] at j;cases j
  .rw[if_neg e] at k;cases k
 .dsimp only at a
  by_cases e:r=0
  .subst e;exact rb
  .rw[if_neg e] at a;cases a
 .match r,d with
  |0,d=>
   have d:c6 (⟨f,1,[],0⟩:aO)=c6 m:=d;injection d with d
   subst d;refine⟨rb,λi e u=>by simp at u,?_⟩
   simp only[if_true];exact⟨λt=>Nat.lt_irrefl _ (l.fb _ t),cells,hU c _,q,v,ei _,λi w y s=>by simp[abk] at s⟩
def aeg{by_:Nat}{n:Int}{y:List Int}(a:Ct by_ n=c6 y):∃d:Nat,n=(d:Int)/\d*by_<=140737488355328/\y=[]:=by
 unfold Ct at a;cases c:c5 ((0:Int)<=n) with
 |false=>rw[c] at a;cases a
 |true=>
  rw[c] at a;have h0:=of_decide_eq_true c;obtain⟨h,e,b⟩:=m2.1 a;obtain⟨g,f,i⟩:=SF e;injection b with b
  exact⟨n.toNat,by omega,f,b.symm⟩
def abI(f:Lp):FT (J7 f):=by
 refine⟨pA q3 rfl rfl,λa y z g w vs k e d=>?_⟩
 obtain⟨n,v,l,j⟩:=aeg (by_:=8) (n:=a) (y:=y) z;have o:cz BT (J7 f).par a=⟨[(0,.bg),(1,.int .i64 a)],[]⟩:=rfl;rw[o] at e d⊢
 match vs,k with
 |[r,s],_=>
 have p:r= .slice c7 0 0:=VR.pF (g:=g) (w:=w) (H:=[]) (d 0);have A:s= .int .i64 a:=VR.fQ (g:=g) (w:=w) (H:=[]) (d 1);subst p A;have u:(cz BT (J7 f).az y)=⟨[(0,.fl 0 0)],[⟨0,0,.aap 3 y⟩]⟩:=rfl;rw[u];have i:=V0 w n l (by omega);rw[<-v] at i;refine i.mono ?_
 rintro E D (⟨rfl,rfl⟩ |⟨h,cells,rfl,q,B,rfl⟩)
 .obtain⟨c,b⟩:=e.T6 3 1 (by omega);subst j;refine⟨_,_,rfl,b,c.less (ei _),.fl 0 0 ⟨3,1,[],0⟩ _ rfl (dv _) rfl λ_=>⟨by simp,?_⟩⟩
  have:=Gh.kg g 0 c7;rw[show(av BT ([]:List (Ob BT.D))).length=0 from rfl,this];exact⟨rfl,rfl,c7,rfl⟩
 .obtain⟨x,C⟩:=Ez (m:=0) e;subst j;obtain⟨c,b⟩:=anw C 3 cells h q B;refine⟨_,_,rfl,b,x.trans c,.fl 0 0 ⟨3,1,[],0⟩ _ rfl (dv _) rfl λ_=>⟨by simp,?_⟩⟩
  exact⟨h,_,rfl,ei _,λt=>absurd rfl t,λ_=>⟨rfl,rfl⟩⟩
end
end Go.X.T
namespace Go.X.T
open Go Go.Aml Go.Bml Go.X Go.RowKit Go.Proofs
def FC(c:Int):∀a,(mM c a).Perm (c::a)
 |[]=>.refl _
 |b::a=>by
  unfold mM;cases c5 (c<=b) with
  |true=>exact .refl _
  |false=>exact((FC c a).cons b).trans (.swap c b a)
def Ji:∀a,(dQ a).Perm a
 |[]=>.refl _
 |b::a=>(FC b (dQ a)).trans ((Ji a).cons b)
def L7(f:Int):∀e,oq (λc h=>c<=h) e->oq (λc h=>c<=h) (mM f e)
 |[],_=>by simp[mM]
 |b::e,d=>by
  unfold mM;rw[j8] at d;cases i:c5 (f<=b) with
  |true=>
   have g:=of_decide_eq_true i;refine j8.2 ⟨λc a=>?_,j8.2 d⟩
   rcases hI.1 a with rfl |a
   .exact g
   .exact hz g (d.1 c a)
  |false=>
   have g:=of_decide_eq_false i;refine j8.2 ⟨λc a=>?_,L7 f e d.2⟩
   rcases hI.1 ((FC f e).mem_iff.1 a) with rfl |a
   .omega
   .exact d.1 c a
def Qe:∀a,oq (λb d=>b<=d) (dQ a)
 |[]=>.nil
 |c::a=>L7 c _ (Qe a)
def apt(d:List Int):(d.mergeSort λc e=>c5 (c<=e))=dQ d:=by
 refine List.Perm.eq_of_pairwise (le:=λc e=>c<=e) (λh b _ _ f g=>Int.le_antisymm f g) ?_ (Qe d) ((List.mergeSort_perm _ _).trans (Ji d).symm)
 refine(List.pairwise_mergeSort (le:=λc e=>c5 (c<=e)) (λh b i f g=>?_) (λh b=>?_) d).imp λa=>of_decide_eq_true a
 .exact decide_eq_true (hz (of_decide_eq_true f) (of_decide_eq_true g))
 .rcases Int.le_total h b with a |a
  .simp[a]
  .simp[a]
def ahq{l y:List Int}(a:rC l=c6 y):l.length<=140737488355328/\y=dQ l:=by
 unfold rC at a;cases b:x2 l.length 140737488355328 with
 |false=>rw[b] at a;cases a
 |true=>
  rw[b] at a;injection a with a
  exact⟨Nat.le_of_ble_eq_true b,a.symm⟩
def HB(a:List Int):(dQ a).length=a.length:=(Ji a).length_eq
def asC:Go.Shelf.Ren:=⟨λ|189=>225 |125=>278 |257=>277 |128=>319 |129=>320 |294=>310 |295=>311 |296=>312 |297=>313 |298=>314 |299=>315 |216=>316 |300=>317 |301=>318 |328=>331 |329=>332 |330=>333 |331=>334 |332=>335 |215=>307 |343=>341 |a=>a,λ|28=>22 |3=>3 |46=>181 |0=>0 |51=>347 |53=>179 |4=>4 |183=>379 |182=>378 |131=>323 |5=>5 |9=>9 |218=>390 |222=>304 |228=>398 |229=>298 |a=>a,λa=>a⟩
open Go.Proofs.Tryz in
def asl:Go.Proofs.Lays.n189 dd asC:=⟨by kernel_rfl,func278.trans (congrArg c6 (by kernel_rfl)),func319.trans (congrArg c6 (by kernel_rfl)),func320.trans (congrArg c6 (by kernel_rfl)),func225.trans (congrArg c6 (by kernel_rfl)),func307.trans (congrArg c6 (by kernel_rfl)),func316.trans (congrArg c6 (by kernel_rfl)),func277.trans (congrArg c6 (by kernel_rfl)),func310.trans (congrArg c6 (by kernel_rfl)),func311.trans (congrArg c6 (by kernel_rfl)),func312.trans (congrArg c6 (by kernel_rfl)),func313.trans (congrArg c6 (by kernel_rfl)),func314.trans (congrArg c6 (by kernel_rfl)),func315.trans (congrArg c6 (by kernel_rfl)),func317.trans (congrArg c6 (by kernel_rfl)),func318.trans (congrArg c6 (by kernel_rfl)),func331.trans (congrArg c6 (by kernel_rfl)),func332.trans (congrArg c6 (by kernel_rfl)),func333.trans (congrArg c6 (by kernel_rfl)),func334.trans (congrArg c6 (by kernel_rfl)),func335.trans (congrArg c6 (by kernel_rfl)),func341.trans (congrArg c6 (by kernel_rfl)),underlying0,isAgg0,sizeOf0,zeroValue0,underlying3,isAgg3,sizeOf3,zeroValue3,underlying4,isAgg4,sizeOf4,zeroValue4,underlying5,isAgg5,sizeOf5,zeroValue5,underlying9,isAgg9,sizeOf9,zeroValue9,underlying22,isAgg22,sizeOf22,zeroValue22,underlying181,isAgg181,sizeOf181,zeroValue181,underlying347,isAgg347,sizeOf347,zeroValue347,underlying179,isAgg179,sizeOf179,zeroValue179,underlying323,isAgg323,sizeOf323,zeroValue323,underlying378,isAgg378,sizeOf378,zeroValue378,underlying379,isAgg379,sizeOf379,zeroValue379,underlying390,isAgg390,sizeOf390,zeroValue390,underlying304,isAgg304,sizeOf304,zeroValue304,underlying398,isAgg398,sizeOf398,zeroValue398,underlying298,isAgg298,sizeOf298,zeroValue298⟩
def ajH{g:Gh}{c:World}{a:List Int}{b l n:Nat}{q:Array Obj}(z:bF g [⟨3,1,a.map (PV.int .i64),0⟩] c)(m:g.β 0=c6 (b,l)){w':World}(k:w'=Sort.grow (o3 (hK .i64) (p7 c n) b 0 (dQ a).toArray) q):
 ∃w,Bml.GStep 1 g [⟨3,1,a.map (PV.int .i64),0⟩] c w [⟨3,1,(dQ a).map (PV.int .i64),0⟩] w'/\bF w [⟨3,1,(dQ a).map (PV.int .i64),0⟩] w':=by
 have x:=(z.obj 0 _ rfl).mem;rw[m] at x;obtain⟨O,cells,B,y,L,D,Q⟩:=x;have J:b<c.heap.size:=nN B;rw[hq] at D;have A:(o3 (hK .i64) (p7 c n) b 0 (dQ a).toArray).heap=c.heap.modify b (x3 (kl (hK .i64) 0 (dQ a).toArray)):=rfl;have v:(o3 (hK .i64) (p7 c n) b 0 (dQ a).toArray).heap.size=c.heap.size:=by rw[A];simp
 have C:∀j,j<c.heap.size->w'.heap[j]?=(c.heap.modify b (x3 (kl (hK .i64) 0 (dQ a).toArray)))[j]? :=λj t=>by
  rw[k,Sort.heap_grow_old _ q (by rw[v];exact t),A]
 have H:=bF.set (r:=0) (o':=⟨3,1,(dQ a).map (PV.int .i64),0⟩) (w':=w') (p:=c6 (b,l)) z rfl (by rw[k];rfl) (by rw[k];rfl) (by rw[k];rfl)
  (by rw[k];show c.heap.size<=((o3 (hK .i64) (p7 c n) b 0 (dQ a).toArray).heap++q).size;rw[j9,v];omega)
  (λj t E=>by
   rw[C j t,k7];rw[if_neg (λo=>E l (by rw[<-o];exact m))])
  (dv _) (λ_=>⟨rfl,by simp[HB],m.symm⟩) (λR N s=>by injection s with s;injection s with h1 h2;subst h1;exact .inl ⟨l,m⟩) rb
  (λi o d=>by
   obtain⟨e,_,rfl⟩:=j1.1 (fe d)
   rfl) ?_
 .exact⟨_,H⟩
 .refine⟨kl (hK .i64) 0 (dQ a).toArray cells,?_,?_,L,by simpa[HB] using D,λi G K f=>?_⟩
  .rw[C b J,k7,if_pos rfl,B]
   rfl
  .unfold kl;rw[Array.size_mapIdx,y]
  .obtain⟨o,d,M⟩:=gw f;obtain⟨e,h,rfl⟩:∃e,(dQ a)[i]?=c6 e/\PV.int .i64 e=o:=by
    rw[hS] at d;cases h:(dQ a)[i]? with
    |none=>rw[h] at d;cases d
    |some e=>rw[h] at d;injection d with d;exact⟨e,rfl,d⟩
   match G,M with
   |0,_=>
    have f:K=PV.int .i64 e:=by
     unfold abk at f;rw[d] at f;injection f with f
     exact f.symm
    subst f;have u:i<(dQ a).length:=(e4.1 h).1;have I:i<cells.size:=by
     have P:cells.size=l*1:=y;rw[HB] at u;omega
    refine⟨.int .i64 e,?_,rfl,.aW (.int _ _)⟩
    unfold kl;rw[Array.getElem?_mapIdx,s3,Nat.add_zero,h9 I];simp only[Option.map_some,ei,j2,true_and,k0,u,if_true,Nat.sub_zero];have F:(dQ a).toArray[i]! =e:=by
     rw[e4] at h;obtain⟨_,h⟩:=h;simp[u,h]
    rw[F]
def ak4(a:List Int){g:Gh}{c:World}{n:Value}(R:a.length<=140737488355328)(r:bF g [⟨3,1,a.map (PV.int .i64),0⟩] c)(h0:VR g [⟨3,1,a.map (PV.int .i64),0⟩] c (.fl 0 0) n):
 Calls dd 225 #[n] c λf d=>f= .returned (.tuple #[])/\∃i,Bml.GStep 1 g [⟨3,1,a.map (PV.int .i64),0⟩] c i [⟨3,1,(dQ a).map (PV.int .i64),0⟩] d/\bF i [⟨3,1,(dQ a).map (PV.int .i64),0⟩] d:=by
 have y:SL g ⟨3,1,a.map (PV.int .i64),0⟩ 0 0 a.length n:=by
  cases h0 with
  |aW o=>cases o
  |fl _ _ B _ j P K p=>
   have j:c6 (⟨3,1,a.map (PV.int .i64),0⟩:aO)=c6 B:=j;injection j with j
   subst j;have:=p rfl;have f:(⟨3,1,a.map (PV.int .i64),0⟩:aO).es.length=a.length:=hq _
   rwa [f] at this
 obtain⟨O,m⟩:=y;have t:∀(e:Option Addr) (cap:Nat),a.length=0->Calls dd 225 #[.slice e 0 cap] c λf d=>(f= .returned (.tuple #[])/\∃i,Bml.GStep 1 g [⟨3,1,a.map (PV.int .i64),0⟩] c i [⟨3,1,(dQ a).map (PV.int .i64),0⟩] d/\bF i [⟨3,1,(dQ a).map (PV.int .i64),0⟩] d):=λe cap o=>by
  have p:a=[]:=hM o;subst p;refine(Any.slices_Sort_int_none asl e cap c).mono ?_
  rintro f d ⟨rfl,rfl⟩;exact⟨rfl,g,Bml.GStep.refl _ _ _ _,r⟩
 cases k:g.β 0 with
 |none=>
  rw[k] at m;obtain⟨_,l,e,rfl⟩:=m;exact t e 0 l
 |some z=>
  obtain⟨b,M⟩:=z;rw[k] at m;obtain⟨cap,e,rfl,G,I,x⟩:=m;rcases p6 a.length with l |Q
  .rw[l];exact t e cap l
  .obtain rfl:=(x rfl).1;have v:=(r.obj 0 _ rfl).mem;rw[k] at v;obtain⟨L,cells,q,N,S,T,C⟩:=v;have D:Sort.Holds (hK .i64) c b 0 a.toArray:=λh s=>by
    rw[k0] at s;have A:abk (a.map (PV.int .i64)) h 0=c6 (.int .i64 a[h]):=by
     unfold abk;rw[hS,dk s]
     rfl
    obtain⟨H,u1,u2,u3⟩:=C h 0 _ A;have E:=VR.fQ u3;subst E;refine⟨?_,?_⟩
    .have w:a.toArray[h]! =a[h]:=by simp[s]
     rw[w,j2];unfold z1;rw[q];simpa using u1
    .unfold vw;rw[q];simp
   refine(Any.slices_Sort_int asl b 0 cap a c D (nN q) (by omega)).mono ?_
   rintro f d ⟨rfl,J,F,u⟩;rw[apt] at u;exact⟨rfl,ajH r k u⟩
def D5(b:Lp):FT (AW b):=by
 refine⟨pA Tryz.func225 rfl rfl,λa y o g r vs e d c=>?_⟩
 obtain⟨p,q⟩:=ahq (l:=a) (y:=y) o;have f:cz BT (AW b).par a=⟨[(0,.fl 0 0)],[⟨0,0,.aap 3 a⟩]⟩:=rfl;have n:cz BT (AW b).az y=⟨[],[⟨0,0,.aap 3 y⟩]⟩:=rfl;rw[f] at d c⊢;rw[n];subst q
 match vs,e with
 |[t],_=>
 refine(ak4 a p d (c 0)).mono ?_
 rintro u s ⟨rfl,j,k,h⟩;exact⟨_,j,rfl,h,k,.bu [] [] rfl λi v a m=>by simp at m⟩
end Go.X.T
namespace Go.Bml
open Go Go.RowKit
section
variable {P:Program}
def Ee(w:World)(n q r elem:TypeId)(e b d l x:Nat)(j:Addr)(o s h:Nat)(c:List Value)
 (D:P.underlying n=c6 (.slice elem)) (m:cH P elem=c6 e) (A:Nat.min o l=h) (y:c.length=h*e)
 (z:∀a v,c[a]?=c6 v->w.cell? (j.add a)=c6 v) (t:∀a,a<c.length->(w.cell? ⟨b,d+a,c7⟩).isSome=true) (p:∀a,a<c.length->w.frozen? ⟨b,d+a,c7⟩=false) (u:∀v∈c,v.oneCell'=true):
 (h7 #[n,q] r #[.slice (c6 ⟨b,d,c7⟩) l x,.slice (c6 j) o s]).run P w= .ok (goInt h) (w.setCells b d c):=by
 have k:=run_loadCells_list (P:=P) w j c z;have C:=run_storeCells_cells (P:=P) b d c 0 w (by simpa using t) (by simpa using p) u;rw[y] at k;cases f:P.info? elem with
 |none=>simp[cH,f] at m
 |some i=>
  have B:i.size=e:=by simpa[cH,f] using m
  simp[h7,run_underlying D,Builtin.lenOf,pc,sizeOf,typeInfo,f,B,A,k,C]
def MW(b:Nat)(vs:List Value)(a:Nat)(w:World)(e:∀d,d<vs.length->(w.cell? ⟨b,a+d,c7⟩).isSome=true)(c:Nat)(f:(w.cell? ⟨b,c,c7⟩).isSome=true):((w.setCells b a vs).cell? ⟨b,c,c7⟩).isSome=true:=by
 by_cases h:a<=c/\c<a+vs.length
 .have:=m3 b vs a w e (c -a) (by omega);rw[show a+(c -a)=c by omega] at this;rw[this];rfl
 .rw[gy b vs a w ⟨b,c,c7⟩ (λ_ _=>by show c<a\/a+vs.length<=c;omega)];exact f
def akt{w:World}{b o:Nat}{v:Value}{cells:Array Value}{a:TypeId}{d:Nat×Nat}(e:w.heap[b]?=c6 (.cells cells a d)):
 ∃c,(w.setCell ⟨b,o,c7⟩ v).heap[b]?=c6 (.cells c a d)/\c.size=cells.size:=by
 refine⟨cells.setIfInBounds o v,?_,by simp⟩
 unfold w3;dsimp only;rw[k7,if_pos rfl,e]
 rfl
def P2{b:Nat}{e:TypeId}{d:Nat×Nat}:∀(vs:List Value) (o:Nat) (w:World) (cells:Array Value),w.heap[b]?=c6 (.cells cells e d)->
 ∃c,(w.setCells b o vs).heap[b]?=c6 (.cells c e d)/\c.size=cells.size
 |[],_,_,cells,a=>⟨cells,a,rfl⟩
 |v::r,o,w,cells,a=>by
  obtain⟨l,f,i⟩:=akt (o:=o) (v:=v) a;obtain⟨k,j,h⟩:=P2 r (o+1) _ l f;exact⟨k,j,h.trans i⟩
def MQ{b:Nat}:∀(vs:List Value) (c:Nat) (w:World) (a:Nat),a≠b->(w.setCells b c vs).heap[a]?=w.heap[a]?
 |[],_,_,_,_=>rfl
 |v::r,c,w,a,d=>by
  rw[World.setCells,MQ r (c+1) _ a d];exact Below.heap_setCell w ⟨b,c,c7⟩ v a (by simpa using d)
def QW(b:Nat):∀(vs:List Value) (a:Nat) (w:World),(w.setCells b a vs).os=w.os/\(w.setCells b a vs).tape=w.tape/\(w.setCells b a vs).output=w.output/\(w.setCells b a vs).heap.size=w.heap.size
 |[],_,_=>⟨rfl,rfl,rfl,rfl⟩
 |v::r,a,w=>by
  obtain⟨c,e,d,f⟩:=QW b r (a+1) (w.setCell ⟨b,a,c7⟩ v);exact⟨c,e,d,f.trans (by simp[w3])⟩
def Yq{w:World}{b a:Nat}{e vs:List Value}(j:∀c d,e[c]?=c6 d->w.cell? ⟨b,c,c7⟩=c6 d)(o:a<=e.length)(m:∀c,c<vs.length->(w.cell? ⟨b,a+c,c7⟩).isSome=true):
 ∀c d,(e.take a++vs++e.drop (a+vs.length))[c]?=c6 d->(w.setCells b a vs).cell? ⟨b,c,c7⟩=c6 d:=by
 intro c d f;have i:(e.take a).length=a:=by simp;omega
 by_cases h:c<a
 .rw[l3,ev (by omega),h5 h] at f;rw[gy b vs a w _ (λ_ _=>.inl h)];exact j c d f
 .by_cases n:c<a+vs.length
  .rw[ev (by simp;omega),e6 (by omega),i] at f;obtain⟨k,rfl⟩:=e4.1 f;have:=m3 b vs a w m (c -a) k;rw[show a+(c -a)=c by omega] at this;exact this
  .have l:(e.take a++vs).length=a+vs.length:=by rw[ea,i]
   rw[e6 (by omega),l,hP,show a+vs.length+(c - (a+vs.length))=c by omega] at f;rw[gy b vs a w _ (λ_ _=>.inr (by show a+vs.length<=c;omega))];exact j c d f
def oe{w:World}{b a:Nat}{cells:Array Value}{c:TypeId}{e:Nat×Nat}(d:w.heap[b]?=c6 (.cells cells c e)):w.cell? ⟨b,a,c7⟩=cells[a]? :=by
 unfold z1;rw[d]
 rfl
def FM{w:World}{b d:Nat}{cells:Array Value}{a:TypeId}(c:w.heap[b]?=c6 (.cells cells a (0,0))):w.frozen? ⟨b,d,c7⟩=false:=by
 unfold vw;rw[c];simp
def ON{w:World}{b:Nat}{cells:Array Value}{a:TypeId}(c:w.heap[b]?=c6 (.cells cells a (0,0))):w.shape? b=c6 (a,cells.size):=by
 unfold World.shape?;rw[c]
structure nq (E k:Nat) (w w':World) (b C B C':Nat) (us:List Value):Prop where
 os:w'.os=w.os
 tape:w'.tape=w.tape
 output:w'.output=w.output
 size:w.heap.size<=w'.heap.size
 E9:∀x,x<w.heap.size->x≠b->w'.heap[x]?=w.heap[x]?
 place:(B=b/\C'=C)\/w.heap.size<=B
 block:∃cells,w'.heap[B]?=c6 (.cells cells E (0,0))/\cells.size=C'*k
 room:C'<=maxLen
 fits:us.length<=C'*k
 holds:∀j u,us[j]?=c6 u->w'.cell? ⟨B,j,c7⟩=c6 u
def nq.set{E k:Nat}{w c:World}{b C B d o:Nat}{a vs:List Value}(h:nq E k w c b C B d a)(y:o<=a.length)(K:o+vs.length<=d*k)(s:(a.take o++vs++a.drop (o+vs.length)).length<=d*k):
 nq E k w (c.setCells B o vs) b C B d (a.take o++vs++a.drop (o+vs.length)):=by
 obtain⟨cells,l,I⟩:=h.block;have u:∀e,e<vs.length->(c.cell? ⟨B,o+e,c7⟩).isSome=true:=λe L=>by
  rw[oe l,h9 (by omega)]
  rfl
 obtain⟨D,n,m,t⟩:=QW B vs o c;obtain⟨G,A,J⟩:=P2 vs o c cells l;refine⟨D.trans h.os,n.trans h.tape,m.trans h.output,by rw[t];exact h.size,λx F j=>?_,h.place,⟨G,A,J.trans I⟩,h.room,s,Yq h.holds y u⟩
 rw[MQ vs o c x (by rcases h.place with⟨p,_⟩ |p;rw[p];exact j;omega)];exact h.E9 x F j
def nq.drew{E k:Nat}{w c:World}{b C B d:Nat}{a:List Value}(h:nq E k w c b C B d a):nq E k w c.drew b C B d a:=⟨h.os,h.tape,h.output,h.size,h.E9,h.place,h.block,h.room,h.fits,h.holds⟩
def Xa{f d:Nat}{w:World}{b a m:Nat}{cells:Array Value}(e:w.heap[b]?=c6 (.cells cells f (0,0)))(i:cells.size=a*d)(h:a<=maxLen)(j:m<=a*d):nq f d w w b a b a (cells.toList.take m):=by
 refine⟨rfl,rfl,rfl,dv _,λ_ _ _=>rfl,.inl ⟨rfl,rfl⟩,⟨cells,e,i⟩,h,by rw[dt];omega,λl k c=>?_⟩
 rw[oe e, <-eE];rw[gv] at c
 split at c
 .exact c
 .cases c
def ak9{E d:Nat}{w:World}{b C a m:Nat}{row:Array Value}(i:row.size=a*d)(h:a<=maxLen)(j:m<=a*d):nq E d w (w.alloc (.cells row E)) b C w.heap.size a (row.toList.take m):=by
 refine⟨rfl,rfl,rfl,by simp,λf e _=>hL w _ f e,.inr (dv _),⟨row,heap_alloc_new w _,i⟩,h,by rw[dt];omega,λl k c=>?_⟩
 rw[oe (heap_alloc_new w _), <-eE];rw[gv] at c
 split at c
 .exact c
 .cases c
def ac9{d:Type}{b vs:List d}{a c:Nat}(h:a+c<=b.length)(f:vs.length=c):
 (b.take (a+c)++b.drop a++b.drop (a+c+(b.drop a).length)).take a++vs++(b.take (a+c)++b.drop a++b.drop (a+c+(b.drop a).length)).drop (a+vs.length)=b.take a++vs++b.drop a:=by
 have h0:b.drop (a+c+(b.drop a).length)=[]:=mx (by rw[e5];omega);have e:(b.take (a+c)).length=a+c:=by rw[dt];omega
 rw[h0,l0,f,List.take_append_of_le_length (by omega),tj,j7 (by omega),List.drop_left' e]
def anz{f:Type}{b c vs:List f}{a d:Nat}(j:a<=c.length)(i:vs.length=d)(k:b.length=c.length+d)(h:b.take a=c.take a):
 (b.take a++vs++b.drop (a+vs.length)).take (a+d)++c.drop a++(b.take a++vs++b.drop (a+vs.length)).drop (a+d+(c.drop a).length)=c.take a++vs++c.drop a:=by
 have e:(b.take a++vs).length=a+d:=by rw[ea,dt,i];omega
 have h0:(b.take a++vs++b.drop (a+vs.length)).drop (a+d+(c.drop a).length)=[]:=mx (by rw[ea,e,e5,e5];omega);rw[h0,l0,sa e,h]
def No(P:Program)(f:FuncId)(k a p:Nat):Prop:=
 ∀(w:World) (b c d i l h:Nat) (cells e:Array Value),b≠l->w.heap[b]?=c6 (.cells cells k (0,0))->cells.size=d*a->w.heap[l]?=c6 (.cells e k (0,0))->e.size=h*a->1<=h->i<c->c<=d->d<=maxLen->h<=maxLen->(c+1)*p<=140737488355328->(c+1)*a<=140737488355328->
  (∀j∈cells.toList.take (c*a),j.oneCell'=true)->(∀j∈e.toList.take a,j.oneCell'=true)->
  Calls P f #[.slice (c6 ⟨b,0,c7⟩) c d,.int .i64 i,.slice (c6 ⟨l,0,c7⟩) 1 h] w λo q=>∃n m,o= .returned (.slice (c6 ⟨n,0,c7⟩) (c+1) m)/\
   nq k a w q b d n m ((cells.toList.take (c*a)).take (i*a)++e.toList.take a++(cells.toList.take (c*a)).drop (i*a))
end
section
variable {g:Gh}{H:List aO}{w:World}
def gI.take{sz:Nat}{es:List PV}{k:List Value}(h:gI g H w sz es k)(u:∀e,e∈es->e.cells.length=sz)(m:Nat)(d:m<=es.length):gI g H w sz (es.take m) (k.take (m*sz)):=by
 refine⟨?_,λi j c a=>?_⟩
 .rw[dt,dt,h.1,j7 d,j7 (hY _ d)]
 .obtain⟨e,he,y⟩:=gw a;have hi:=(e4.1 he).1;rw[dt] at hi;have hi:i<m/\i<es.length:=by omega
  have t:abk es i j=c6 c:=by
   unfold abk at a⊢
   rwa [h5 hi.1] at a
  rw[h5 hi.1] at he;have x:=u e (fe he);obtain⟨o,l,s,n⟩:=h.2 i j c t;refine⟨o,?_,s,n⟩
  have:(i+1)*sz<=m*sz:=hY _ hi.1;rw[l4,Nat.one_mul] at this;rw[h5 (by omega)];exact l
def gI.drop{sz:Nat}{es:List PV}{e:List Value}(h:gI g H w sz es e)(m:Nat):gI g H w sz (es.drop m) (e.drop (m*sz)):=by
 refine⟨?_,λi a c d=>?_⟩
 .rw[e5,e5,h.1,Nat.sub_mul]
 .have o:abk es (m+i) a=c6 c:=by
   unfold abk at d⊢
   rwa [hP] at d
  obtain⟨l,j,n,k⟩:=h.2 _ a c o;refine⟨l,?_,n,k⟩
  rw[hP, <-Nat.add_assoc, <-l4];exact j
def gI.aX{sz:Nat}{es m:List PV}{t vs:List Value}(h:gI g H w sz es t)(s:gI g H w sz m vs)(u:∀e,e∈es->e.cells.length=sz):gI g H w sz (es++m) (t++vs):=by
 refine⟨by rw[ea,ea,h.1,s.1,l4],λi a c j=>?_⟩
 by_cases hi:i<es.length
 .have o:abk es i a=c6 c:=by
   unfold abk at j⊢
   rwa [ev hi] at j
  obtain⟨l,d,n,k⟩:=h.2 i a c o;exact⟨l,by rw[ev (e4.1 d).1];exact d,n,k⟩
 .have o:abk m (i -es.length) a=c6 c:=by
   unfold abk at j⊢
   rwa [e6 (by omega)] at j
  obtain⟨l,d,n,k⟩:=s.2 _ a c o;refine⟨l,?_,n,k⟩
  have e:i*sz=es.length*sz+(i -es.length)*sz:=by rw[<-l4];congr 1;omega
  rw[e6 (by rw[h.1,e];omega),h.1,e,show es.length*sz+(i -es.length)*sz+a -es.length*sz=(i -es.length)*sz+a by omega];exact d
def qT.row{r b C:Nat}{a:aO}(B:bF g H w)(x:H[r]?=c6 a)(s:g.β r=c6 (b,C)):
 ∃cells,w.heap[b]?=c6 (.cells cells a.ty (0,0))/\cells.size=C*a.sz/\C<=maxLen/\a.es.length<=C/\gI g H w a.sz a.es (cells.toList.take (a.es.length*a.sz))/\∀d∈cells.toList.take (a.es.length*a.sz),d.oneCell'=true:=by
 obtain⟨a1,l,n⟩:=B.obj r a x;rw[s] at n;obtain⟨_,cells,y,j,t,h,u⟩:=n;have D:(cells.toList.take (a.es.length*a.sz)).length=a.es.length*a.sz:=by
  rw[dt,e0,j,j7 (hY _ h)]
 have m:gI g H w a.sz a.es (cells.toList.take (a.es.length*a.sz)):=by
  refine⟨D,λi o c k=>?_⟩
  obtain⟨d,F,E,A⟩:=u i o c k;refine⟨d,?_,E,A⟩
  obtain⟨e,he,I⟩:=gw k;have G:=l i e he;have hi:=(e4.1 he).1;have:(i+1)*a.sz<=a.es.length*a.sz:=hY _ hi;rw[l4,Nat.one_mul] at this;rw[h5 (by omega),eE];exact F
 exact⟨cells,y,j,t,h,m,m.one a1 l⟩
end
def Yz{P:Program}(w:World){b:Oper}{a:Act}{f:Act->World->Prop}{o:Exit->Act->World->Prop}(d e:Operand)(h k:TypeId)
 (p:b.op= .call {callee:=.builtin .copy,args:=#[d,e],argTypes:=#[h,k]}) (v c:Value) (l:a.eval d=v) (q:a.eval e=c) {i:Value} {j:World}
 (n:(h7 #[h,k] b.type #[v,c]).run P w= .ok i j) (m:f (a.put b.dst i) j):b.wp P a w f o:=by
 unfold tc execOp;simp only[p,resolve,invoke,builtin,eo,h6,ec,List.map_toArray,List.map_cons,List.map_nil,l,q,n];exact m
def Kj{P:Program}(w:World){ops:Array Oper}{j:List Oper}{a:Oper}{b:Act}{i:Exit->Act->World->Prop}(m:a.guard=c7)(d e:Operand)(f h:TypeId)
 (r:a.op= .call {callee:=.builtin .copy,args:=#[d,e],argTypes:=#[f,h]}) (v c:Value) (n:b.eval d=v) (s:b.eval e=c) {k:Value} {l:World}
 (q:(h7 #[f,h] a.type #[v,c]).run P w= .ok k l) (o:wpList P ops i j (b.put a.dst k) l):wpList P ops i (a::j) b w:=
 wpList_plain m λ_ p=>Yz w d e f h r v c n s q (p _ _ o)
def Mz{P:Program}{ops:Array Oper}{a:Oper}{b:Act}{w:World}{k:Act->World->Prop}{s:Exit->Act->World->Prop}{r:Prop}
 (m:a.guard=c7) (e h:Operand) (j f:TypeId) (l:a.op=Op.call {callee:=Callee.builtin Builtin.copy,args:=#[e,h],argTypes:=#[j,f]})
 (v d:Value) (o:b.eval e=v) (q:b.eval h=d) {c:Value} {i:World} (n:(h7 #[j,f] a.type #[v,d]).run P w= .ok c i) (t:k (b.put a.dst c) i):
 if oS a (yielded ops b.tmps)=true then tc P a b w k s else r:=by
 have p:oS a (yielded ops b.tmps)=true:=by simp[oS,m]
 rw[if_pos p];unfold tc;simp[execOp,l,resolve,invoke,builtin,o,q,n,k6];exact t
def Xg{g:Gh}{h:List aO}{w m:World}{q b l j f k d v:Nat}{F c:List PV}{t:List Value}(L:bF g h w)(u:h[q]?=c6 ⟨k,d,F,v⟩)(s:g.β q=c6 (b,l))(J:0<d)
 (e:nq k d w m b l j f t) (E:gI g h w d c t) (C:∀a,a∈c->a.cells.length=d) (n:c.length<=f):
 GStep h.length g h w (g.push q (c6 (j,f))) (h.set q ⟨k,d,c,v+1⟩) m/\bF (g.push q (c6 (j,f))) (h.set q ⟨k,d,c,v+1⟩) m/\
  SL (g.push q (c6 (j,f))) ⟨k,d,c,v+1⟩ q 0 c.length (.slice (c6 ⟨j,0,c7⟩) c.length f):=by
 have S:q<h.length:=(e4.1 u).1;obtain⟨cells,o,M⟩:=e.block;have x:=L.set (r:=q) (o':=⟨k,d,c,v+1⟩) (p:=c6 (j,f)) u e.os e.tape e.output e.size
  (λD I y=>e.E9 D I (λa=>y l (by rw[a];exact s))) (Nat.le_succ v) (λa=>absurd a (by show v+1≠v;omega))
  (λU C1 a=>by
   injection a with a
   injection a with e1 e2
   rcases e.place with⟨A,T⟩ |p
   .exact .inl ⟨l,by rw[<-e1,A];exact s⟩
   .exact .inr (by omega))
  J (λi a O=>C a (fe O))
  ⟨cells,o,M,e.room,n,λi z K N=>by
   obtain⟨B,R,Q,G⟩:=E.2 i z K N;have:=e.holds _ _ R;rw[oe o] at this;exact⟨B,this,Q,G⟩⟩
 refine⟨x.1,x.2,by simp,?_⟩
 rw[Gh.kg];exact⟨f,_,rfl,n,λ_=>by simp,λ_=>⟨rfl,rfl⟩⟩
def Nu{g:Gh}{i:List aO}{w:World}{q v:Nat}{a:aO}{e:Value}(h:VR g i w (.fl q v) e)(m:i[q]?=c6 a)(r:a.aF=v)(h0:0<a.es.length):
 ∃b f,g.β q=c6 (b,f)/\e= .slice (c6 ⟨b,0,c7⟩) a.es.length f:=by
 have s:SL g a q 0 a.es.length e:=by
  cases h with
  |aW h=>cases h
  |fl _ _ t _ c x n p=>
   rw[m] at c;injection c with c
   subst c;exact p r.symm
 obtain⟨n,d⟩:=s;cases j:g.β q with
 |none=>rw[j] at d;omega
 |some l=>
  obtain⟨b,f⟩:=l;rw[j] at d;obtain⟨cap,u,o,_,_,k⟩:=d;obtain⟨rfl,rfl⟩:=k rfl;exact⟨b,cap,rfl,o⟩
def aeQ{P:Program}{f:FuncId}{c a y:Nat}(ah:No P f c a y)(M:0<a){g:Gh}{w:World}{w0 w1:Nat}{es:List PV}{e:PV}{i:Nat}(af:i<es.length)
 (j:bF g [⟨c,a,es,w0⟩,⟨c,a,[e],w1⟩] w) (ab:(es.length+1)*y<=140737488355328) (X:(es.length+1)*a<=140737488355328) {G R:Value} (ae:VR g [⟨c,a,es,w0⟩,⟨c,a,[e],w1⟩] w (.fl 0 w0) G) (T:VR g [⟨c,a,es,w0⟩,⟨c,a,[e],w1⟩] w (.fl 1 w1) R):
 Calls P f #[G,.int .i64 i,R] w λx l=>∃v p,x= .returned v/\bF p [⟨c,a,es.take i++[e]++es.drop i,w0+1⟩,⟨c,a,[e],w1⟩] l/\GStep 2 g [⟨c,a,es,w0⟩,⟨c,a,[e],w1⟩] w p [⟨c,a,es.take i++[e]++es.drop i,w0+1⟩,⟨c,a,[e],w1⟩] l/\
  VR p [⟨c,a,es.take i++[e]++es.drop i,w0+1⟩,⟨c,a,[e],w1⟩] l (.fl 0 (w0+1)) v:=by
 have h0:([⟨c,a,es,w0⟩,⟨c,a,[e],w1⟩]:List aO)[0]?=c6 ⟨c,a,es,w0⟩:=rfl;have q:([⟨c,a,es,w0⟩,⟨c,a,[e],w1⟩]:List aO)[1]?=c6 ⟨c,a,[e],w1⟩:=rfl;obtain⟨b,K,n,rfl⟩:=Nu ae h0 rfl (by show 0<es.length;omega);obtain⟨W,t,z,rfl⟩:=Nu T q rfl (by show 0<[e].length;simp);obtain⟨cells,C,u,A,L,r,E⟩:=qT.row j h0 n;obtain⟨I,J,O,D,F,o,s⟩:=qT.row j q z;dsimp only at C u A L r E J O D F o s;rw[show[e].length*a=a by simp] at o s;have k:∀h,h∈es->h.cells.length=a:=λh d=>by
  obtain⟨ac,Z,rfl⟩:=List.getElem_of_mem d;exact(j.obj 0 _ h0).width ac _ (dk Z)
 have Q:e.cells.length=a:=(j.obj 1 _ q).width 0 _ rfl;refine(ah w b es.length K i W t cells I (λaa=>absurd (j.inj 0 1 b K t n (by rw[aa];exact z)) (by decide)) C u J O (by simpa using F) af L A D ab X E s).mono ?_
 rintro x l ⟨ai,U,rfl,N⟩;have B:gI g [⟨c,a,es,w0⟩,⟨c,a,[e],w1⟩] w a (es.take i++[e]++es.drop i) ((cells.toList.take (es.length*a)).take (i*a)++I.toList.take a++(cells.toList.take (es.length*a)).drop (i*a)):=by
  refine((r.take k i (by omega)).aX o (λh d=>k h (ie d))).aX (r.drop i) (λh d=>?_)
  rcases l1.1 d with d |d
  .exact k h (ie d)
  .rw[eH.1 d];exact Q
 have m:(es.take i++[e]++es.drop i).length=es.length+1:=by simp;omega
 have V:es.length+1<=U:=by
  have:=N.fits;rw[B.1,m] at this;exact Nat.le_of_mul_le_mul_right this M
 have Y:∀h,h∈es.take i++[e]++es.drop i->h.cells.length=a:=λh d=>by
  rcases l1.1 d with d |d
  .rcases l1.1 d with d |d
   .exact k h (ie d)
   .rw[eH.1 d];exact Q
  .exact k h (km d)
 obtain⟨ad,ag,S⟩:=Xg j h0 n M N B Y (by rw[m];exact V);refine⟨_,_,rfl,ag,ad,.fl 0 (w0+1) ⟨c,a,es.take i++[e]++es.drop i,w0+1⟩ _ rfl (dv _) rfl λ_=>?_⟩
 rw[m] at S;rw[m];exact S
end Go.Bml
namespace Go.X.T
open Go Go.Aml Go.Bml Go.RowKit Go.Proofs
section
open Go.RowKit
def ai7(w:World)(b n C i vb vC:Nat)(cells vcells:Array Value)(hne:b≠vb)(h1:w.heap[b]?=c6 (.cells cells 75 (0,0)))(h2:cells.size=C*9)(h3:w.heap[vb]?=c6 (.cells vcells 75 (0,0)))(h4:vcells.size=vC*9)(hv1:1<=vC)(hi:i<n)(hC:C<=maxLen)
 (hroom:n+1<=C) (c1:∀u∈cells.toList.take (n*9),u.oneCell'=true) (c2:∀u∈vcells.toList.take 9,u.oneCell'=true):
 Calls dd 244 #[.slice (c6 ⟨b,0,c7⟩) n C,.int .i64 i,.slice (c6 ⟨vb,0,c7⟩) 1 vC] w λe w'=>e= .returned (.slice (c6 ⟨b,0,c7⟩) (n+1) C)/\
  w'=(w.drew.setCells b (((i+1)*9)) ((cells.toList.take (n*9)).drop ((i*9)))).setCells b ((i*9)) (vcells.toList.take 9):=by
 have hC63:C<=9223372036854775807:=hC;obtain⟨cs,hcs⟩:∃cs,cs=cells.toList.take (n*9):=⟨_,rfl⟩;obtain⟨vs,hvs⟩:∃vs,vs=vcells.toList.take 9:=⟨_,rfl⟩;have hcl:cs.length=n*9:=by rw[hcs,dt,e0,h2];omega
 have hvl:vs.length=9:=by rw[hvs,dt,e0,h4];omega
 have eZ:∀j v,cs[j]?=c6 v->w.cell? ⟨b,j,c7⟩=c6 v:=λj v hj=>by
  rw[oe h1, <-eE];rw[hcs,gv] at hj
  split at hj
  .exact hj
  .cases hj
 have hrv:∀j v,vs[j]?=c6 v->w.cell? ⟨vb,j,c7⟩=c6 v:=λj v hj=>by
  rw[oe h3, <-eE];rw[hvs,gv] at hj
  split at hj
  .exact hj
  .cases hj
 have hsp:∀j,j<(n+1)*9->(w.cell? ⟨b,j,c7⟩).isSome=true:=λj hj=>by
  rw[oe h1,h9 (by omega)];rfl
 have hfz:∀j,w.frozen? ⟨b,j,c7⟩=false:=λj=>FM h1
 rw[<-hcs] at c1⊢;rw[<-hvs] at c2⊢;have hz2:¬((i:Int)=(n:Int)):=by omega
 have hov:∀lb cb,(callFunc 297 #[.slice (c6 ⟨vb,0,c7⟩) 1 vC,.slice (c6 ⟨b,(i+1)*9,c7⟩) lb cb]).run dd w= .ok (.value (.bool false)) w:=λlb cb=>by
  rw[run_callFunc_extern Tryz.func297 (by kernel_rfl) (by kernel_rfl) (by kernel_rfl) (e:=r3 #[53,53] #[4]) (by kernel_rfl),
   Lib.run_overlaps_apart w 53 4 75 hB 9 Tryz.sizeOf75 ⟨vb,0,c7⟩ ⟨b,(i+1)*9,c7⟩ 1 vC lb cb (λh=>hne h.symm) 75 75 _ _ (ON h3) (ON h1) (by omega) (FM h3) (FM h3)]
  rfl
 have hdl:(cs.drop ((i*9))).length=(n -i)*9:=by rw[e5,hcl];omega
 have mixed:dd.follows .mixedOrders=true:=by kernel_rfl
 have hw1:c3 c4 ((i:Int)+1)=(i:Int)+1:=by rw[h8];omega
 have hw2:c3 c4 ((n:Int)+1)=(n:Int)+1:=by rw[h8];omega
 have hb1:(0:Int)<=(i:Int)+1:=by omega
 have hin:i<=n:=by omega
 have htn:((i:Int)+1).toNat=i+1:=by omega
 have htn2:((n:Int)+1).toNat=n+1:=by omega
 have hb2:¬(C=i+1):=by omega
 have hb3:(i:Int)<=(n:Int)+1:=by omega
 have hb4:¬(C=i):=by omega
 have hb5:¬((C:Int)<(n:Int)+1):=by omega
 have hcp1:∀ty dc sc,(h7 #[53,53] ty #[.slice (c6 ⟨b,(i+1)*9,c7⟩) (n -i) dc,.slice (c6 ⟨b,i*9,c7⟩) (n+1 -i) sc]).run dd w.drew= .ok (goInt (n -i:Nat)) (w.drew.setCells b (((i+1)*9)) (cs.drop ((i*9)))):=λty dc sc=>
  Ee w.drew _ _ ty 75 9 b (((i+1)*9)) (n -i) dc ⟨b,i*9,c7⟩ (n+1 -i) sc (n -i) (cs.drop ((i*9))) hB rfl (by simp only[o4];split <;> omega) hdl
   (λj v hj=>by rw[l2];exact eZ ((i*9)+j) v (by rwa [hP] at hj))
   (λj hj=>hsp _ (by rw[hdl] at hj;omega)) (λj hj=>hfz _) (λv hv=>c1 v (km hv))
 obtain⟨W1,hW1⟩:∃W1,W1=w.drew.setCells b (((i+1)*9)) (cs.drop ((i*9))):=⟨_,rfl⟩;have hsp1:∀k,k<(n+1)*9->(W1.cell? ⟨b,k,c7⟩).isSome=true:=λk hk=>by
  rw[hW1];exact MW b (cs.drop ((i*9))) (((i+1)*9)) w.drew (λj hj=>hsp _ (by rw[hdl] at hj;omega)) k (hsp k hk)
 have hcp2:∀(W:World),(∀x,W.cell? x=W1.cell? x)->(∀x,W.frozen? x=W1.frozen? x)->∀ty dc,(h7 #[53,53] ty #[.slice (c6 ⟨b,i*9,c7⟩) (n+1 -i) dc,.slice (c6 ⟨vb,0,c7⟩) 1 vC]).run dd W= .ok (goInt (1:Nat)) (W.setCells b ((i*9)) vs):=λW hWc hWf ty dc=>
  Ee W _ _ ty 75 9 b ((i*9)) (n+1 -i) dc ⟨vb,0,c7⟩ 1 vC 1 vs hB rfl (by simp only[o4];split <;> omega) (by rw[hvl])
   (λj v hj=>by
    rw[l2,hWc,hW1,gy b _ _ _ _ (λh _=>absurd h.symm hne),j2];exact hrv j v hj)
   (λj hj=>by rw[hWc];exact hsp1 _ (by omega)) (λj hj=>by rw[hWf,hW1,my];exact hfz _) c2
 rw[<-hW1] at hcp1;clear hcs hvs
 go_enter q4,wa
 go_wp2_with (simp only[hov])
 go_region_law (refine Mz rfl _ _ 53 53 rfl _ _ (by simp[q5,x5]) (by simp[q5,x5]) (hcp1 _ _ _) ?_)
 go_wp2_with (at_builtin;refine Kj _ rfl _ _ 53 53 rfl _ _ rfl rfl (hcp2 _ (λ_=>rfl) (λ_=>rfl) _ _) ?_)
 go_ret
 first |exact⟨rfl,rfl⟩ |exact⟨rfl,by rw[hW1]⟩
def ac5:(dd.info? 75).map (λi=>(i.zero,i.size,i.bytes))=c6 (c6 (ga #[.int .i64 0,.int .i64 0,.int .i64 0,.int .i64 0,.int .i64 0,.bool false,.bool false,.int .i64 0,.int .i64 0]),9,64):=by kernel_rfl
def ah2(w:World)(b n C i vb vC:Nat)(cells vcells:Array Value)(h1:w.heap[b]?=c6 (.cells cells 75 (0,0)))(h2:cells.size=C*9)(h3:w.heap[vb]?=c6 (.cells vcells 75 (0,0)))(h4:vcells.size=vC*9)(hv1:1<=vC)(hi:i<n)(hC:C<=maxLen)
 (hnc:n<=C) (hroom:C<n+1) (hbig:(n+1)*64<=140737488355328) (c1:∀u∈cells.toList.take (n*9),u.oneCell'=true) (c2:∀u∈vcells.toList.take 9,u.oneCell'=true):
 Calls dd 244 #[.slice (c6 ⟨b,0,c7⟩) n C,.int .i64 i,.slice (c6 ⟨vb,0,c7⟩) 1 vC] w λe w'=>e= .returned (.slice (c6 ⟨w.heap.size,0,c7⟩) (n+1) (grownCap w (n+1) C 75))/\
  w'=(((w.alloc (.cells (((cells.toList.take (n*9)).take (i*9)).toArray++dT ((ga #[.int .i64 0,.int .i64 0,.int .i64 0,.int .i64 0,.int .i64 0,.bool false,.bool false,.int .i64 0,.int .i64 0]):Value).cells (n+1 -i)++dT ((ga #[.int .i64 0,.int .i64 0,.int .i64 0,.int .i64 0,.int .i64 0,.bool false,.bool false,.int .i64 0,.int .i64 0]):Value).cells (grownCap w (n+1) C 75 - (n+1))) 75)).drew.setCells w.heap.size (i*9) (vcells.toList.take 9)).drew).setCells w.heap.size ((i+1)*9) ((cells.toList.take (n*9)).drop (i*9)):=by
 have hC63:C<=9223372036854775807:=hC;obtain⟨cs,hcs⟩:∃cs,cs=cells.toList.take (n*9):=⟨_,rfl⟩;obtain⟨vs,hvs⟩:∃vs,vs=vcells.toList.take 9:=⟨_,rfl⟩;have hcl:cs.length=n*9:=by rw[hcs,dt,e0,h2];omega
 have hvl:vs.length=9:=by rw[hvs,dt,e0,h4];omega
 have eZ:∀j v,cs[j]?=c6 v->w.cell? ⟨b,j,c7⟩=c6 v:=λj v hj=>by
  rw[oe h1, <-eE];rw[hcs,gv] at hj
  split at hj
  .exact hj
  .cases hj
 have hrv:∀j v,vs[j]?=c6 v->w.cell? ⟨vb,j,c7⟩=c6 v:=λj v hj=>by
  rw[oe h3, <-eE];rw[hvs,gv] at hj
  split at hj
  .exact hj
  .cases hj
 rw[<-hcs] at c1⊢;rw[<-hvs] at c2⊢;obtain⟨i0,hi0,hz0,hzs,hzb⟩:=info_parts ac5;have hz2:¬((i:Int)=(n:Int)):=by omega
 have hz3:(C:Int)<(n:Int)+1:=by omega
 have hbw:b<w.heap.size:=nN h1;have hvw:vb<w.heap.size:=nN h3;have hkk:(n:Int)+1 - (i:Int)=((n+1 -i:Nat):Int):=by omega
 have hik:i+(n+1 -i)=n+1:=by omega
 have hold:(pc i0.size i (.slice (c6 ⟨b,0,c7⟩) i C)).run dd w.drew= .ok (cs.take (i*9)).toArray w.drew:=by
  rw[hzs];exact run_firstCells_some w.drew 9 i ⟨b,0,c7⟩ i C (cs.take (i*9)) (by rw[dt];omega) (λj v hj=>by
   rw[l2,j2];rw[gv] at hj
   split at hj
   .exact eZ j v hj
   .cases hj)
 have hrz:∀ty,(s8 #[53,3] ty #[.slice (c6 ⟨b,0,c7⟩) i C,.int .i64 ((n:Int)+1 - (i:Int))]).run dd w=
  .ok (.slice (c6 ⟨w.heap.size,0,c7⟩) (n+1) (grownCap w (n+1) C 75)) (w.drew.alloc (.cells ((cs.take (i*9)).toArray++dT ((ga #[.int .i64 0,.int .i64 0,.int .i64 0,.int .i64 0,.int .i64 0,.bool false,.bool false,.int .i64 0,.int .i64 0]):Value).cells (n+1 -i)++dT ((ga #[.int .i64 0,.int .i64 0,.int .i64 0,.int .i64 0,.int .i64 0,.bool false,.bool false,.int .i64 0,.int .i64 0]):Value).cells (grownCap w (n+1) C 75 - (n+1))) 75)):=λty=>by
  have h:=Lib.run_append_grow_zeros w 53 3 ty 75 i0 _ .i64 .i64 hB r0 hi0 hz0 (c6 ⟨b,0,c7⟩) i C (cs.take (i*9)) hold (n+1 -i) (by omega) (by omega) (by omega) (by omega) (by rw[hzb];omega) (by rw[hzb,hik];exact growslice_fits hroom hbig);rw[hik] at h;rw[hkk];exact h
 obtain⟨G,hG⟩:∃G,G=grownCap w (n+1) C 75:=⟨_,rfl⟩;obtain⟨ROW,hROW⟩:∃ROW:Array Value,ROW=(cs.take (i*9)).toArray++dT ((ga #[.int .i64 0,.int .i64 0,.int .i64 0,.int .i64 0,.int .i64 0,.bool false,.bool false,.int .i64 0,.int .i64 0]):Value).cells (n+1 -i)++dT ((ga #[.int .i64 0,.int .i64 0,.int .i64 0,.int .i64 0,.int .i64 0,.bool false,.bool false,.int .i64 0,.int .i64 0]):Value).cells (G - (n+1)):=⟨_,rfl⟩;rw[<-hG] at hrz⊢;rw[<-hROW] at hrz⊢;have hzc:((ga #[.int .i64 0,.int .i64 0,.int .i64 0,.int .i64 0,.int .i64 0,.bool false,.bool false,.int .i64 0,.int .i64 0]):Value).cells.size=9:=by decide
 have hRl:(n+1)*9<=ROW.size:=by
  rw[hROW];simp only[j9,size_zeroCells,hzc,k0,dt,hcl];omega
 obtain⟨W1,hW1⟩:∃W1,W1=w.drew.alloc (.cells ROW 75):=⟨_,rfl⟩;rw[<-hW1] at hrz;have hN:∀j,j<(n+1)*9->(W1.cell? ⟨w.heap.size,j,c7⟩).isSome=true:=λj hj=>by
  rw[hW1,World.cell?_alloc_at (w:=w.drew) ROW _ w.heap.size j rfl,h9 (by omega)];rfl
 have hNf:∀j,W1.frozen? ⟨w.heap.size,j,c7⟩=false:=λj=>by rw[hW1];exact World.frozen?_alloc_at (w:=w.drew) ROW _ w.heap.size j rfl
 have hOb:∀j v,w.cell? ⟨b,j,c7⟩=c6 v->W1.cell? ⟨b,j,c7⟩=c6 v:=λj v h=>by rw[hW1,n0 (w:=w.drew) _ b j hbw];exact h
 have hOv:∀j v,w.cell? ⟨vb,j,c7⟩=c6 v->W1.cell? ⟨vb,j,c7⟩=c6 v:=λj v h=>by rw[hW1,n0 (w:=w.drew) _ vb j hvw];exact h
 have hcpA:∀(W:World),(∀x,W.cell? x=W1.cell? x)->(∀x,W.frozen? x=W1.frozen? x)->∀ty dc,(h7 #[53,53] ty #[.slice (c6 ⟨w.heap.size,i*9,c7⟩) (n+1 -i) dc,.slice (c6 ⟨vb,0,c7⟩) 1 vC]).run dd W= .ok (goInt (1:Nat)) (W.setCells w.heap.size (i*9) vs):=λW hWc hWf ty dc=>
  Ee W _ _ ty 75 9 w.heap.size (i*9) (n+1 -i) dc ⟨vb,0,c7⟩ 1 vC 1 vs hB rfl (by simp only[o4];split <;> omega) (by rw[hvl])
   (λj v hj=>by rw[l2,hWc,j2];exact hOv _ v (hrv j v hj))
   (λj hj=>by rw[hWc];exact hN _ (by omega)) (λj hj=>by rw[hWf];exact hNf _) c2
 have hGn:n+1<=G:=by rw[hG];exact grownCap_ge w _ _ _
 have hG63:G<=9223372036854775807:=by
  have:=grownCap_le_maxLen w (n+1) C 75 (by unfold maxLen;omega);rw[<-hG] at this;unfold maxLen at this;omega
 have hGi:¬(G=i):=by omega
 have hGim:¬(G=i+1):=by omega
 have hci:¬(C=i):=by omega
 have hbN:b≠w.heap.size:=by omega
 have hdl:(cs.drop (i*9)).length=(n -i)*9:=by rw[e5,hcl];omega
 have hcpB:∀(W:World),(∀x,W.cell? x=(W1.setCells w.heap.size (i*9) vs).cell? x)->(∀x,W.frozen? x=(W1.setCells w.heap.size (i*9) vs).frozen? x)->∀ty dc sc,(h7 #[53,53] ty #[.slice (c6 ⟨w.heap.size,(i+1)*9,c7⟩) (n -i) dc,.slice (c6 ⟨b,i*9,c7⟩) (n -i) sc]).run dd W= .ok (goInt (n -i:Nat)) (W.setCells w.heap.size ((i+1)*9) (cs.drop (i*9))):=λW hWc hWf ty dc sc=>
  Ee W _ _ ty 75 9 w.heap.size ((i+1)*9) (n -i) dc ⟨b,i*9,c7⟩ (n -i) sc (n -i) (cs.drop (i*9)) hB rfl (by simp only[o4];split <;> omega) hdl
   (λj v hj=>by
    rw[l2,hWc,gy _ _ _ _ _ (λh _=>absurd h hbN)];exact hOb _ v (eZ ((i*9)+j) v (by rwa [hP] at hj)))
   (λj hj=>by rw[hWc];exact MW w.heap.size vs (i*9) W1 (λt ht=>hN _ (by omega)) _ (hN _ (by rw[hdl] at hj;omega)))
   (λj hj=>by rw[hWf,my];exact hNf _) (λv hv=>c1 v (km hv))
 subst hW1;have hE1:∀x,((w.alloc (.cells ROW 75)).drew).cell? x=(w.drew.alloc (.cells ROW 75)).cell? x:=λx=>rfl
 have hE2:∀x,((w.alloc (.cells ROW 75)).drew).frozen? x=(w.drew.alloc (.cells ROW 75)).frozen? x:=λx=>rfl
 have hF1:∀x,(((w.alloc (.cells ROW 75)).drew.setCells w.heap.size (i*9) vs).drew).cell? x=((w.drew.alloc (.cells ROW 75)).setCells w.heap.size (i*9) vs).cell? x:=λx=>rfl
 have hF2:∀x,(((w.alloc (.cells ROW 75)).drew.setCells w.heap.size (i*9) vs).drew).frozen? x=((w.drew.alloc (.cells ROW 75)).setCells w.heap.size (i*9) vs).frozen? x:=λx=>rfl
 have mixed:dd.follows .mixedOrders=true:=by kernel_rfl
 have hw1:c3 c4 ((i:Int)+1)=(i:Int)+1:=by rw[h8];omega
 have hw2:c3 c4 ((n:Int)+1)=(n:Int)+1:=by rw[h8];omega
 have hw3:c3 c4 ((n:Int)+1 - (i:Int))=(n:Int)+1 - (i:Int):=by rw[h8];omega
 have hb1:(0:Int)<=(i:Int)+1:=by omega
 have hin:i<=n:=by omega
 have htn:((i:Int)+1).toNat=i+1:=by omega
 have hb3:(i:Int)<=(n:Int):=by omega
 clear hkk hik hold hROW hG hRl hcs hvs
 go_enter q4,wa
 go_wp2_with (first
  |(at_builtin;refine o1 _ rfl _ _ _ _ rfl _ _ rfl rfl _ _ (hrz _) ?_)
  |(at_builtin;refine Kj _ rfl _ _ 53 53 rfl _ _ rfl rfl (hcpA _ hE1 hE2 _ _) ?_)
  |(at_builtin;refine Kj _ rfl _ _ 53 53 rfl _ _ rfl rfl (hcpB _ (λ_=>rfl) (λ_=>rfl) _ _ _) ?_))
 go_region_law (refine Mz rfl _ _ 53 53 rfl (.slice (c6 ⟨w.heap.size,(i+1)*9,c7⟩) (n -i) (G - (i+1))) (.slice (c6 ⟨b,i*9,c7⟩) (n -i) (C -i)) (by simp[q5,x5]) (by simp[q5,x5]) (hcpB _ hF1 hF2 3 (G - (i+1)) (C -i)) ?_)
 go_wp2
 go_ret
 exact⟨rfl,rfl⟩
def aot:No dd 244 75 9 64:=by
 intro w b a C i v q cells e D l g x j A B L p N G P y s;have Q:(cells.toList.take (a*9)).length=a*9:=by rw[dt,e0,g];omega
 have t:(e.toList.take 9).length=9:=by rw[dt,e0,j];omega
 by_cases M:a+1<=C
 .refine(ai7 w b a C i v q cells e D l g x j A B p M y s).mono ?_
  rintro I H ⟨rfl,rfl⟩;refine⟨b,C,rfl,?_⟩
  have h:=(Xa (m:=a*9) l g p (by omega)).drew;have n:=h.set (o:=i*9+9) (vs:=(cells.toList.take (a*9)).drop (i*9)) (by omega) (by rw[e5];omega) (by simp only[ea,dt,e5,e0];omega);have c:=n.set (o:=i*9) (vs:=e.toList.take 9) (by simp only[ea,dt,e5,e0];omega) (by omega) (by simp only[ea,dt,e5,e0];omega);rw[ac9 (by omega) t] at c;have f:((i+1)*9)=i*9+9:=by omega
  have k:(i*9)=i*9:=by omega
  first
   |(rw[f,k];exact c)
   |(rw[f];exact c)
   |simpa only[s3] using c
 .refine(ah2 w b a C i v q cells e l g x j A B p L (by omega) G y s).mono ?_
  rintro I H ⟨rfl,rfl⟩;refine⟨_,_,rfl,?_⟩
  have J:=grownCap_ge w (a+1) C 75;have z:=grownCap_le_maxLen w (a+1) C 75 (by unfold maxLen;omega);generalize grownCap w (a+1) C 75=d at J z⊢;have F:((ga #[.int .i64 0,.int .i64 0,.int .i64 0,.int .i64 0,.int .i64 0,.bool false,.bool false,.int .i64 0,.int .i64 0]):Value).cells.size=9:=by decide
  have r:((((cells.toList.take (a*9)).take (i*9)).toArray++dT ((ga #[.int .i64 0,.int .i64 0,.int .i64 0,.int .i64 0,.int .i64 0,.bool false,.bool false,.int .i64 0,.int .i64 0]):Value).cells (a+1 -i)++dT ((ga #[.int .i64 0,.int .i64 0,.int .i64 0,.int .i64 0,.int .i64 0,.bool false,.bool false,.int .i64 0,.int .i64 0]):Value).cells (d - (a+1)))).size=d*9:=by
   simp only[j9,size_zeroCells,F,k0,dt,e0];omega
  have h:=(ak9 (w:=w) (b:=b) (C:=C) (m:=(a+1)*9) (E:=75) r z (by omega)).drew;have K:(((((cells.toList.take (a*9)).take (i*9)).toArray++dT ((ga #[.int .i64 0,.int .i64 0,.int .i64 0,.int .i64 0,.int .i64 0,.bool false,.bool false,.int .i64 0,.int .i64 0]):Value).cells (a+1 -i)++dT ((ga #[.int .i64 0,.int .i64 0,.int .i64 0,.int .i64 0,.int .i64 0,.bool false,.bool false,.int .i64 0,.int .i64 0]):Value).cells (d - (a+1)))).toList.take ((a+1)*9)).length=(a+1)*9:=by
   rw[dt,e0,r];omega
  have u:(((((cells.toList.take (a*9)).take (i*9)).toArray++dT ((ga #[.int .i64 0,.int .i64 0,.int .i64 0,.int .i64 0,.int .i64 0,.bool false,.bool false,.int .i64 0,.int .i64 0]):Value).cells (a+1 -i)++dT ((ga #[.int .i64 0,.int .i64 0,.int .i64 0,.int .i64 0,.int .i64 0,.bool false,.bool false,.int .i64 0,.int .i64 0]):Value).cells (d - (a+1)))).toList.take ((a+1)*9)).take (i*9)=(cells.toList.take (a*9)).take (i*9):=by
   rw[tj,j7 (by omega)];simp only[Array.toList_append,l3];exact sa (by rw[dt];omega)
  generalize (((((cells.toList.take (a*9)).take (i*9)).toArray++dT ((ga #[.int .i64 0,.int .i64 0,.int .i64 0,.int .i64 0,.int .i64 0,.bool false,.bool false,.int .i64 0,.int .i64 0]):Value).cells (a+1 -i)++dT ((ga #[.int .i64 0,.int .i64 0,.int .i64 0,.int .i64 0,.int .i64 0,.bool false,.bool false,.int .i64 0,.int .i64 0]):Value).cells (d - (a+1)))).toList.take ((a+1)*9))=O at h K u;have n:=(h.set (o:=(i*9)) (vs:=e.toList.take 9) (by omega) (by omega) (by simp only[ea,dt,e5];omega)).drew;have c:=n.set (o:=(i*9)+9) (vs:=(cells.toList.take (a*9)).drop (i*9)) (by simp only[ea,dt,e5,e0];omega) (by rw[e5];omega) (by simp only[ea,dt,e5,e0];omega);rw[anz (by omega) t (by omega) u] at c;have f:((i+1)*9)=(i*9)+9:=by omega
  have k:i*9=(i*9):=by omega
  first
   |(rw[f,k];exact c)
   |(rw[f];exact c)
   |simpa only[s3] using c
end
end Go.X.T
namespace Go.X.T
open Go Go.Aml Go.Bml Go.X Go.RowKit Go.Proofs
def FI(e:Nat){c:Type}(a b:List c)(d:Int):Option (List c):=
 (eG a d (a.length:Int)).bind λ_=>bif c5 ((b.length:Int)=0) then c6 a else bif c5 (d=(a.length:Int)) then(bj e a b).bind λr=>c6 r else c7
def AU(b:Lp):aq BT:=⟨244,3,0,(wW b).par,(wW b).az,λa=>FI 64 a.1 a.2.1 a.2.2⟩
def Yp(a:Lp)(b:bi BT.D (AU a).par.bX):gl a BT dd [] (AU a) [.tmp 6] ((Tryz.f244.body).getD .skip) [] b=(AU a).F b:=by kernel_rfl
def OA(a:Lp):FT (AU a):=FA (hs:=[]) mixed dM f0 q4 rfl rfl rfl rfl (by kernel_rfl) rfl rfl (Yp a)
def aix{d:Type}{e:Nat}{l:List d}{i:Int}{xs y:List d}(a:B2 e l i xs=c6 y):∃(b:d) (c:Nat),xs=[b]/\i=(c:Int)/\c<=l.length/\(l.length+1)*e<=140737488355328/\y=l.take c++[b]++l.drop c:=by
 unfold B2 at a
 split at a
 .rename_i j;obtain⟨k,m,f⟩:=j;obtain⟨r,h,a⟩:=m2.1 a;injection a with a
  obtain⟨g,_⟩:=AN h
  match xs,f with
  |[b],_=>exact⟨b,i.toNat,rfl,by omega,by omega,by simpa using g,a.symm⟩
 .cases a
def afY{c e:Type}(f:c->e)(a:List c)(d:c)(b:Nat):(a.map f).take b++[f d]++(a.map f).drop b=(a.take b++[d]++a.drop b).map f:=by simp[List.map_take,List.map_drop]
def adX{b:Type}(a:List b)(c:b):a.take a.length++[c]++a.drop a.length=z6 a [c]:=by simp
def aiO{d:Type}{c:Nat}{a:List d}{b:d}(f:(a.length+1)*c<=140737488355328):FI c a [b] (a.length:Int)=c6 (a++[b]):=by
 unfold FI;have e:eG a (a.length:Int) (a.length:Int)=c6 []:=by
  unfold eG;simp
 have g:bj c a [b]=c6 (a++[b]):=by
  unfold bj;simp[f]
 rw[e];simp[g]
def ail(d:Lp):FT (wW d):=by
 refine⟨(OA d).Q6,λf y p g w vs o n c=>?_⟩
 obtain⟨e,b,s,q,m,k,u⟩:=aix (l:=f.1) (xs:=f.2.1) (i:=f.2.2) (y:=y) p;obtain⟨a,S,Q⟩:=f;dsimp only at s q m k u p;subst s q u
 by_cases F:b<o6 a
 .have E:cz BT (wW d).par (a,[e],(b:Int))=⟨[(0,.fl 0 0),(1,.int .i64 (b:Int)),(2,.fl 1 0)],[⟨0,0,.aap 75 a⟩,⟨0,0,.aap 75 [e]⟩]⟩:=rfl
  erw [E] at n c⊢
  match vs,o with
  |[R,K,T],_=>
  have N:K= .int .i64 (b:Int):=VR.fQ (g:=g) (w:=w) (c 1);subst N;have h:(o7 (BT.ty 75).enc a).length=o6 a:=hq _;have H:=aeQ aot (by decide) (g:=g) (w:=w) (w0:=0) (w1:=0) (es:=o7 (BT.ty 75).enc a) (e:=(BT.ty 75).enc e) (i:=b) (Nat.lt_of_lt_of_eq F h.symm) n (q6 (x6 (congrArg (λz=>(z+1)*64) h)) k) (q6 (x6 (congrArg (λz=>(z+1)*_) h)) (by omega)) (c 0) (c 2);refine H.mono ?_
  rintro O I ⟨v,G,rfl,x,r,t⟩;have M:(o7 (BT.ty 75).enc a).take b++[(BT.ty 75).enc e]++(o7 (BT.ty 75).enc a).drop b=o7 (BT.ty 75).enc (x0 b a++[e]++x1 b a):=afY _ a e b;rw[M] at x r t;have D:take BT 0 (wW d).az ⟨[(0,.fl 0 1)],[⟨1,1,.aap 75 (x0 b a++[e]++x1 b a)⟩,⟨0,0,.aap 75 [e]⟩]⟩ c6=c6 (x0 b a++[e]++x1 b a):=rfl;obtain⟨P,j,B,L,J,A⟩:=EK dM D (g:=G) (w:=I) x;injection j with j
  subst j;exact⟨v,B,rfl,L,(r.less (ei _)).trans J,A 0 v t⟩
 .have m:b=o6 a:=by omega
  subst m;have C:=adX a e
  erw [C]
  exact(OA d).calls (a,[e],(o6 a:Int)) (z6 a [e]) (aiO k) g w vs o n c
def QD0:bY:=⟨[(0,[4],.aap 3 22),(0,[6],.aap 3 22),(0,[7],.aap 3 22)],[(0,.g [.v 27,.v 28,.v 3,.v 31,.r 0,.v 32,.r 1,.r 2,.ns])]⟩
def YL:bY:=⟨[(0,[4],.aap 3 22),(0,[6],.aap 3 22),(0,[7],.aap 3 22),(0,[8],.refs 22 [4]),(0,[8,0],.aap 3 22)],[(0,.g [.v 27,.v 28,.v 3,.v 31,.r 0,.v 32,.r 1,.r 2,.r 3])]⟩
def V1:bY:=⟨[(0,[4],.aap 3 22),(0,[6],.aap 3 22),(0,[7],.aap 3 22),(0,[8],.refs 22 [4,5]),(0,[8,0],.aap 3 22),(0,[8,1],.aap 3 22)],[(0,.g [.v 27,.v 28,.v 3,.v 31,.r 0,.v 32,.r 1,.r 2,.r 3])]⟩
def QD3:bY:=⟨[(0,[4],.aap 3 22),(0,[6],.aap 3 22),(0,[7],.aap 3 22),(0,[8],.refs 22 [4,5,6]),(0,[8,0],.aap 3 22),(0,[8,1],.aap 3 22),(0,[8,2],.aap 3 22)],[(0,.g [.v 27,.v 28,.v 3,.v 31,.r 0,.v 32,.r 1,.r 2,.r 3])]⟩
def pW(a:Lp):aq BT:=⟨143,1,0,⟨[],[(0,.v 35)]⟩,QD0,λb=>we a b⟩
def tR(a:Lp):aq BT:=⟨143,1,0,⟨[],[(0,.v 35)]⟩,YL,λb=>uR a b⟩
def qd(a:Lp):aq BT:=⟨143,1,0,⟨[],[(0,.v 35)]⟩,V1,λb=>pO a b⟩
def nX(a:Lp):aq BT:=⟨143,1,0,⟨[],[(0,.v 35)]⟩,QD3,λb=>nM a b⟩
def HD:List (Nat×Hn):=[(506,⟨[],[(2,⟨[(2,true,.box 35 [.v 27,.v 28,.v 3,.v 31,.r 3,.v 32,.v 22,.v 22,.v 33])],[],[]⟩)],c6 ⟨[(2,true,.box 35 [.v 27,.v 28,.v 3,.v 31,.r 3,.r 4,.v 22,.v 22,.v 33])],[(100002,[5],.aap 120 32)],[(31,.v 3)]⟩⟩),(64818,⟨[2],[],c7⟩),(64819,⟨[3],[],c7⟩),(4090,⟨[4],[],c7⟩)]
def GD(a:Lp):List (aq BT):=[RL a,Mq a,Pv a,OB a,PI a]
def gd(a:Lp):∀b,b∈GD a->FT b:=fc (oh a) (fc (sP a) (fc (Md a) (fc (oH a) (fc (iY a) f0))))
def RD0(a:Lp)(e:ak)(d:Int)(p:List bC)(c:List Int)(b:List aS)(g f:List Int):gl a BT dd (GD a) (pW a) [.cell 2 35] ((r4.body).getD .skip) HD (aB.mk e d p c b g f [])=we a (aB.mk e d p c b g f []):=by kernel_rfl
def Vm(a:Lp)(f:ak)(e:Int)(p:List bC)(d:List Int)(b:List aS)(h g c:List Int):gl a BT dd (GD a) (tR a) [.cell 2 35] ((r4.body).getD .skip) HD (aB.mk f e p d b h g [c])=uR a (aB.mk f e p d b h g [c]):=by kernel_rfl
def RD2(a:Lp)(g:ak)(f:Int)(p:List bC)(e:List Int)(c:List aS)(i h d b:List Int):gl a BT dd (GD a) (qd a) [.cell 2 35] ((r4.body).getD .skip) HD (aB.mk g f p e c i h [d,b])=pO a (aB.mk g f p e c i h [d,b]):=by kernel_rfl
def YZ(a:Lp)(h:ak)(g:Int)(p:List bC)(e:List Int)(c:List aS)(j i d b f:List Int):gl a BT dd (GD a) (nX a) [.cell 2 35] ((r4.body).getD .skip) HD (aB.mk h g p e c j i [d,b,f])=nM a (aB.mk h g p e c j i [d,b,f]):=by kernel_rfl
def HC(b:Lp):FT (pW b):=EB mixed dM (gd b) (hs:=HD) (rs:=[.cell 2 35]) j3 rfl rfl rfl rfl (by kernel_rfl) rfl rfl λf k a=>by
 obtain⟨h,g,p,e,d,j,i,c⟩:=f
 match c,a with
 |[],a=>exact(RD0 b h g p e d j i).trans a
 |_::_,a=>cases a
def SP(b:Lp):FT (tR b):=EB mixed dM (gd b) (hs:=HD) (rs:=[.cell 2 35]) j3 rfl rfl rfl rfl (by kernel_rfl) rfl rfl λg l a=>by
 obtain⟨i,h,p,f,d,k,j,c⟩:=g
 match c,a with
 |[e],a=>exact(Vm b i h p f d k j e).trans a
 |[],a=>cases a
 |_::_::_,a=>cases a
def GB(b:Lp):FT (qd b):=EB mixed dM (gd b) (hs:=HD) (rs:=[.cell 2 35]) j3 rfl rfl rfl rfl (by kernel_rfl) rfl rfl λh m a=>by
 obtain⟨j,i,p,f,e,l,k,d⟩:=h
 match d,a with
 |[g,c],a=>exact(RD2 b j i p f e l k g c).trans a
 |[],a=>cases a
 |[_],a=>cases a
 |_::_::_::_,a=>cases a
def EH(b:Lp):FT (nX b):=EB mixed dM (gd b) (hs:=HD) (rs:=[.cell 2 35]) j3 rfl rfl rfl rfl (by kernel_rfl) rfl rfl λi n a=>by
 obtain⟨k,j,p,f,e,m,l,d⟩:=i
 match d,a with
 |[g,c,h],a=>exact(YZ b k j p f e m l g c h).trans a
 |[],a=>cases a
 |[_],a=>cases a
 |[_,_],a=>cases a
 |_::_::_::_::_,a=>cases a
def HS:List (Nat×Hn):=[(506,⟨[4],[],c7⟩)]
def RS0(a:Lp)(f:ak)(e:Int)(p:List bC)(d:List Int)(c:List aS)(h g:List Int)(i b:Int):gl a BT dd [pW a,lT a] (mG a) [.cell 6 35,.tmp 7] ((m4.body).getD .skip) HS (aB.mk f e p d c h g [],i,b)=oX a (aB.mk f e p d c h g []) i b:=by kernel_rfl
def Yt(a:Lp)(g:ak)(f:Int)(p:List bC)(e:List Int)(c:List aS)(i h:List Int)(d:List Int)(j b:Int):gl a BT dd [tR a,lT a] (mG a) [.cell 6 35,.tmp 7] ((m4.body).getD .skip) HS (aB.mk g f p e c i h [d],j,b)=oX a (aB.mk g f p e c i h [d]) j b:=by kernel_rfl
def RS2(a:Lp)(h:ak)(g:Int)(p:List bC)(e:List Int)(d:List aS)(j i:List Int)(f c:List Int)(k b:Int):gl a BT dd [qd a,lT a] (mG a) [.cell 6 35,.tmp 7] ((m4.body).getD .skip) HS (aB.mk h g p e d j i [f,c],k,b)=oX a (aB.mk h g p e d j i [f,c]) k b:=by kernel_rfl
def RS3(a:Lp)(i:ak)(h:Int)(p:List bC)(e:List Int)(d:List aS)(k j:List Int)(f c g:List Int)(l b:Int):gl a BT dd [nX a,lT a] (mG a) [.cell 6 35,.tmp 7] ((m4.body).getD .skip) HS (aB.mk i h p e d k j [f,c,g],l,b)=oX a (aB.mk i h p e d k j [f,c,g]) l b:=by kernel_rfl
def RS4(a:Lp)(k:ak)(j:Int)(p:List bC)(f:List Int)(e:List aS)(m l:List Int)(g c h i:List Int)(d:List (List Int))(n b:Int):gl a BT dd [pW a,lT a] (mG a) [.cell 6 35,.tmp 7] ((m4.body).getD .skip) HS (aB.mk k j p f e m l (g::c::h::i::d),n,b)=oX a (aB.mk k j p f e m l (g::c::h::i::d)) n b:=by kernel_rfl
def KS(a:Lp)(h:FT (lT a)):FT (mG a):=by
 have u:∀(n:bi BT.D (mG a).par.bX) (q:bi BT.D (mG a).az.bX),(mG a).F n=c6 q->∃s:List (aq BT),(∀t,t∈s->FT t)/\gl a BT dd s (mG a) [.cell 6 35,.tmp 7] ((m4.body).getD .skip) HS n=c6 q:=by
  intro n q b;obtain⟨⟨m,j,p,i,f,g,d,o⟩,e,k⟩:=n
  match o,b with
  |[],b=>exact⟨[pW a,lT a],fc (HC a) (fc h f0),(RS0 a m j p i f g d e k).trans b⟩
  |[c],b=>exact⟨[tR a,lT a],fc (SP a) (fc h f0),(Yt a m j p i f g d c e k).trans b⟩
  |[c,l],b=>exact⟨[qd a,lT a],fc (GB a) (fc h f0),(RS2 a m j p i f g d c l e k).trans b⟩
  |[c,l,r],b=>exact⟨[nX a,lT a],fc (EH a) (fc h f0),(RS3 a m j p i f g d c l r e k).trans b⟩
  |c::l::r::v::o,b=>exact⟨[pW a,lT a],fc (HC a) (fc h f0),(RS4 a m j p i f g d c l r v o e k).trans b⟩
 exact aed mixed dM (hs:=HS) (rs:=[.cell 6 35,.tmp 7]) Tryz.func171 rfl rfl rfl rfl (by kernel_rfl) rfl rfl u
def qZ:List (Nat×Hn):=[(60,⟨[],[(0,⟨[],[],[(57,.v 4)]⟩)],c7⟩),(508,⟨[],[(0,⟨[],[],[(80,.v 4)]⟩)],c7⟩),(509,⟨[],[(0,⟨[],[],[(13,.v 3)]⟩)],c7⟩),(16771484,⟨[],[(0,⟨[],[],[(145,.v 4)]⟩)],c7⟩)]
def GL(a:Lp)(b:aq BT):List (aq BT):=[b,Kf a,C5 a,Fz a,AW a]
def M7:List (Nat×Hn):=qZ++[(16378,⟨[],[(3,⟨[(8,true,.box 101 [.v 3,.v 3,.v 3,.r 9])],[(100008,[3],.aap 3 22)],[]⟩)],c6 ⟨[(8,true,.box 101 [.v 3,.v 3,.v 3,.r 9])],[(100008,[3],.aap 3 22)],[(110,.v 3)]⟩⟩)]
def WN(a:Lp)(f:ak)(e:Int)(p:List bC)(d:List Int)(c:List aS)(h g:List Int)(b i:Int):gl a BT dd (GL a (pW a)) (nD a) [.cell 8 35,.cell 9 101,.tmp 10] ((kc.body).getD .skip) M7 (aB.mk f e p d c h g [],(0:Int),b,i)=jO a (aB.mk f e p d c h g []) 0 b i:=by kernel_rfl
def Od:List (Nat×Hn):=qZ++[(16378,⟨[],[(1,⟨[(1,true,.box 35 [.v 27,.v 28,.v 3,.v 31,.v 22,.v 32,.v 22,.v 22,.v 33]),(2,true,.box 101 [.v 3,.v 3,.v 3,.v 22]),(8,false,.dead),(10,false,.dead)],[],[(10,.v 67)]⟩),(3,⟨[(8,true,.aap 3 22),(10,true,.box 101 [.v 3,.v 3,.v 3,.r 11])],[(100010,[3],.aap 3 22)],[]⟩)],c6 ⟨[(8,true,.aap 3 22),(10,true,.box 101 [.v 3,.v 3,.v 3,.r 11])],[(100010,[3],.aap 3 22)],[(110,.v 3)]⟩⟩)]
def ahC(a:Lp)(g:ak)(f:Int)(p:List bC)(e:List Int)(c:List aS)(i h:List Int)(d:List Int)(b j:Int):gl a BT dd (GL a (tR a)) (nD a) [.cell 8 35,.cell 9 101,.tmp 10] ((kc.body).getD .skip) Od (aB.mk g f p e c i h [d],(0:Int),b,j)=jO a (aB.mk g f p e c i h [d]) 0 b j:=by kernel_rfl
def Po:List (Nat×Hn):=qZ++[(16378,⟨[],[(1,⟨[(1,true,.box 35 [.v 27,.v 28,.v 3,.v 31,.v 22,.v 32,.v 22,.v 22,.v 33]),(2,true,.box 101 [.v 3,.v 3,.v 3,.v 22]),(8,false,.dead),(11,false,.dead)],[],[(10,.v 67)]⟩),(3,⟨[(8,true,.aap 3 22),(11,true,.box 101 [.v 3,.v 3,.v 3,.r 12])],[(100011,[3],.aap 3 22)],[]⟩)],c6 ⟨[(8,true,.aap 3 22),(11,true,.box 101 [.v 3,.v 3,.v 3,.r 12])],[(100011,[3],.aap 3 22)],[(110,.v 3)]⟩⟩)]
def akd(a:Lp)(h:ak)(g:Int)(p:List bC)(e:List Int)(d:List aS)(j i:List Int)(f c:List Int)(b k:Int):gl a BT dd (GL a (qd a)) (nD a) [.cell 8 35,.cell 9 101,.tmp 10] ((kc.body).getD .skip) Po (aB.mk h g p e d j i [f,c],(0:Int),b,k)=jO a (aB.mk h g p e d j i [f,c]) 0 b k:=by kernel_rfl
def Qs:List (Nat×Hn):=qZ++[(16378,⟨[],[(1,⟨[(1,true,.box 35 [.v 27,.v 28,.v 3,.v 31,.v 22,.v 32,.v 22,.v 22,.v 33]),(2,true,.box 101 [.v 3,.v 3,.v 3,.v 22]),(9,false,.dead),(11,false,.dead)],[],[(10,.v 67)]⟩),(3,⟨[(9,true,.aap 3 22),(11,true,.box 101 [.v 3,.v 3,.v 3,.r 12])],[(100011,[3],.aap 3 22)],[]⟩)],c6 ⟨[(9,true,.aap 3 22),(11,true,.box 101 [.v 3,.v 3,.v 3,.r 12])],[(100011,[3],.aap 3 22)],[(110,.v 3)]⟩⟩)]
def am3(a:Lp)(h:ak)(g:Int)(p:List bC)(e:List Int)(d:List aS)(j i:List Int)(f c:List Int)(b k:Int):gl a BT dd (GL a (qd a)) (nD a) [.cell 8 35,.cell 9 101,.tmp 10] ((kc.body).getD .skip) Qs (aB.mk h g p e d j i [f,c],(1:Int),b,k)=jO a (aB.mk h g p e d j i [f,c]) 1 b k:=by kernel_rfl
def LP:List (Nat×Hn):=qZ++[(16378,⟨[],[(1,⟨[(1,true,.box 35 [.v 27,.v 28,.v 3,.v 31,.v 22,.v 32,.v 22,.v 22,.v 33]),(2,true,.box 101 [.v 3,.v 3,.v 3,.v 22]),(8,false,.dead),(12,false,.dead)],[],[(10,.v 67)]⟩),(3,⟨[(8,true,.aap 3 22),(12,true,.box 101 [.v 3,.v 3,.v 3,.r 13])],[(100012,[3],.aap 3 22)],[]⟩)],c6 ⟨[(8,true,.aap 3 22),(12,true,.box 101 [.v 3,.v 3,.v 3,.r 13])],[(100012,[3],.aap 3 22)],[(110,.v 3)]⟩⟩)]
def apY(a:Lp)(i:ak)(h:Int)(p:List bC)(e:List Int)(d:List aS)(k j:List Int)(f c g:List Int)(b l:Int):gl a BT dd (GL a (nX a)) (nD a) [.cell 8 35,.cell 9 101,.tmp 10] ((kc.body).getD .skip) LP (aB.mk i h p e d k j [f,c,g],(0:Int),b,l)=jO a (aB.mk i h p e d k j [f,c,g]) 0 b l:=by kernel_rfl
def MX:List (Nat×Hn):=qZ++[(16378,⟨[],[(1,⟨[(1,true,.box 35 [.v 27,.v 28,.v 3,.v 31,.v 22,.v 32,.v 22,.v 22,.v 33]),(2,true,.box 101 [.v 3,.v 3,.v 3,.v 22]),(9,false,.dead),(12,false,.dead)],[],[(10,.v 67)]⟩),(3,⟨[(9,true,.aap 3 22),(12,true,.box 101 [.v 3,.v 3,.v 3,.r 13])],[(100012,[3],.aap 3 22)],[]⟩)],c6 ⟨[(9,true,.aap 3 22),(12,true,.box 101 [.v 3,.v 3,.v 3,.r 13])],[(100012,[3],.aap 3 22)],[(110,.v 3)]⟩⟩)]
def Wn(a:Lp)(i:ak)(h:Int)(p:List bC)(e:List Int)(d:List aS)(k j:List Int)(f c g:List Int)(b l:Int):gl a BT dd (GL a (nX a)) (nD a) [.cell 8 35,.cell 9 101,.tmp 10] ((kc.body).getD .skip) MX (aB.mk i h p e d k j [f,c,g],(1:Int),b,l)=jO a (aB.mk i h p e d k j [f,c,g]) 1 b l:=by kernel_rfl
def N5:List (Nat×Hn):=qZ++[(16378,⟨[],[(1,⟨[(1,true,.box 35 [.v 27,.v 28,.v 3,.v 31,.v 22,.v 32,.v 22,.v 22,.v 33]),(2,true,.box 101 [.v 3,.v 3,.v 3,.v 22]),(10,false,.dead),(12,false,.dead)],[],[(10,.v 67)]⟩),(3,⟨[(10,true,.aap 3 22),(12,true,.box 101 [.v 3,.v 3,.v 3,.r 13])],[(100012,[3],.aap 3 22)],[]⟩)],c6 ⟨[(10,true,.aap 3 22),(12,true,.box 101 [.v 3,.v 3,.v 3,.r 13])],[(100012,[3],.aap 3 22)],[(110,.v 3)]⟩⟩)]
def ZS(a:Lp)(i:ak)(h:Int)(p:List bC)(e:List Int)(d:List aS)(k j:List Int)(f c g:List Int)(b l:Int):gl a BT dd (GL a (nX a)) (nD a) [.cell 8 35,.cell 9 101,.tmp 10] ((kc.body).getD .skip) N5 (aB.mk i h p e d k j [f,c,g],(2:Int),b,l)=jO a (aB.mk i h p e d k j [f,c,g]) 2 b l:=by kernel_rfl
def ae3(a:Lp)(C:FT (Kf a))(E:FT (C5 a))(B:FT (Fz a)):FT (nD a):=by
 have f:∀r,FT r->∀y,y∈GL a r->FT y:=λr u=>fc u (fc C (fc E (fc B (fc (D5 a) f0))))
 have F:∀(x b:Int) (d:Option (aB×aT×Int)),x≠b->(bif c5 (x=b) then d else c7)=c7:=λx b d u=>by rw[decide_eq_false u];rfl
 have A:∀(n:ak) (l:Int) (p:List bC) (k:List Int) (h:List aS) (i e:List Int) (s:List (List Int)) (g m j:Int) (v:aB×aT×Int),jO a (aB.mk n l p k h i e s) g m j=c6 v->
  ∃(f:List (aq BT)) (D:List (Nat×Hn)),(∀r,r∈f->FT r)/\gl a BT dd f (nD a) [.cell 8 35,.cell 9 101,.tmp 10] ((kc.body).getD .skip) D (aB.mk n l p k h i e s,g,m,j)=c6 v:=by
  intro n l p k h i e s g m j v c
  match s,c with
  |[],c=>
   by_cases h0:(g:Int)=0
   .subst h0;exact⟨GL a (pW a),M7,f _ (HC a),(WN a n l p k h i e m j).trans c⟩
   .unfold jO at c;simp only[decide_eq_false h0,cond_false] at c;cases c
  |[o],c=>
   by_cases h0:(g:Int)=0
   .subst h0;exact⟨GL a (tR a),Od,f _ (SP a),(ahC a n l p k h i e o m j).trans c⟩
   .unfold jO at c;simp only[decide_eq_false h0,cond_false] at c;cases c
  |[o,q],c=>
   by_cases h0:(g:Int)=0
   .subst h0;exact⟨GL a (qd a),Po,f _ (GB a),(akd a n l p k h i e o q m j).trans c⟩
   by_cases t:(g:Int)=1
   .subst t;exact⟨GL a (qd a),Qs,f _ (GB a),(am3 a n l p k h i e o q m j).trans c⟩
   .unfold jO at c;simp only[decide_eq_false h0,decide_eq_false t,cond_false] at c;cases c
  |[o,q,w],c=>
   by_cases h0:(g:Int)=0
   .subst h0;exact⟨GL a (nX a),LP,f _ (EH a),(apY a n l p k h i e o q w m j).trans c⟩
   by_cases t:(g:Int)=1
   .subst t;exact⟨GL a (nX a),MX,f _ (EH a),(Wn a n l p k h i e o q w m j).trans c⟩
   by_cases z:(g:Int)=2
   .subst z;exact⟨GL a (nX a),N5,f _ (EH a),(ZS a n l p k h i e o q w m j).trans c⟩
   .unfold jO at c;simp only[decide_eq_false h0,decide_eq_false t,decide_eq_false z,cond_false] at c;cases c
  |o::q::w::G::s,c=>
   cases c
 exact afO mixed dM (rs:=[.cell 8 35,.cell 9 101,.tmp 10]) Tryz.func163 rfl rfl rfl rfl (by kernel_rfl) rfl rfl λd v u=>A d.1.ao d.1.aa0 d.1.aN d.1.aw d.1.aQ d.1.cn d.1.cf d.1.bp d.2.1 d.2.2.1 d.2.2.2 v u
end Go.X.T
namespace Go.X
open Go Go.Aml Go.Bml Go.RowKit
section
variable {P:Program}{B:Tb}{R:Type}{r:R}
def Pu(O:P.follows .mixedOrders=true)(I:cU P B){Z:Lp}{J:List (aq B)}(K:∀M,M∈J->Fits P B M){t n N:Nat}{L:Code}{y:Exit->Act->World->Prop}{G:Nat->St B.D->Option R}:
 ∀(m:List (Code×List (Nat×Hn))) (b:St B.D),AS Z B P J n m G b=c6 r->RB t m=true->n<=b.H.length->∀(g:Gh) (j:Act) (d:World),Rel g t (aU B b.E) (av B b.H) j d->
  (∀h s c a,G 0 h=c6 r->n<=h.H.length->Rel s t (aU B h.E) (av B h.H) c a->Bml.GStep n g (av B b.H) d s (av B h.H) a->L.wpIn q2 N P y c a)->
  (∀e c a,e≠ .normal->eI t n g (av B b.H) d (qP B G r) e c a->y e c a)->(IX m L).wpIn q2 N P y j d
 |[],b,A,_,u,g,j,d,w,x,_=>x b g j d A u w (Bml.GStep.refl _ _ _ _)
 |p::m,b,A,U,u,g,j,d,w,x,E=>by
  obtain⟨Q,aa⟩:=fu U;refine wpIn_seq (wpIn_wide.2 (gO O I K p.1 1 _ _ _ A Q u g j d w _ λe v F i=>?_))
  cases e with
  |normal=>
   obtain⟨_,_,q,⟨l,C,f,rfl,rfl⟩,o,k⟩:=i;have V:=q6 u C.len;exact Pu O I K m l f aa V q v F o (λh s c a X W Y S=>x h s c a X W Y (k.trans S)) λe c a ab T=>E e c a ab (eI.trans k T)
  |ret=>
   obtain⟨H,H1,q,⟨l,C,f,z,D⟩,o,k⟩:=i;exact E .ret v F (by simp) ⟨H,H1,q,⟨l,f,z,D⟩,o,k⟩
  |exit ac=>
   obtain⟨H,H1,q,⟨l,C,f,z,D⟩,o,k⟩:=i;exact E (.exit ac) v F (by simp) ⟨H,H1,q,⟨l,f,z,D⟩,o,k⟩
  |goto _=>obtain⟨_,_,_,f,_⟩:=i;exact f.elim
  |panic _=>exact i.elim
  |outgrown=>exact i.elim
def afv(Z:P.follows .mixedOrders=true)(I:cU P B){w:List (aq B)}(L:∀o,o∈w->Fits P B o){l m n p D:Nat}{V:List Nat}{b:List Oper}{c:St B.D}{A:St B.D->Option R}{g:Gh}{q:Act}{f:World}{Q:Exit->Act->World->Prop}
 (H:Rel g p (aU B c.E) (av B c.H) q f) (E:ops B P w V b (λS c=>bif m7 0 b then bif n4 b [] 0 (nf S []) then A c else c7 else c7) 0 b [] c=c6 r)
 (T:∀d,d∈b->fL p d.dst=true) (X:∀d,d∈b->∀o,d.op≠ .defer o) (G:∀s C u y,A s=c6 r->Rel y p (aU B s.E) (av B s.H) C u->Bml.GStep m g (av B c.H) f y (av B s.H) u->Q .normal C u):
 (Code.region D b.toArray true).wpIn (q2.inRound l) n P Q q f:=by
 obtain⟨ab,j,N,h⟩:=qg I L E;rw[l0] at h;obtain⟨M,h⟩:=a8 h;obtain⟨x,h⟩:=a8 h;rw[J8,l0,List.reverse_reverse] at x;have U:=LB (nn:=m) (Q:=λk v t=>k= .normal/\v=aU B j.E/\t=av B j.H) N M x T ⟨rfl,rfl,rfl⟩ g q f H (eI p m g (av B c.H) f λk v t=>k= .normal/\v=aU B j.E/\t=av B j.H) (λ_ _ _ a=>a);have K:=Ck (l:=l) (n:=n) (λq f a=>a) (λi d z=>X d (by
  rw[List.getElem?_toArray] at z;exact fe z)) _ _ _ _ U
 refine wpIn_mono (wpIn_region_any Z K) ?_
 intro k Y O e;cases k with
 |normal=>
  obtain⟨aa,H3,W,⟨_,rfl,rfl⟩,F,J⟩:=e;exact G j Y O W h F J
 |exit D=>obtain⟨_,_,_,⟨a,_⟩,_⟩:=e;cases a
 |ret=>obtain⟨_,_,_,⟨a,_⟩,_⟩:=e;cases a
 |goto l=>obtain⟨_,_,_,⟨a,_⟩,_⟩:=e;cases a
 |panic o=>exact e.elim
 |outgrown=>exact e.elim
end
end Go.X
namespace Go.X.T
open Go Go.Aml Go.Bml Go.X Go.RowKit Go.Proofs
def tU(c:Lp){R:Type}(d:aT×Int->Option R)(j:Int->Int->Int->List Int->Int->Option R)(a:fa):Option R:=
 bif c5 (a.abv≠9) then d (aT.mk 0 0 0 [],5) else
 (cp c a.kO 0 31).bind λh=>
 bif (!h) then d (aT.mk 0 0 0 [],40) else
 (bif c5 (((a.Data).length:Int)<9) then c6 true else(aj a.Data 8).bind λb=>c6 (c5 (((a.Data).length:Int)≠c3 c4 (9+c3 c4 (2*c3 c4 b))))).bind λbad=>
 bif bad then d (aT.mk 0 0 0 [],6) else
 (eG a.Data 0 2).bind λk=>(jQ c k).bind λg=>
 (eG a.Data 2 8).bind λf=>(jQ c f).bind λl=>
 (eG a.Data 9 ((a.Data).length:Int)).bind λi=>(vE c i 2).bind λe=>
 j a.kO (c3 c4 g) (c3 c4 l) e.1 e.2
def fK{d f:Type}{b:Option d}{e:d->Option f}{r:f}(c:b.bind e=c6 r):∃a,b=c6 a/\e a=c6 r:=by
 cases b with
 |none=>cases c
 |some a=>exact⟨a,rfl,c⟩
def aoS{j:Lp}{R:Type}{i:aT×Int->R}{o:Int->Int->Int->List Int->Int->Option (aT×Int)}{V:Int->Int->Int->List Int->Int->Option R}{c:fa}{r:aT×Int}(a:tU j c6 o c=c6 r):tU j (λh=>c6 (i h)) V c=c6 (i r)\/∃d e f k m,tU j (λh=>c6 (i h)) V c=V d e f k m/\o d e f k m=c6 r:=by
 unfold tU at a⊢;cases n:c5 (c.abv≠9) with
 |true=>rw[n] at a;exact .inl (congrArg (tt i) a)
 |false=>
  rw[n] at a;rw[cond_false] at a⊢;obtain⟨d,u,a⟩:=fK a;rw[u];show(bif !d then _ else _)=_\/_
  cases g:(!d) with
  |true=>rw[g] at a;exact .inl (congrArg (tt i) a)
  |false=>
   rw[g] at a;rw[cond_false] at a⊢;obtain⟨b,s,a⟩:=fK a;rw[s];show(bif b then _ else _)=_\/_
   cases b with
   |true=>exact .inl (congrArg (tt i) a)
   |false=>
    rw[cond_false] at a⊢;obtain⟨x,t,a⟩:=fK a;obtain⟨e,f0,a⟩:=fK a;obtain⟨y,w,a⟩:=fK a;obtain⟨f,v,a⟩:=fK a;obtain⟨z,p,a⟩:=fK a;obtain⟨l,q,a⟩:=fK a;refine .inr ⟨c.kO,c3 c4 e,c3 c4 f,l.1,l.2,?_,a⟩
    rw[t];simp only[ef,f0,w,v,p,q,g,cond_false]
def JA(a:Lp):∀(h c:List (List Int)) (b:List Int),gW a (h++c) b=(gW a h b).bind (gW a c)
 |[],c,b=>rfl
 |g::f,c,b=>by
  show((jQ a g).bind λd=>(bj 8 b [c3 c4 d]).bind λe=>gW a (f++c) e)=((jQ a g).bind λd=>(bj 8 b [c3 c4 d]).bind λe=>gW a f e).bind _
  cases jQ a g with
  |none=>rfl
  |some d=>
   show((bj 8 b [c3 c4 d]).bind λe=>gW a (f++c) e)=((bj 8 b [c3 c4 d]).bind λe=>gW a f e).bind _
   cases bj 8 b [c3 c4 d] with
   |none=>rfl
   |some i=>exact JA a f c i
def aiZ{b:Lp}{a:List (List Int)}{f:List Int}(d:gW b a []=c6 f)(c:Nat):∃e,gW b (a.take c) []=c6 e/\gW b (a.drop c) e=c6 f:=by
 rw[<-k8 c a,JA] at d;exact fK d
def Ue{e:Lp}{b:List (List Int)}{c:Nat}{d h g:List Int}(m:b[c]?=c6 d)(i:gW e (b.take c) []=c6 h)(a:gW e (b.take (c+1)) []=c6 g):((jQ e d).bind λf=>bj 8 h [c3 c4 f])=c6 g:=by
 have j:b.take (c+1)=b.take c++[d]:=by rw[List.take_add_one,m];rfl
 rw[j,JA,i] at a;have a:((jQ e d).bind λf=>(bj 8 h [c3 c4 f]).bind λn=>c6 n)=c6 g:=a;obtain⟨f,l,a⟩:=fK a;obtain⟨o,k,a⟩:=fK a;rw[l];exact k.trans a
def Su:∀(e:List Int) (c:Nat),e.length=c*2->(lj e).length=c/\∀a,a<c->∃f b,(lj e)[a]?=c6 [f,b]/\e[a*2]?=c6 f/\e[a*2+1]?=c6 b
 |[],c,d=>by
  have:c=0:=by simp at d;omega
  subst this;exact⟨rfl,λa i=>absurd i (by omega)⟩
 |[f],c,d=>by simp at d;omega
 |f::b::h,c,d=>by
  obtain⟨g,rfl⟩:∃g,c=g+1:=⟨c -1,by simp at d;omega⟩;obtain⟨j,n⟩:=Su h g (by simp at d;omega);refine⟨by show(lj h).length+1=_;rw[j],λa i=>?_⟩
  cases a with
  |zero=>exact⟨f,b,rfl,rfl,rfl⟩
  |succ a=>
   obtain⟨p,l,o,k,m⟩:=n a (by omega);refine⟨p,l,o,?_,?_⟩
   .rw[show(a+1)*2=a*2+1+1 by omega];exact k
   .rw[show(a+1)*2+1=a*2+1+1+1 by omega];exact m
def W4{g:Lp}{e d f i:Int}{c:List Int}{r:aT×Int}(a:rA g e d f c i=c6 r):i=2/\∃k b v,c.length=k*2/\gW g (lj c) []=c6 b/\lQ g (aT.mk e d f b)=c6 v/\r=bif (!v) then(aT.mk 0 0 0 [],6) else(aT.mk e d f b,0):=by
 unfold rA at a
 by_cases h:i=2
 rotate_left
 .rw[decide_eq_false h] at a;cases a
 rw[decide_eq_true h,cond_true] at a
 by_cases j:c.length%2=0
 rotate_left
 .rw[decide_eq_false j] at a;cases a
 rw[decide_eq_true j,cond_true] at a;obtain⟨b,l,a⟩:=fK a;obtain⟨v,m,a⟩:=fK a;refine⟨h,c.length/2,b,v,by omega,l,m,?_⟩
 cases v
 .have a:c6 (aT.mk 0 0 0 [],(6:Int))=c6 r:=a;injection a with a
  exact a.symm
 .have a:c6 (aT.mk e d f b,(0:Int))=c6 r:=a;injection a with a
  exact a.symm
end Go.X.T
namespace Go.X.T
open Go Go.Aml Go.Bml Go.X Go.RowKit Go.Proofs
def iq:Code->Code | .seq b _=>b |a=>a
def eM:Code->Code | .seq _ b=>b |a=>a
def V3:Code->Code | .block _ (.rangeFunc _ _ _ (.block _ b))=>b |a=>a
def cas:Code->Code | .block _ (.rangeFunc _ _ b _)=>b |a=>a
def tS:Code->List Oper | .region _ a _=>a.toList |_=>[]
noncomputable def tq:Code:=(tx.body).getD .skip
noncomputable def xl:Code:=eM (eM (eM (eM (eM tq))))
noncomputable def DQ:Code:=iq (iq xl)
noncomputable def Dj:Code:=eM (iq xl)
noncomputable def sk:Code:=eM xl
noncomputable def D2:List (Code×List (Nat×Hn)):=[(iq tq,[]),(iq (eM tq),[]),(iq (eM (eM tq)),[]),(iq (eM (eM (eM tq))),[(2,⟨[],[(0,⟨[],[],[(31,.v 4)]⟩)],c7⟩)]),(iq (eM (eM (eM (eM tq)))),[])]
def LH:tx.body=c6 (IX D2 xl):=by kernel_rfl
def iV(a:Lp):List (aq BT):=[C5 a,JX a,Ks a,H7 a]
def sO(e:Nat)(a:fa)(c:List Int)(d b i f:Int)(g:TV BT.D)(h:List (Ob BT.D)):List (Ob BT.D):=[⟨1,1,.box 97 [.int .i64 a.kO,.int .i64 a.abv,.row 5 a.Data]⟩,⟨1,1,.box 101 [.int .i64 0,.int .i64 0,.int .i64 0,.bg]⟩,⟨e,1,.box 101 [.int .i64 d,.int .i64 b,.int .i64 i,g]⟩,⟨0,1,.box 95 [.row 5 c]⟩,⟨0,1,.box 3 [.int .i64 f]⟩]++h
def fO(d:Nat)(a:fa)(c b g:Int)(e:TV BT.D)(f:List (Ob BT.D)):List (Ob BT.D):=[⟨1,1,.box 97 [.int .i64 a.kO,.int .i64 a.abv,.row 5 a.Data]⟩,⟨1,1,.box 101 [.int .i64 0,.int .i64 0,.int .i64 0,.bg]⟩,⟨d,1,.box 101 [.int .i64 c,.int .i64 b,.int .i64 g,e]⟩]++f
noncomputable def PT(b:Lp):Nat->St BT.D->Option (bi BT.D (kq b).az.bX⊕(List (Ob BT.D)×TV BT.D×TV BT.D×TV BT.D)):=λc a=>
 bif ey c 0 then exec b BT dd (iV b) 0 [] DQ 1 (λc a=>bif ey c 0 then c6 (n1 (a.H,lk a.E 49,lk a.E 4,lk a.E 2)) else c7) a
 else bif x2 c 1 then(nh BT dd a 0 [.cell 2 101,.tmp 3] [] λd=>take BT 0 (kq b).az ⟨d,a.H⟩ c6).bind λe=>c6 (oi e) else c7
def SR(a:Lp)(b:fa):AS a BT dd (iV a) 0 D2 (PT a) (cz BT (kq a).par b)=tU a (λh=>c6 (oi h)) (λe c f d g=>c6 (n1 (sO 2 b d e c f g .bg [],.fn 139 [] [.ptr 3 1 0 0,.ptr 4 1 0 0],.ptr 2 1 0 0,.ptr 1 1 0 0))) b:=by kernel_rfl
noncomputable def lv:List Oper:=tS (V3 Dj)
noncomputable def sv:List Oper:=tS (cas Dj)
def Yw:Dj= .block 0 (.rangeFunc (.tmp 49) #[50] (.region 9 sv.toArray false) (.block 1 (.region 10 lv.toArray true))):=by kernel_rfl
def sD(a:List Int):En BT.D:=[(50,.row 5 a),(4,.ptr 2 1 0 0)]
def ru(a:List Int):En BT.D:=[(5,.row 5 a),(50,.row 5 a),(4,.ptr 2 1 0 0)]
def rdA(d:fa)(a:List Int)(c b f:Int)(e:TV BT.D):ops BT dd [] [] sv (λ_ g=>c6 g) 0 sv [] ⟨sD a,fO 2 d c b f e []⟩=c6 ⟨ru a,fO 2 d c b f e []⟩:=by kernel_rfl
def aer(e:fa)(a:List Int)(d b g:Int)(f:TV BT.D)(c:List Int):ops BT dd [] [] sv (λ_ h=>c6 h) 0 sv [] ⟨sD a,fO 2 e d b g f [⟨1,1,.aap 3 c⟩]⟩=c6 ⟨ru a,fO 2 e d b g f [⟨1,1,.aap 3 c⟩]⟩:=by kernel_rfl
def ajg(c:Lp)(e:fa)(a:List Int)(d b g:Int):ops BT dd (iV c) [] lv (λi j=>bif m7 0 lv then bif n4 lv [] 0 (nf i []) then c6 j.H else c7 else c7) 0 lv [] ⟨ru a,fO 2 e d b g .bg []⟩=(jQ c a).bind λf=>(bj 8 [] [c3 c4 f]).bind λh=>c6 (fO 3 e d b g (.fl 4 1) [⟨1,1,.aap 3 [c3 c4 f]⟩,⟨1,1,.aap 3 h⟩]):=by kernel_rfl
def ahg(c:Lp)(f:fa)(a:List Int)(d b h:Int)(e:List Int):ops BT dd (iV c) [] lv (λj k=>bif m7 0 lv then bif n4 lv [] 0 (nf j []) then c6 k.H else c7 else c7) 0 lv [] ⟨ru a,fO 2 f d b h (.fl 3 1) [⟨1,1,.aap 3 e⟩]⟩=(jQ c a).bind λg=>(bj 8 e [c3 c4 g]).bind λi=>c6 (fO 3 f d b h (.fl 3 2) [⟨2,2,.aap 3 i⟩,⟨1,1,.aap 3 [c3 c4 g]⟩]):=by kernel_rfl
def NX(q:Nat):Nat->Option Nat
 |0=>c6 0
 |1=>c6 1
 |2=>c6 2
 |3=>c6 q
 |_=>c7
def Fj{q i r:Nat}(a:NX q i=c6 r):(i<3/\r=i)\/(i=3/\r=q):=by
 match i,a with
 |0,a=>injection a with a;exact .inl ⟨by omega,a.symm⟩
 |1,a=>injection a with a;exact .inl ⟨by omega,a.symm⟩
 |2,a=>injection a with a;exact .inl ⟨by omega,a.symm⟩
 |3,a=>injection a with a;exact .inr ⟨rfl,a.symm⟩
def wQ{g:Gh}{k:World}{e v:List aO}{j:Nat->Option Nat}{x:Nat->Prop}(w:bF g e k){i b:Nat}{a:aO}(m:e[i]?=c6 a)(t:∀d,d∈a.es->cE 0 d)(s:j b=c6 i):0<a.sz/\(∀(i:Nat) (d:PV),a.es[i]?=c6 d->d.cells.length=a.sz)/\(j b=c7->a.es=[])/\
 ∀r,j b=c6 r->∃c,e[r]?=c6 c/\a.ty=c.ty/\a.sz=c.sz/\a.es.length=c.es.length/\∀i b h,abk a.es i b=c6 h->∃q,abk c.es i b=c6 q/\∀l,VR g e k q l->VR (dj g j x) v k h l:=by
 have o:=w.obj i a m;refine⟨o.pos,o.width,(λp=>by rw[s] at p;cases p),λr f=>?_⟩
 rw[s] at f;injection f with f
 subst f;refine⟨a,m,rfl,rfl,rfl,λi b h n=>⟨h,n,λl y=>?_⟩⟩
 exact .aW ((y.dH (nR t n)).mono (λ_ u=>.inl u) λ_ _=>rfl)
def Yy{g:Gh}{n:World}{A0 A1:aO}{H:List aO}{c0 c1 c2:PV}{t tr sz q v:Nat}{es:List PV}
 (h0:H[0]?=c6 A0) (o:H[1]?=c6 A1) (z:H[2]?=c6 ⟨t,4,[.agg [c0,c1,c2,.fl q v]],1⟩) (u:H[q]?=c6 ⟨tr,sz,es,v⟩) (N:3<=q)
 (f0:∀j,j∈A0.es->cE 0 j) (E:∀j,j∈A1.es->cE 0 j) (F:∀j,j∈es->cE 0 j) (fc:cE 0 c0/\cE 0 c1/\cE 0 c2) (s:bF g H n):
 ∃A,bF A [A0,A1,⟨t,4,[.agg [c0,c1,c2,.fl 3 1]],1⟩,⟨tr,sz,es,1⟩] n/\Bml.GStep 3 g H n A [A0,A1,⟨t,4,[.agg [c0,c1,c2,.fl 3 1]],1⟩,⟨tr,sz,es,1⟩] n:=by
 refine⟨dj g (NX q) (λ_=>False),bF.re s (λ_ f=>f.elim) (λi O r f C=>?_) (λi r f=>?_) (λi p a=>?_),GStep.re λi K J c=>?_⟩
 .rcases Fj f with⟨w,b⟩ |⟨w,b⟩ <;> rcases Fj C with⟨I,D⟩ |⟨I,D⟩ <;> omega
 .show i<4
  rcases Fj f with⟨w,b⟩ |⟨w,b⟩ <;> omega
 .match i,a with
  |0,a=>have a:c6 A0=c6 p:=a;injection a with a;subst a;exact wQ s h0 f0 rfl
  |1,a=>have a:c6 A1=c6 p:=a;injection a with a;subst a;exact wQ s o E rfl
  |3,a=>
   have a:c6 (⟨tr,sz,es,1⟩:aO)=c6 p:=a;injection a with a
   subst a;have B:=s.obj q _ u;refine⟨B.pos,B.width,(λf=>by cases f),λr e=>?_⟩
   have e:c6 q=c6 r:=e;injection e with e
   subst e;refine⟨_,u,rfl,rfl,rfl,λi x y d=>⟨y,d,λm k=>?_⟩⟩
   exact .aW ((k.dH (nR F d)).mono (λ_ l=>.inl l) λ_ _=>rfl)
  |2,a=>
   have a:c6 (⟨t,4,[.agg [c0,c1,c2,.fl 3 1]],1⟩:aO)=c6 p:=a;injection a with a
   subst a;refine⟨by show 0<4;omega,λi j h=>?_,(λf=>by cases f),λr e=>?_⟩
   .match i,h with
    |0,h=>injection h with h;subst h;rfl
   .have e:c6 2=c6 r:=e;injection e with e
    subst e;refine⟨_,z,rfl,rfl,rfl,λi x y d=>?_⟩
    obtain⟨j,h,L⟩:=gw d
    match i,h with
    |0,h=>
     injection h with h
     subst h
     match x,L with
     |0,_=>injection d with d;subst d;exact⟨c0,rfl,λm k=>.aW ((k.dH fc.1).mono (λ_ l=>.inl l) λ_ _=>rfl)⟩
     |1,_=>injection d with d;subst d;exact⟨c1,rfl,λm k=>.aW ((k.dH fc.2.1).mono (λ_ l=>.inl l) λ_ _=>rfl)⟩
     |2,_=>injection d with d;subst d;exact⟨c2,rfl,λm k=>.aW ((k.dH fc.2.2).mono (λ_ l=>.inl l) λ_ _=>rfl)⟩
     |3,_=>
      injection d with d
      subst d;refine⟨.fl q v,rfl,λm k=>?_⟩
      cases k with
      |aW f=>cases f
      |fl _ _ K _ c M o G=>
       rw[u] at c;injection c with c
       subst c;refine .fl 3 1 ⟨tr,sz,es,1⟩ m rfl (dv _) o λ_=>?_
       have:=G rfl;unfold SL at this⊢;exact this
 .match i,J with
  |0,_=>rw[h0] at c;injection c with c;subst c;exact⟨A0,rfl,dv _,λ_=>⟨rfl,rfl,rfl⟩⟩
  |1,_=>rw[o] at c;injection c with c;subst c;exact⟨A1,rfl,dv _,λ_=>⟨rfl,rfl,rfl⟩⟩
  |2,_=>rw[z] at c;injection c with c;subst c;exact⟨_,rfl,dv _,λ_=>⟨rfl,rfl,rfl⟩⟩
def EO:Nat->Option Nat
 |0=>c6 0
 |1=>c6 1
 |2=>c6 2
 |_=>c7
def B9{i r:Nat}(a:EO i=c6 r):i<3/\r=i:=by
 match i,a with
 |0,a=>injection a with a;exact⟨by omega,a.symm⟩
 |1,a=>injection a with a;exact⟨by omega,a.symm⟩
 |2,a=>injection a with a;exact⟨by omega,a.symm⟩
def ah7{g:Gh}{f:World}{A0 A1 A2 l k:aO}(f0:∀c,c∈A0.es->cE 0 c)(m:∀c,c∈A1.es->cE 0 c)(p:∀c,c∈A2.es->cE 0 c)(d:bF g [A0,A1,A2,l,k] f):
 bF (dj g EO λr=>r=3\/r=4) [A0,A1,A2] f/\Bml.GStep 3 g [A0,A1,A2,l,k] f (dj g EO λr=>r=3\/r=4) [A0,A1,A2] f:=by
 refine⟨bF.re d (λr e q s=>?_) (λi t r e n=>?_) (λi r e=>?_) (λi h a=>?_),GStep.re λi j o b=>?_⟩
 .have:=B9 s;omega
 .have:=B9 e;have:=B9 n;omega
 .exact(B9 e).1
 .match i,a with
  |0,a=>have a:c6 A0=c6 h:=a;injection a with a;subst a;exact wQ d rfl f0 rfl
  |1,a=>have a:c6 A1=c6 h:=a;injection a with a;subst a;exact wQ d rfl m rfl
  |2,a=>have a:c6 A2=c6 h:=a;injection a with a;subst a;exact wQ d rfl p rfl
 .match i,o with
  |0,_=>have b:c6 A0=c6 j:=b;injection b with b;subst b;exact⟨A0,rfl,dv _,λ_=>⟨rfl,rfl,rfl⟩⟩
  |1,_=>have b:c6 A1=c6 j:=b;injection b with b;subst b;exact⟨A1,rfl,dv _,λ_=>⟨rfl,rfl,rfl⟩⟩
  |2,_=>have b:c6 A2=c6 j:=b;injection b with b;subst b;exact⟨A2,rfl,dv _,λ_=>⟨rfl,rfl,rfl⟩⟩
def aew(k:Nat)(v:2<=k)(b l i h f g cap d:Nat)(j:Option Addr)(r:d*2<=140737488355328)(o:d*2<=cap)(q:0<d->j=c6 ⟨f,g,c7⟩):
 vy k dd 139 #[.pointer (c6 ⟨b,l,c7⟩),.pointer (c6 ⟨i,h,c7⟩)] ((List.range d).map λc=>.slice (c6 ⟨f,g+c*2,c7⟩) 2 2) (λa=>a.cell? ⟨b,l,c7⟩=c6 (.slice j (d*2) cap)/\a.cell? ⟨i,h,c7⟩=c6 (.int .i64 2)):=by
 intro p w a m s t h0;refine(ai5 k v p b l i h f g cap d j r w (λc a e=>⟨(m c a e).1,(m c a e).2,o,q⟩) s (λc a u e=>t c _ a ?_ e) a h0).mono λy x n=>⟨n.1,by rw[hq,List.length_range];exact n.2⟩
 rw[hS,oo u]
 rfl
def amL{n:Nat->Prop}{m:World}{g:List Int}{e l f cap:Nat}{h j:Int}(x:g[e*2]?=c6 h)(F:g[e*2+1]?=c6 j){w:Nat}{q:Option Addr}(p:VI n m (.vs 1 (g.map (PV.int .u8))) (.slice q w cap))(B:q=c6 ⟨l,f,c7⟩):VI n m (.vs 1 ([h,j].map (PV.int .u8))) (.slice (c6 ⟨l,f+e*2,c7⟩) 2 2):=by
 generalize t:g.map (PV.int .u8)=D at p;generalize C:s5 q w cap=z at p;cases p with
 |eX _ I cap=>
  have:g=[]:=List.map_eq_nil_iff.1 t;subst this;simp at x
 |vs _ _ K H cap u2 G E J v r s=>
  injection C with hz1 hz2 hz3
  rw[B] at hz1;injection hz1 with hz1
  injection hz1 with hz4 hz5
  subst hz4;subst hz5;have u:∀(i:Nat) (a:Int),g[i]?=c6 a->abk D i 0=c6 (.int .u8 a):=λi a c=>by
   rw[<-t];unfold abk;rw[hS,c]
   rfl
  have A:∀(i d:Nat) (a:PV),abk ([h,j].map (PV.int .u8)) i d=c6 a->d=0/\((i=0/\a= .int .u8 h)\/(i=1/\a= .int .u8 j)):=λi d a c=>by
   obtain⟨k,b,y⟩:=gw c
   match i,b with
   |0,b=>
    injection b with b
    subst b
    match d,y with
    |0,_=>injection c with c;exact⟨rfl,.inl ⟨rfl,c.symm⟩⟩
   |1,b=>
    injection b with b
    subst b
    match d,y with
    |0,_=>injection c with c;exact⟨rfl,.inr ⟨rfl,c.symm⟩⟩
  have o:∀(i d:Nat) (a:PV),abk ([h,j].map (PV.int .u8)) i d=c6 a->m.cell? ⟨l,f+e*2+(i*1+d),c7⟩=c6 (u2 (e*2+i) 0)/\(u2 (e*2+i) 0).oneCell'=true/\VI n m a (u2 (e*2+i) 0):=λi d a c=>by
   obtain⟨rfl,⟨rfl,rfl⟩ |⟨rfl,rfl⟩⟩:=A i d a c
   .have:=u _ _ x;refine⟨?_,r _ _ _ this,s _ _ _ this⟩
    have k:=v _ _ _ this;rw[show f+e*2+(0*1+0)=f+(e*2*1+0) by omega];exact k
   .have:=u _ _ F;refine⟨?_,r _ _ _ this,s _ _ _ this⟩
    have k:=v _ _ _ this;rw[show f+e*2+(1*1+0)=f+((e*2+1)*1+0) by omega];exact k
  refine .vs 1 ([h,j].map (PV.int .u8)) l (f+e*2) 2 (λi _=>u2 (e*2+i) 0) (dv _) E (λi k b=>?_) (λi d a c=>(o i d a c).1) (λi d a c=>(o i d a c).2.1) (λi d a c=>(o i d a c).2.2)
  match i,b with
  |0,b=>injection b with b;subst b;rfl
  |1,b=>injection b with b;subst b;rfl
def ccd:Code->Code | .cond _ b _=>b |a=>a
noncomputable def Yr:Code:=iq (iq sk)
noncomputable def r12:Code:=iq (ccd (eM (iq sk)))
noncomputable def r13:Code:=iq (eM sk)
noncomputable def jA:List Oper:=tS Yr
noncomputable def kE:List Oper:=tS r12
noncomputable def pj:List Oper:=tS r13
def ahb:xl= .seq (.seq DQ Dj) sk:=by kernel_rfl
def alU:sk= .seq (.seq (.region 11 jA.toArray false) (.cond (.tmp 61) (.seq (.region 12 kE.toArray false) .ret) .skip)) (.seq (.region 13 pj.toArray false) .ret):=by kernel_rfl
def tE:En BT.D:=[(4,.ptr 2 1 0 0),(2,.ptr 1 1 0 0)]
def iT(c:fa)(b a d:Int)(e:List Int):Nat->List (Ob BT.D)
 |0=>fO 2 c b a d .bg []
 |_+1=>fO 2 c b a d (.fl 3 1) [⟨1,1,.aap 3 e⟩]
def aaX(e:Lp)(f:fa)(c b d:Int):ops BT dd (iV e) [] jA (λ_ a=>c6 (a.H,lk a.E 61,lk a.E 4,lk a.E 2)) 0 jA [] ⟨tE,fO 2 f c b d .bg []⟩=(lQ e (aT.mk c b d [])).bind λv=>c6 (fO 2 f c b d .bg [],.bool (!v),.ptr 2 1 0 0,.ptr 1 1 0 0):=by kernel_rfl
def YK(f:Lp)(g:fa)(c b e:Int)(d:List Int):ops BT dd (iV f) [] jA (λ_ a=>c6 (a.H,lk a.E 61,lk a.E 4,lk a.E 2)) 0 jA [] ⟨tE,fO 2 g c b e (.fl 3 1) [⟨1,1,.aap 3 d⟩]⟩=(lQ f (aT.mk c b e d)).bind λv=>c6 (fO 2 g c b e (.fl 3 1) [⟨1,1,.aap 3 d⟩],.bool (!v),.ptr 2 1 0 0,.ptr 1 1 0 0):=by kernel_rfl
noncomputable def fin(a:Lp)(b:St BT.D):Option (bi BT.D (kq a).az.bX):=nh BT dd b 0 [.cell 2 101,.tmp 3] [] λc=>take BT 0 (kq a).az ⟨c,b.H⟩ c6
def aiP(a:Lp)(d:fa)(c b f:Int):ops BT dd (iV a) [] kE (λ_ e=>fin a e) 0 kE [] ⟨tE,fO 2 d c b f .bg []⟩=c6 (aT.mk 0 0 0 [],(6:Int)):=by kernel_rfl
def agF(a:Lp)(d:fa)(c b g:Int)(e:List Int):ops BT dd (iV a) [] kE (λ_ f=>fin a f) 0 kE [] ⟨tE,fO 2 d c b g (.fl 3 1) [⟨1,1,.aap 3 e⟩]⟩=c6 (aT.mk 0 0 0 [],(6:Int)):=by kernel_rfl
def alr(b:Lp)(e:fa)(c a d:Int):ops BT dd (iV b) [] pj (λ_ f=>fin b f) 0 pj [] ⟨tE,fO 2 e c a d .bg []⟩=c6 (aT.mk c a d [],(0:Int)):=by kernel_rfl
def ajs(b:Lp)(f:fa)(c a e:Int)(d:List Int):ops BT dd (iV b) [] pj (λ_ g=>fin b g) 0 pj [] ⟨tE,fO 2 f c a e (.fl 3 1) [⟨1,1,.aap 3 d⟩]⟩=c6 (aT.mk c a e d,(0:Int)):=by kernel_rfl
def Ou{q:Nat}(c:q≠4)(b:q≠2):(lk tE q:TV BT.D)= .any:=by
 have d:ey 4 q=false:=by cases a:ey 4 q with |false=>rfl |true=>exact absurd (beq_eq a).symm c
 have e:ey 2 q=false:=by cases a:ey 2 q with |false=>rfl |true=>exact absurd (beq_eq a).symm b
 simp only[tE,lk,d,e,cond_false]
def asj(a:fa):∀b,b∈(aY BT ⟨1,1,.box 97 [.int .i64 a.kO,.int .i64 a.abv,.row 5 a.Data]⟩).es->cE 0 b:=λb c=>by
 have c:b∈[PV.agg [.int .i64 a.kO,.int .i64 a.abv,.vs (BT.sz 5) (o7 (BT.ty 5).enc a.Data)]]:=c;rw[eH] at c;subst c;refine .agg _ λe d=>?_
 simp only[hI,j4,or_false] at d;rcases d with rfl |rfl |rfl
 .exact .int _ _
 .exact .int _ _
 .exact .vs _ _
def Qw:∀b,b∈(aY BT ⟨1,1,.box 101 [.int .i64 0,.int .i64 0,.int .i64 0,.bg]⟩).es->cE 0 b:=λb a=>by
 have a:b∈[PV.agg [.int .i64 0,.int .i64 0,.int .i64 0,.bg]]:=a;rw[eH] at a;subst a;refine .agg _ λd c=>?_
 simp only[hI,j4,or_false] at c;rcases c with rfl |rfl |rfl |rfl
 .exact .int _ _
 .exact .int _ _
 .exact .int _ _
 .exact .bg
def amN(d c f:Int):∀b,b∈(aY BT ⟨2,1,.box 101 [.int .i64 d,.int .i64 c,.int .i64 f,.bg]⟩).es->cE 0 b:=λb a=>by
 have a:b∈[PV.agg [.int .i64 d,.int .i64 c,.int .i64 f,.bg]]:=a;rw[eH] at a;subst a;refine .agg _ λg e=>?_
 simp only[hI,j4,or_false] at e;rcases e with rfl |rfl |rfl |rfl
 .exact .int _ _
 .exact .int _ _
 .exact .int _ _
 .exact .bg
def akj{g:Gh}{f:World}{a:fa}{e b d:Int}{c:List Int}{h:List (Ob BT.D)}{q v j n:Nat}{m:List (Ob BT.D)}(p:h=fO j a e b d (.fl q v) m)(s:nth h q=c6 ⟨n,v,.aap 3 c⟩)(r:3<=q)(u:bF g (av BT h) f)(l:Nat):
 ∃k,bF k (av BT (iT a e b d c (l+1))) f/\Bml.GStep 3 g (av BT h) f k (av BT (iT a e b d c (l+1))) f:=by
 subst p;have o:∀i,i∈c.map (BT.ty 3).enc->cE 0 i:=λi w=>by
  obtain⟨z,_,rfl⟩:=j1.1 w;exact dM.lt 3 z
 exact Yy (H:=av BT (fO j a e b d (.fl q v) m)) (A0:=aY BT ⟨1,1,.box 97 [.int .i64 a.kO,.int .i64 a.abv,.row 5 a.Data]⟩) (A1:=aY BT ⟨1,1,.box 101 [.int .i64 0,.int .i64 0,.int .i64 0,.bg]⟩) (t:=101) (c0:=.int .i64 e) (c1:=.int .i64 b) (c2:=.int .i64 d) (tr:=3) (sz:=BT.sz 3) (es:=c.map (BT.ty 3).enc) rfl rfl rfl (df s) r (asj a) Qw o ⟨.int _ _,.int _ _,.int _ _⟩ u
def GS{g:Gh}{h:List aO}{f:World}(k:bF g h f){r t:Nat}{c:PV}(o:h[r]?=c6 ⟨t,1,[.agg [c]],1⟩)(m:cE 0 c):∃b e d,g.β r=c6 (b,e)/\f.cell? ⟨b,0,c7⟩=c6 d/\VI g.F f c d:=by
 have s:=k.obj r _ o;have a:=s.mem;cases i:g.β r with
 |none=>rw[i] at a;cases a
 |some p=>
  obtain⟨b,e⟩:=p;rw[i] at a;obtain⟨_,cells,j,_,_,_,n⟩:=a;obtain⟨d,l,_,q⟩:=n 0 0 c rfl;refine⟨b,e,d,rfl,?_,q.dH m⟩
  rw[oe j];exact l
def JR{d:Program}{c:Sem Value}{b:World}{e:Deferred}{h:World}:(do let f<-c;pure (Next.value f):Sem Next).run d b≠ .ok (.defer e) h:=by
 simp only[eo];cases j:c.run d b with
 |ok v g=>intro a;simp[k6] at a
 |halt i g=>intro a;simp[k6] at a
def abg{d:Program}{c:Sem Unit}{b:World}{e:Deferred}{g:World}:(do c;pure Next.skip:Sem Next).run d b≠ .ok (.defer e) g:=by
 simp only[eo];cases i:c.run d b with
 |ok v f=>intro a;simp[k6] at a
 |halt h f=>intro a;simp[k6] at a
def JH(b:Oper):Bool:=match b.op with | .move _ | .assign _ | .load _ _ | .store _ _ _ | .unOp _ _ _ | .build _ _=>true | .call a=>(match a.callee with | .value (.func 78)=>true |_=>false) |_=>false
def ajK{e:Oper}(c:JH e=true):pK dd e:=by
 intro d o j q a;obtain⟨p,h,n,m,k,gd⟩:=e;cases h with
 |move g=>cases a
 |assign g=>cases a
 |load i d=>exact JR a
 |store i d g=>exact abg a
 |unOp d b f=>exact JR a
 |build d b=>exact JR a
 |call f=>
  obtain⟨callee,args,l⟩:=f;unfold JH at c;dsimp only at c
  split at c
  .simp only[execOp,resolve,Deferred.ofValue,q5,eo,h6,ec,invoke] at a;rw[pA z7 rfl rfl] at a;cases a
  .cases c
 |_=>cases c
def IT:∀b:List Oper,b.all JH=true->∀a,a∈b->pK dd a:=λb d a c=>ajK (List.all_eq_true.1 d a c)
def agI:∀a,a∈jA->pK dd a:=IT _ rfl
def alv:∀a,a∈kE->pK dd a:=IT _ rfl
def aqI:∀a,a∈pj->pK dd a:=IT _ rfl
def aoq{f:Lp}(B:∀O,O∈iV f->FT O){x:fa}{c a b:Int}{e:List Int}{v:Bool}{r:aT×Int}{N:Nat}(G:lQ f (aT.mk c a b e)=c6 v)(l:r=bif (!v) then(aT.mk 0 0 0 [],6) else(aT.mk c a b e,0))(h0:N=0->e=[])
 {g:Gh} {ac:Act} {w:World} {d:List Deferred} {S:Exit->Act->World->Prop} (ab:Rel g 64 (aU BT tE) (av BT (iT x c a b e N)) ac w)
 (J:∀s M C K,fin f s=c6 r->Rel K 64 (aU BT s.E) (av BT s.H) M C->Bml.GStep 3 g (av BT (iT x c a b e N)) w K (av BT s.H) C->S .ret (ji d M) C):sk.wp dd S (ji d ac) w:=by
 rw[alU];have ad:ops BT dd (iV f) [] jA (λ_ i=>c6 (i.H,lk i.E 61,lk i.E 4,lk i.E 2)) 0 jA [] ⟨tE,iT x c a b e N⟩=c6 (iT x c a b e N,.bool (!v),.ptr 2 1 0 0,.ptr 1 1 0 0):=by
  cases N with
  |zero=>
   rw[h0 rfl] at G;refine(aaX f x c a b).trans ?_
   rw[G]
   rfl
  |succ N=>
   refine(YK f x c a b e).trans ?_
   rw[G]
   rfl
 have X:ops BT dd (iV f) [] kE (λ_ i=>fin f i) 0 kE [] ⟨tE,iT x c a b e N⟩=c6 (aT.mk 0 0 0 [],(6:Int)):=by
  cases N with
  |zero=>exact aiP f x c a b
  |succ N=>exact agF f x c a b e
 have U:ops BT dd (iV f) [] pj (λ_ i=>fin f i) 0 pj [] ⟨tE,iT x c a b e N⟩=c6 (aT.mk c a b e,(0:Int)):=by
  cases N with
  |zero=>rw[h0 rfl];exact alr f x c a b
  |succ N=>exact ajs f x c a b e
 have ae:∀j,j∈jA->fL 64 j.dst=true:=mL _ rfl;have ag:∀j,j∈kE->fL 64 j.dst=true:=mL _ rfl;have W:∀j,j∈pj->fL 64 j.dst=true:=mL _ rfl;refine wp_seq (wp_seq (Hv (m:=3) dM B ab ad ae agI λp o Q af n k A=>?_))
 injection n with n
 have L:p.H=iT x c a b e N:=congrArg (·.1) n;have aa:lk p.E 61= .bool (!v):=congrArg (·.2.1) n;have T:lk p.E 4= .ptr 2 1 0 0:=congrArg (·.2.2.1) n;have V:lk p.E 2= .ptr 1 1 0 0:=congrArg (·.2.2.2) n;have I:Rel af 64 (aU BT tE) (av BT (iT x c a b e N)) o Q:=by
  rw[L] at k;refine⟨k.m,k.e.defers,k.e.size,λq=>?_⟩
  rw[ep];have h:=k.e.at_ q;rw[ep] at h
  by_cases P:q=4
  .subst P;rw[T] at h;exact h
  by_cases R:q=2
  .subst R;rw[V] at h;exact h
  rw[Ou P R];exact .aW (.any _)
 rw[L] at A;have Y:(ji d o).eval (.tmp 61)= .bool (!v):=by
  have h:=k.e.at_ 61;rw[ep,aa] at h;show o.tmps.getD 61 undef=_
  generalize o.tmps.getD 61 undef=z at h;cases h with |aW Z=>cases Z;rfl
 refine wp_cond Y ?_
 cases v with
 |false=>
  have l:r=(aT.mk 0 0 0 [],(6:Int)):=l;show((Code.seq (.region 12 kE.toArray false) .ret).wp dd _ (ji d o) Q)
  refine wp_seq (Hv (m:=3) dM B I X ag alv λu F H E y t D=>?_)
  exact wp_ret (J u F H E (by rw[l];exact y) t (A.trans D))
 |true=>
  have l:r=(aT.mk c a b e,(0:Int)):=l;refine wp_skip ?_
  refine wp_seq (Hv (m:=3) dM B I U W aqI λu F H E y t D=>?_)
  exact wp_ret (J u F H E (by rw[l];exact y) t (A.trans D))
def Ky{g:Lp}:∀{e:List (List Int)} {b c:List Int},gW g e b=c6 c->c.length=b.length+e.length/\(e≠[]->c.length*8<=140737488355328)
 |[],b,c,a=>by
  have a:c6 b=c6 c:=a;injection a with a
  subst a;exact⟨rfl,λa=>absurd rfl a⟩
 |j::e,b,c,a=>by
  have a:((jQ g j).bind λi=>(bj 8 b [c3 c4 i]).bind λc=>gW g e c)=c6 c:=a;obtain⟨i,_,a⟩:=fK a;obtain⟨m,d,a⟩:=fK a;obtain⟨f,k⟩:=Ky a;unfold bj at d
  split at d
  .rename_i h;injection d with d
   subst d;have l:(b++[c3 c4 i]).length=b.length+1:=by simp
   rw[l] at f;have h:(b.length+1)*8<=140737488355328:=h;refine⟨by rw[f,m5];omega,λ_=>?_⟩
   cases e with
   |nil=>rw[f];exact h
   |cons _ _=>exact k (by simp)
  .cases d
def Yb(l:Lp)(bX:FT (C5 l))(bJ:FT (JX l))(bY:FT (Ks l))(b9:FT (H7 l)):FT (kq l):=by
 have aF:∀c,c∈iV l->FT c:=λc O=>by
  simp only[iV,hI,j4,or_false] at O;rcases O with rfl |rfl |rfl |rfl
  .exact bX
  .exact bJ
  .exact bY
  .exact b9
 refine⟨pA z8 LH rfl,λx r a0 g w args bB ct aT=>?_⟩
 have cB:args.length=1:=bB;have a0:tU l c6 (rA l) x=c6 r:=a0;have bM:=Ot (nt:=64) ct (by omega) aT;refine(callsIn_wide (n:=10)).1 (callsIn_of_wp_marks z8 LH trivial ?_ rfl)
 obtain⟨z,bD,bo⟩:∃z,AS l BT dd (iV l) 0 D2 (PT l) (cz BT (kq l).par x)=c6 z/\(z=oi r\/∃a e h d k,z=n1 (sO 2 x d a e h k .bg [],.fn 139 [] [.ptr 3 1 0 0,.ptr 4 1 0 0],.ptr 2 1 0 0,.ptr 1 1 0 0)/\rA l a e h d k=c6 r):=by
  rcases aoS (i:=oi) (V:=λa e h d k=>c6 (n1 (sO 2 x d a e h k .bg [],TV.fn 139 [] [.ptr 3 1 0 0,.ptr 4 1 0 0],TV.ptr 2 1 0 0,TV.ptr 1 1 0 0))) a0 with o |⟨a,e,h,d,k,C,E⟩
  .exact⟨_,(SR l x).trans o,.inl rfl⟩
  .exact⟨_,(SR l x).trans C,.inr ⟨a,e,h,d,k,rfl,E⟩⟩
 have a9:∀(M:St BT.D) (Z:Gh) (Q:Act) (L:World),fin l M=c6 r->Rel Z 64 (aU BT M.E) (av BT M.H) Q L->Bml.GStep 0 g (av BT (cz BT (kq l).par x).H) w Z (av BT M.H) L->
  ∃v,(results tx Q.tmps).run dd L= .ok v L/\∃a8 S,Ending.returned v= .returned a8/\bF S (av BT (cz BT (kq l).az r).H) L/\Bml.GStep 0 g (av BT (cz BT (kq l).par x).H) w S (av BT (cz BT (kq l).az r).H) L/\VR S (av BT (cz BT (kq l).az r).H) L (pv BT (kR (cz BT (kq l).az r).E)) a8:=λM Z Q L C E ag=>by
  obtain⟨v,af,X,B,a3,aN⟩:=Xn (c:=kq l) (fn:=tx) (rs:=[.cell 2 101,.tmp 3]) dM rfl rfl C E;exact⟨v,X,v,af,rfl,B,ag.trans a3,aN⟩
 refine Pu mixed dM aF D2 _ bD rfl (ei _) g _ w bM (λaX S ad w' J ce bS aI=>?_) (λH ad w' cg aD=>?_)
 rotate_left
 .
  cases H with
  |ret=>
   obtain⟨cE,H1,Z,⟨M,az,rfl,rfl⟩,bq,aQ⟩:=aD;have az:(fin l M).bind (λay=>c6 (oi ay))=c6 z:=az;obtain⟨ay,bw,ai⟩:=fK az;injection ai with ai
   have cq:ay=r:=by
    rcases bo with o |⟨a,e,h,d,k,o,_⟩
    .rw[o] at ai;injection ai
    .rw[o] at ai;cases ai
   rw[cq] at bw;show LeavesInM _ _ _ _ _ _ ad.defers .returning w'
   rw[bq.e.defers];exact a9 M Z ad w' bw bq aQ
  |normal=>exact absurd rfl cg
  |exit cD=>obtain⟨_,_,_,⟨_,az,_⟩,_⟩:=aD;cases az
  |goto _=>obtain⟨_,_,_,J,_⟩:=aD;exact J.elim
  |panic _=>exact aD.elim
  |outgrown=>exact aD.elim
 .have J:exec l BT dd (iV l) 0 [] DQ 1 (λH R=>bif ey H 0 then c6 (n1 (R.H,lk R.E 49,lk R.E 4,lk R.E 2)) else c7) aX=c6 z:=J;rw[ahb];refine wpIn_seq (wpIn_seq (wpIn_wide.2 (gO mixed dM aF DQ 1 _ _ _ J (by kernel_rfl) ce S ad w' bS _ λH I u am=>?_)))
  cases H with
  |normal=>
   obtain⟨_,_,af,⟨W,_,G,rfl,rfl⟩,ak,be⟩:=am;have G:c6 (n1 (W.H,lk W.E 49,lk W.E 4,lk W.E 2))=c6 z:=G;injection G with G
   obtain⟨a,e,h,d,k,bI,bN⟩:∃a e h d k,z=n1 (sO 2 x d a e h k .bg [],.fn 139 [] [.ptr 3 1 0 0,.ptr 4 1 0 0],.ptr 2 1 0 0,.ptr 1 1 0 0)/\rA l a e h d k=c6 r:=by
    rcases bo with o |o
    .rw[o] at G;cases G
    .exact o
   rw[bI] at G;injection G with G
   have aH:W.H=sO 2 x d a e h k .bg []:=congrArg (·.1) G;have b8:lk W.E 49= .fn 139 [] [.ptr 3 1 0 0,.ptr 4 1 0 0]:=congrArg (·.2.1) G;have ap:lk W.E 4= .ptr 2 1 0 0:=congrArg (·.2.2.1) G;have E:lk W.E 2= .ptr 1 1 0 0:=congrArg (·.2.2.2) G;obtain⟨bK,N,bO,v,zP,aK,bR,bA⟩:=W4 bN;subst bK;obtain⟨aV,b6⟩:=Su d N zP;have ba:=ak.e.defers;have a6:=ak.e.size;have U:=ak.m;rw[aH] at U be;obtain⟨aM,C3,u3,bb,bU,au⟩:=GS (r:=3) (t:=95) (c:=.vs (BT.sz 5) (d.map (BT.ty 5).enc)) U rfl (.vs _ _);obtain⟨aj,C4,u4,bl,co,cn⟩:=GS (r:=4) (t:=3) (c:=.int .i64 2) U rfl (.int _ _);cases cn
   have au:VI af.F u (.vs 1 (d.map (PV.int .u8))) u3:=au;obtain⟨Y,an,aq,cap,rfl,cm,bk⟩:∃Y an aq cap,u3= .slice Y (N*2) cap/\N*2<=cap/\(0<N->Y=c6 ⟨an,aq,c7⟩):=by
    have ah:(d.map (PV.int .u8)).length=N*2:=by rw[hq];exact zP
    generalize d.map (PV.int .u8)=cx at au ah;cases au with
    |eX _ Y cap=>exact⟨Y,0,0,cap,by rw[<-ah];rfl,by rw[<-ah];exact ei _,λo=>by simp at ah;omega⟩
    |vs _ _ cv bW cap u2 am cy a6 cC cA cH=>exact⟨_,cv,bW,cap,by rw[<-ah],by rw[<-ah];exact am,λ_=>rfl⟩
   obtain⟨ab,T⟩:=ah7 (A0:=aY BT ⟨1,1,.box 97 [.int .i64 x.kO,.int .i64 x.abv,.row 5 x.Data]⟩) (A1:=aY BT ⟨1,1,.box 101 [.int .i64 0,.int .i64 0,.int .i64 0,.bg]⟩) (A2:=aY BT ⟨2,1,.box 101 [.int .i64 a,.int .i64 e,.int .i64 h,.bg]⟩) (asj x) Qw (amN a e h) U;generalize bi:(dj af EO λr=>r=3\/r=4)=P at ab T;have bz:P.F aM:=by rw[<-bi];exact .inr ⟨3,C3,.inl rfl,bb⟩
   have bL:P.F aj:=by rw[<-bi];exact .inr ⟨4,C4,.inr rfl,bl⟩
   have ab:bF P (av BT (fO 2 x a e h .bg [])) u:=ab;have T:Bml.GStep 3 af (av BT (sO 2 x d a e h 2 .bg [])) u P (av BT (fO 2 x a e h .bg [])) u:=T;have aw:=ak.e.at_ 49;rw[ep,b8,aH] at aw;have cu:I.eval (.tmp 49)= .func (.func 139) #[] #[.pointer (c6 ⟨aM,0,c7⟩),.pointer (c6 ⟨aj,0,c7⟩)]:=by
    show I.tmps.getD 49 undef=_
    generalize I.tmps.getD 49 undef=ay at aw;have aw:VR af _ u (.fn 139 [] [.ptr 3 1 0 0,.ptr 4 1 0 0]) ay:=aw;cases aw with
    |aW o=>
     cases o with
     |fn _ _ _ bC vs C _ E B=>
      match vs,E with
      |[aE,a4],_=>have:=B 0 _ aE rfl rfl;cases this
    |fn _ _ _ bC vs C _ E B=>
     obtain rfl:=hM C.symm
     match vs,E with
     |[aE,a4],_=>
      have aA:=B 0 _ aE rfl rfl;have aa:=B 1 _ a4 rfl rfl;have aA:aE= .pointer (c6 ⟨aM,0,c7⟩):=by
       cases aA with
       |aW o=>cases o
       |ptr _ _ _ _ F Y y aT a2=>
        have y:c6 (⟨95,1,[.agg [.vs (BT.sz 5) (d.map (BT.ty 5).enc)]],1⟩:aO)=c6 F:=y;injection y with y
        subst y;obtain⟨_,b,bc,j,rfl⟩:=a2 rfl;rw[bb] at j;injection j with j
        injection j with j
        rw[<-j]
        rfl
      have aa:a4= .pointer (c6 ⟨aj,0,c7⟩):=by
       cases aa with
       |aW o=>cases o
       |ptr _ _ _ _ F Y y aT a2=>
        have y:c6 (⟨3,1,[.agg [.int .i64 2]],1⟩:aO)=c6 F:=y;injection y with y
        subst y;obtain⟨_,b,bc,j,rfl⟩:=a2 rfl;rw[bl] at j;injection j with j
        injection j with j
        rw[<-j]
        rfl
      rw[aA,aa]
   have bv:VR P (av BT (fO 2 x a e h .bg [])) u (.ptr 2 1 0 0) (I.tmps.getD 4 undef):=by
    have:=ak.e.at_ 4;rw[ep,ap,aH] at this;exact this.step T (.ptr 2 1 0 0 (by omega))
   have b4:VR P (av BT (fO 2 x a e h .bg [])) u (.ptr 1 1 0 0) (I.tmps.getD 2 undef):=by
    have:=ak.e.at_ 2;rw[ep,E,aH] at this;exact this.step T (.ptr 1 1 0 0 (by omega))
   have cc:N*2<=140737488355328:=by
    obtain⟨X,B⟩:=Ky aK
    by_cases h0:lj d=[]
    .rw[h0] at aV;simp at aV;omega
    .have:=B h0;simp at X;omega
   rw[Yw];refine wpIn_block (Pq (n:=10) (a:=I) (w:=u) cu (pA Tryz.func139 rfl rfl) (aew 9 (by omega) aM 0 aj 0 an aq cap N Y cc cm bk) rfl
    (λk D=>∃g s,gW l ((lj d).take k) []=c6 s/\jV 3 BT P (av BT (fO 2 x a e h .bg [])) u D g (iT x a e h s k))
    (λk D o=> ?rd) (λk D r o' o y O=> ?put) (λk D aS o cI bQ=> ?below) (λaB=> ?start)
    (λk v Q D=>∃(c s:List Int) (g:Gh),(lj d)[k]?=c6 c/\gW l ((lj d).take k) []=c6 s/\jV 3 BT P (av BT (fO 2 x a e h .bg [])) u D g (iT x a e h s k)/\fI g (av BT (iT x a e h s k)) D 64 (aU BT (ru c)) Q)
    (λk v Q D r o' o y O=> ?mput) (λbV k v D cG aL A b2=> ?assign) (λbV k v Q D aL A=> ?body) (λD A cl=> ?done))
   case rd=>
    obtain⟨g,s,_,o⟩:=o;exact⟨(oW o.st.jh bz).trans bU,(oW o.st.jh bL).trans co⟩
   case put=>
    obtain⟨g,s,C,o⟩:=o;exact⟨g,s,C,o.lF (.inr rfl) y rfl O⟩
   case below=>
    obtain⟨g,s,C,o⟩:=o;exact⟨g,s,C,o.below bQ⟩
   case start=>
    refine⟨P,[],rfl,?_⟩
    have cJ:((u.alloc (.deferred (c6 []))).alloc (.loop aB)).heap.size=u.heap.size+2:=by simp
    have a7:∀b,b<u.heap.size->((u.alloc (.deferred (c6 []))).alloc (.loop aB)).heap[b]?=u.heap[b]? :=λb j=>(hL _ _ b (by simp;omega)).trans (hL _ _ b j)
    obtain⟨cs,cw⟩:=GStep.lF (w':=(u.alloc (.deferred (c6 []))).alloc (.loop aB)) (Bml.GStep.refl 3 P (av BT (fO 2 x a e h .bg [])) u) ab rfl rfl rfl (by omega) (λb j=>a7 b (ab.fb b j)) (λr b bc j=>a7 b (ab.qD j)) a7;refine⟨cw,cs,by omega,λb j=>⟨λbZ=>?_,?_⟩⟩
    .have:=ab.fb b bZ;omega
    .rcases j with rfl |rfl
     .exact⟨.deferred (c6 []),(hL (u.alloc (.deferred (c6 []))) _ u.heap.size (by simp)).trans (hU u _),rfl⟩
     .refine⟨.loop aB,?_,rfl⟩
      have:=hU (u.alloc (.deferred (c6 []))) (.loop aB)
      rwa [World.size_alloc] at this
   case mput=>
    obtain⟨c,s,g,C,E,ag,ap⟩:=o;have aG:=ag.lF (o':=o') (.inr rfl) y rfl O;refine⟨c,s,g,C,E,aG,ap.defers,ap.size,λq=>?_⟩
    have aC:=ap.at_ q;exact VR.uz (f:=λr v=>∃F,(av BT (iT x a e h s k))[r]?=c6 F/\v<=F.aF) (λ_ j=>j) (λb j=>m6 (λH=>by subst H;exact(ag.nF _ (.inr rfl)).1 j)) (λr v F _ y a1=>⟨F,y,a1,λH=>⟨H,rfl,rfl,rfl⟩⟩) aC aC.wf
   case assign=>
    obtain⟨ao,s,K,A⟩:=A;have J:k<N:=by
     have:=(e4.1 aL).1;simpa using this
    obtain⟨ae,al,O,bE,b5⟩:=b6 k J;have cr:s5 (c6 ⟨an,aq+k*2,c7⟩) 2 2=v:=by
     rw[hS,oo J] at aL;injection aL
    have cp:VI ao.F D (.vs 1 ([ae,al].map (PV.int .u8))) v:=by
     rw[<-cr];exact((amL bE b5 au (bk (by omega))).mono T.F T.jh).mono A.st.F A.st.jh
    have b7:((#[50]:Array Nat).zip #[v]).foldl (λt (p,v)=>t.setIfInBounds p v) I.tmps=I.tmps.setIfInBounds 50 v:=by simp
    rw[b7];have b1:fI ao (av BT (iT x a e h s k)) D 64 (aU BT (sD [ae,al])) {tmps:=I.tmps.setIfInBounds 50 v,defers:=[]}:=by
     refine⟨rfl,by simp;exact a6,λq=>?_⟩
     rw[ep]
     by_cases bd:q=50
     .subst bd;have aa:(I.tmps.setIfInBounds 50 v).getD 50 undef=v:=by
       rw[ft,gx (by omega)]
       rfl
      rw[aa];exact .aW cp
     .by_cases bs:q=4
      .subst bs;have aa:(I.tmps.setIfInBounds 50 v).getD 4 undef=I.tmps.getD 4 undef:=by
        rw[ft,ft,Array.getElem?_setIfInBounds_ne (by omega)]
       rw[aa];exact bv.step A.st (.ptr 2 1 0 0 (by omega))
      .have aA:(lk (sD [ae,al]) q:TV BT.D)= .any:=by
        have cj:ey 50 q=false:=by cases j:ey 50 q with |false=>rfl |true=>exact absurd (beq_eq j).symm bd
        have aj:ey 4 q=false:=by cases j:ey 4 q with |false=>rfl |true=>exact absurd (beq_eq j).symm bs
        simp only[sD,lk,cj,aj,cond_false]
       rw[aA];exact .aW (.any _)
    have aR:ops BT dd [] [] sv (λ_ R=>c6 R) 0 sv [] ⟨sD [ae,al],iT x a e h s k⟩=c6 ⟨ru [ae,al],iT x a e h s k⟩:=by
     cases k with
     |zero=>exact rdA _ _ _ _ _ _
     |succ k=>exact aer _ _ _ _ _ _ _
    exact F5 dM (k:=c6) A b1 aR (mL _ rfl) (u6 _ rfl) λaX ad aS S a5 C E ag=>by
     have a5:=sn a5;subst a5;exact b2 ad aS C ⟨[ae,al],s,S,O,K,E,ag⟩
   case body=>
    obtain⟨c,s,ao,O,K,bf,bP⟩:=A;obtain⟨ar,bm,_⟩:=aiZ aK (k+1);obtain⟨m,bt,U⟩:=fK (Ue O K bm);have aR:∃ax q v bh bp bn,ops BT dd (iV l) [] lv (λcf R=>bif m7 0 lv then bif n4 lv [] 0 (nf cf []) then c6 R.H else c7 else c7) 0 lv [] ⟨ru c,iT x a e h s k⟩=c6 ax/\ax=fO bh x a e h (.fl q v) bn/\nth ax q=c6 ⟨bp,v,.aap 3 ar⟩/\3<=q:=by
     cases k with
     |zero=>
      have h0:s=[]:=by injection K with K;exact K.symm
      rw[h0] at U;refine⟨_,4,1,3,1,[⟨1,1,.aap 3 [c3 c4 m]⟩,⟨1,1,.aap 3 ar⟩],?_,rfl,rfl,by omega⟩
      refine(ajg l x c a e h).trans ?_
      rw[bt,ef,U]
      rfl
     |succ k=>
      refine⟨_,3,2,3,2,[⟨2,2,.aap 3 ar⟩,⟨1,1,.aap 3 [c3 c4 m]⟩],?_,rfl,rfl,by omega⟩
      refine(ahg l x c a e h s).trans ?_
      rw[bt];show((bj 8 s [c3 c4 m]).bind _)=_
      rw[U]
      rfl
    obtain⟨ax,q,cF,bh,bp,bn,b3,bH,ca,cb⟩:=aR;refine wpIn_block (afv (m:=3) mixed dM aF ⟨bf.m,bP⟩ b3 (mL _ rfl) (u6 _ rfl) λaX ad aS S aP ck aI=>?_)
    have aP:=sn aP;have aZ:=ck.m;rw[aP] at aZ aI;obtain⟨bx,b0,cd⟩:=akj bH ca cb aZ k;obtain⟨X,B⟩:=bf.next (H':=ax) aZ aI;obtain⟨a3,_⟩:=X.next (H':=iT x a e h ar (k+1)) b0 cd;exact⟨rfl,B,bx,ar,bm,a3⟩
   case done=>
    have bT:((List.range N).map λk=>s5 (c6 ⟨an,aq+k*2,c7⟩) 2 2).length=N:=by simp
    rw[bT] at A;obtain⟨ao,s,K,A⟩:=A;have ch:s=bO:=by
     rw[n2 (by omega),aK] at K;injection K with K
     exact K.symm
    subst ch;show Code.wpIn q2 10 dd sk _ _ _
    rw[ba];refine wpIn_wide.2 (aoq (x:=x) (N:=N) (g:=ao) (ac:=I) (w:=D) (d:=[{target:=.collected u.heap.size,args:=#[]}]) aF bR bA (λh0=>?_) ?_ λM Q L Z ci aJ aQ=>?_)
    .have:=(Ky aK).1;rw[aV,h0] at this;exact List.length_eq_zero_iff.1 (by simpa using this)
    .refine⟨A.m,ba,a6,λq=>?_⟩
     rw[ep]
     by_cases aN:q=4
     .subst aN;exact bv.step A.st (.ptr 2 1 0 0 (by omega))
     by_cases B:q=2
     .subst B;exact b4.step A.st (.ptr 1 1 0 0 (by omega))
     rw[Ou aN B];exact .aW (.any _)
    .obtain⟨X,B⟩:=A.next aJ.m aQ;have br:L.heap[u.heap.size]?=c6 (.deferred (c6 [])):=B.2 _ _ cl rfl;have aG:=X.lF (o':=.deferred c7) (.inl rfl) br rfl rfl;show LeavesInM _ _ _ _ _ _ [{target:=.collected u.heap.size,args:=#[]}] .returning L
     refine⟨by simp,.inl ⟨_,_,rfl,run_takeDeferred br,?_⟩⟩
     refine a9 M Z Q _ ci ⟨aG.m,aJ.e.defers,aJ.e.size,λq=>?_⟩ (((aI.trans be).trans (T.less (ei _))).trans (aG.st.less (ei _)))
     have aC:=aJ.e.at_ q;exact VR.uz (f:=λr v=>∃F,(av BT M.H)[r]?=c6 F/\v<=F.aF) (λ_ j=>j) (λb j=>m6 (λH=>by subst H;exact(X.nF _ (.inl rfl)).1 j)) (λr v F _ y a1=>⟨F,y,a1,λH=>⟨H,rfl,rfl,rfl⟩⟩) aC aC.wf
  |_=>first |exact am.elim |(obtain⟨_,_,_,⟨_,_,J,_⟩,_⟩:=am;cases J) |(obtain⟨_,_,_,J,_⟩:=am;exact J.elim)
noncomputable def qJ:Code:=(Tryz.f239.body).getD .skip
noncomputable def tcl:Code:=eM (iq (eM (eM (eM qJ))))
def VB:Code->Code | .block _ (.loop b)=>b |a=>a
noncomputable def yZ:Code:=VB tcl
noncomputable def lJ(a:List ay)(i:Int)(b:TV BT.D):En BT.D:=[(4,b),(12,.row 140 a),(13,.int .i64 (a.length:Int)),(14,.int .i64 i)]
def tH(b:List ay)(c:List Int)(a:List aM):List (Ob BT.D):=[⟨1,1,.hole 140 b [.agg [.row 3 c,.fl 1 1]]⟩,⟨1,1,.aap 142 a⟩]
def HO:List (Nat×Hn):=[(458,⟨[],[(0,⟨[],[],[(32,.v 4)]⟩)],c7⟩),(7346,⟨[],[(4,⟨[(1,true,.aap 142 138)],[],[]⟩)],c6 ⟨[(1,true,.aap 142 138)],[],[(36,.v 3)]⟩⟩)]
def xJ(a:Lp):List (aq BT):=[IP a,Hy a,HG a]
noncomputable def tK:Nat->St BT.D->Option (Nat×List (Nat×Bd BT.D)×TV BT.D×TV BT.D×TV BT.D×TV BT.D):=λc a=>c6 (c,a.H.map (λb=>(b.aF,b.bd)),lk a.E 4,lk a.E 14,lk a.E 12,lk a.E 13)
noncomputable def bx(a:ay):Nat×Bd BT.D:=(1,.box 140 [.row 3 a.aw,.row 142 a.aH])
def tB0(b:Lp)(a:List ay)(i:Int):exec b BT dd (xJ b) 0 HO yZ 1 tK ⟨lJ a i .bg,[]⟩=bif c5 (i<(a.length:Int)) then(aj a i).bind λd=>(mH b d).bind λc=>c6 (0,[bx d,(1,.aap 142 c.1),(1,.hole 140 [] [.agg [.row 3 c.2,.fl 1 1]]),(1,.hole 140 [] [.agg [.row 3 c.2,.fl 1 1]])],.fl 3 1,.int .i64 (c3 c4 (i+1)),.row 140 a,.int .i64 (a.length:Int)) else c6 (2,[],.bg,.int .i64 i,.row 140 a,.int .i64 (a.length:Int)):=by kernel_rfl
def mo(a:List ay){b:Type}(c:Option b):Option b:=bif c5 (c3 c4 (((a.length+1:Nat):Int) -1)=((a.length+0:Nat):Int)) then bif ey (a.length+0) (a.length+0) then c else c7 else c7
def tL(e:Lp)(c:List ay)(d:ay)(a:List aM)(i:Int):Option ((List aM×Int)⊕List aM):=
 bif c5 (i<(d.aH.length:Int)) then
  mo c (mo c ((aj a i).bind λ_=>(a[i.toNat]?).bind λf=>(aj d.aH i).bind λb=>(xW e f b).bind λg=>(aj a i).bind λ_=>(a[i.toNat]?).bind λ_=>c6 (oi (a.set i.toNat g.1,c3 c4 (i+1)))))
 else c6 (n1 a)
def Ik(b:List ay)(c:List Int)(a:List (TV BT.D)):Bd BT.D:=.hole 140 b (.agg [.row 3 c,.fl 1 1]::a)
def tB1(c:Lp)(a:List ay)(i:Int)(b:List ay)(d:List Int)(f:List aM):exec c BT dd (xJ c) 0 HO yZ 1 tK ⟨lJ a i (.fl 0 1),tH b d f⟩=bif c5 (i<(a.length:Int)) then(aj a i).bind λe=>
 (bif c5 (0<((b.length+1:Nat):Int)) then mo b ((qG c d e.aw).bind λh=>c6 h) else c6 false).bind λh=>
 bif h then(c.loop (λj=>tL c b e j.1 j.2) (f,0)).bind λk=>c6 (0,[(1,Ik b d []),(1,.aap 142 k),bx e],.fl 0 1,.int .i64 (c3 c4 (i+1)),.row 140 a,.int .i64 (a.length:Int))
 else(mH c e).bind λg=>bif x2 ((b.length+1+1)*48) 140737488355328 then c6 (0,[(2,Ik b d [.agg [.row 3 g.2,.fl 3 1]]),(1,.aap 142 f),bx e,(1,.aap 142 g.1),(1,.hole 140 [] [.agg [.row 3 g.2,.fl 3 1]])],.fl 0 2,.int .i64 (c3 c4 (i+1)),.row 140 a,.int .i64 (a.length:Int)) else c7
 else c6 (2,[(1,Ik b d []),(1,.aap 142 f)],.fl 0 1,.int .i64 i,.row 140 a,.int .i64 (a.length:Int)):=by kernel_rfl
def qi(p q:Nat):Nat->Option Nat
 |0=>c6 p
 |1=>c6 q
 |_=>c7
def Dl{p q i r:Nat}(a:qi p q i=c6 r):(i=0/\r=p)\/(i=1/\r=q):=by
 match i,a with
 |0,a=>injection a with a;exact .inl ⟨rfl,a.symm⟩
 |1,a=>injection a with a;exact .inr ⟨rfl,a.symm⟩
def NR{a f:List PV}{i d:Nat}{c:PV}(b:abk (a++f) i d=c6 c):(i<a.length/\abk a i d=c6 c)\/(a.length<=i/\abk f (i -a.length) d=c6 c):=by
 unfold abk at b⊢
 by_cases e:i<a.length
 .rw[ev e] at b;exact .inl ⟨e,b⟩
 .rw[e6 (by omega)] at b;exact .inr ⟨by omega,b⟩
def SW{b f:List PV}{i d:Nat}{c:PV}(a:abk b i d=c6 c):abk (b++f) i d=c6 c:=by
 unfold abk at a⊢
 by_cases e:i<b.length
 .rw[ev e];exact a
 .rw[hQ (by omega)] at a;cases a
def BZ{l m:List PV}{i j:Nat}{b:PV}(a:abk m i j=c6 b):abk (l++m) (l.length+i) j=c6 b:=by
 unfold abk at a⊢;rw[e6 (by omega),Nat.add_sub_cancel_left];exact a
def ajr{g:Gh}{A:World}{x:List (Ob BT.D)}{p v q s:Nat}{y:List aM}{u E2:List PV}{h:PV}{D:Nat->Prop}
 (T:(av BT x)[p]?=c6 ⟨140,2,u++[.agg [h,.fl q s]],v⟩) (F:(av BT x)[q]?=c6 ⟨142,2,y.map aM.enc,s⟩) (ab:p≠q) (K:¬D p/\¬D q) (R:cE 0 h) (U:E2.length=u.length) (Q:∀n,n∈E2->n.cells.length=2)
 (B:∀i j t,abk E2 i j=c6 t->∃w,abk u i j=c6 w/\∀k,VR g (av BT x) A w k->VI (dj g (qi p q) D).F A t k) (L:bF g (av BT x) A):
 bF (dj g (qi p q) D) [⟨140,2,E2++[.agg [h,.fl 1 1]],1⟩,⟨142,2,y.map aM.enc,1⟩] A:=by
 refine bF.re L (λr e i H=>?_) (λi aa r e M=>?_) (λi r e=>?_) (λi J c=>?_)
 .rcases Dl H with⟨_,rfl⟩ |⟨_,rfl⟩
  .exact K.1 e
  .exact K.2 e
 .rcases Dl e with⟨G,b⟩ |⟨G,b⟩ <;> rcases Dl M with⟨w,P⟩ |⟨w,P⟩ <;> omega
 .show i<2
  rcases Dl e with⟨G,b⟩ |⟨G,b⟩ <;> omega
 .match i,c with
  |0,c=>
   have c:c6 (⟨140,2,E2++[.agg [h,.fl 1 1]],1⟩:aO)=c6 J:=c;injection c with c
   subst c;refine⟨by show 0<2;omega,λi n a=>?_,(λe=>by cases e),λr f=>?_⟩
   .have a:n∈E2++[.agg [h,.fl 1 1]]:=fe a;rcases l1.1 a with a |a
    .exact Q n a
    .rw[eH] at a;subst a;rfl
   .have f:c6 p=c6 r:=f;injection f with f
    subst f;refine⟨_,T,rfl,rfl,by simp[U],λi j t V=>?_⟩
    rcases NR V with⟨_,d⟩ |⟨h0,d⟩
    .obtain⟨w,O,S⟩:=B i j t d;exact⟨w,SW O,λk o=>.aW (S k o)⟩
    .obtain⟨n,a,W⟩:=gw d;have N:i -E2.length=0:=by
      have:=(e4.1 a).1;simpa using this
     rw[N] at d a;injection a with a
     subst a;have H:i=u.length+0:=by omega
     rw[H]
     match j,W with
     |0,_=>
      injection d with d
      subst d;exact⟨h,BZ (l:=u) (m:=[.agg [h,.fl q s]]) (i:=0) (j:=0) rfl,λk o=>.aW ((o.dH R).mono (λ_ E=>.inl E) λ_ _=>rfl)⟩
     |1,_=>
      injection d with d
      subst d;refine⟨.fl q s,BZ (l:=u) (m:=[.agg [h,.fl q s]]) (i:=0) (j:=1) rfl,λk o=>?_⟩
      cases o with
      |aW e=>cases e
      |fl _ _ Y _ C Z d o=>
       rw[F] at C;injection C with C
       subst C;refine .fl 1 1 ⟨142,2,y.map aM.enc,1⟩ k rfl (dv _) d λ_=>?_
       have:=o rfl;unfold SL at this⊢;exact this
  |1,c=>
   have c:c6 (⟨142,2,y.map aM.enc,1⟩:aO)=c6 J:=c;injection c with c
   subst c;have I:=L.obj q _ F;refine⟨I.pos,I.width,(λe=>by cases e),λr f=>?_⟩
   have f:c6 q=c6 r:=f;injection f with f
   subst f;refine⟨_,F,rfl,rfl,rfl,λi j t B=>⟨t,B,λs X=>?_⟩⟩
   exact .aW ((X.dH (nR (λn a=>by
    obtain⟨z,_,rfl⟩:=j1.1 a;exact dM.lt 142 z) B)).mono (λ_ E=>.inl E) λ_ _=>rfl)
def nj(b:Nat)(h:Env)(d:List aO)(f:Env)(H0:List aO):Prop:=∀g c a,Rel g b h d c a->∃e,Rel e b f H0 c a/\Bml.GStep 0 g d a e H0 a
def sS{f:Program}{a:Nat}{e i:Env}{b H0:List aO}{h:Code}{j:fE}(r:nj a e b i H0)(p:eT f a 0 h j i H0):eT f a 0 h j e b:=λg d c n q l=>by
 obtain⟨o,k,u⟩:=r g d c n;exact p o d c k q λs t v m=>l s t v (eI.trans u m)
def xh(c:List (Ob BT.D)):av BT c=(c.map λa=>(a.aF,a.bd)).map λb=>aY BT ⟨0,b.1,b.2⟩:=by
 unfold av;rw[List.map_map];exact List.map_congr_left λa _=>by cases a;rfl
def amB{e:List ay}{i:Int}{j:TV BT.D}{q:Nat}(f:q≠4)(k:q≠12)(d:q≠13)(c:q≠14):lk (lJ e i j) q= .any:=by
 have b:∀a,q≠a->ey a q=false:=λa g=>by cases h:ey a q with |false=>rfl |true=>exact absurd (beq_eq h).symm g
 simp only[lJ,lk,b 4 f,b 12 k,b 13 d,b 14 c,cond_false]
structure vS (S:St BT.D) (sorted:List ay) (i:Int) (t:TV BT.D):Prop where
 s4:lk S.E 4=t
 YC:lk S.E 12= .row 140 sorted
 YD:lk S.E 13= .int .i64 (sorted.length:Int)
 YE:lk S.E 14= .int .i64 i
def P3{g e:Gh}{d:St BT.D}{n:Act}{c:World}{H0:List aO}{l:List ay}{i:Int}{s t:TV BT.D}(f:vS d l i s)(j:Rel g 73 (aU BT d.E) (av BT d.H) n c)(h:∀b,g.F b->e.F b)(u:bF e H0 c)
 (v:∀r,VR g (av BT d.H) c (pv BT s) r->VR e H0 c (pv BT t) r):Rel e 73 (aU BT (lJ l i t)) H0 n c:=by
 refine⟨u,j.e.defers,j.e.size,λq=>?_⟩
 rw[ep];have a:=j.e.at_ q;rw[ep] at a
 by_cases m:q=4
 .subst m;rw[f.s4] at a;exact v _ a
 by_cases k:q=12
 .subst k;rw[f.YC] at a;exact .aW ((a.dH (.vs _ _)).mono h λ_ _=>rfl)
 by_cases o:q=13
 .subst o;rw[f.YD] at a;exact .aW ((a.dH (.int _ _)).mono h λ_ _=>rfl)
 by_cases p:q=14
 .subst p;rw[f.YE] at a;exact .aW ((a.dH (.int _ _)).mono h λ_ _=>rfl)
 rw[amB m k o p];exact .aW (.any _)
def alW{c:St BT.D}{d:List ay}{i:Int}(j:vS c d i .bg):nj 73 (aU BT c.E) (av BT c.H) (aU BT (lJ d i .bg)) (av BT []):=λg k n b=>by
 refine⟨dj g (λ_=>c7) (λ_=>False),P3 j b (λ_ a=>.inl a) ?_ (λl f=>.aW ((f.dH .bg).mono (λ_ a=>.inl a) λ_ _=>rfl)),GStep.re λr o b=>absurd b (by omega)⟩
 exact bF.re b.m (λ_ a=>a.elim) (λi m r a=>by cases a) (λi r a=>by cases a) (λi e h=>by
  have:(([]:List aO))[i]?=c6 e:=h;simp at this)
def H5{a:St BT.D}{s:List ay}{i:Int}{p v q u:Nat}{xs:List ay}{e:List Int}{l:List aM}{E1:List PV}{fz:Nat->Prop}(B:vS a s i (.fl p v))
 (n:(av BT a.H)[p]?=c6 ⟨140,2,E1++[.agg [.vs (1) (e.map (PV.int .i64)),.fl q u]],v⟩) (x:(av BT a.H)[q]?=c6 ⟨142,2,l.map aM.enc,u⟩) (G:p≠q) (C:¬fz p/\¬fz q) (t:xs.length=E1.length)
 (w:∀g b,bF g (av BT a.H) b->∀i k m,abk (xs.map ay.enc) i k=c6 m->∃o,abk E1 i k=c6 o/\∀d,VR g (av BT a.H) b o d->VI (dj g (qi p q) fz).F b m d):nj 73 (aU BT a.E) (av BT a.H) (aU BT (lJ s i (.fl 0 1))) (av BT (tH xs e l)):=λg H b c=>by
 have D:=ajr (E2:=xs.map ay.enc) n x G C (.vs _ _) (by rw[hq];exact t) (λI F=>by
  obtain⟨z,_,rfl⟩:=j1.1 F
  rfl) (w g b c.m) c.m
 refine⟨dj g (qi p q) fz,P3 B c (λ_ j=>.inl j) D (λd f=>?_),GStep.re λr A c=>absurd c (by omega)⟩
 have f:VR g (av BT a.H) b (.fl p v) d:=f;cases f with
 |aW j=>cases j
 |fl _ _ A _ h J y f=>
  rw[n] at h;injection h with h
  subst h;refine .fl 0 1 ⟨140,2,xs.map ay.enc++[.agg [.vs (1) (e.map (PV.int .i64)),.fl 1 1]],1⟩ d rfl (dv _) y λ_=>?_
  have:=f rfl;have E:(xs.map ay.enc++[PV.agg [.vs (1) (e.map (PV.int .i64)),.fl 1 1]]).length=(E1++[PV.agg [.vs (1) (e.map (PV.int .i64)),.fl q u]]).length:=by simp[t]
  unfold SL at this⊢;rw[E];exact this
def Mt{H:List aO}(f:List ay){p q:Nat}{fz:Nat->Prop}:∀g b,bF g H b->∀i c a,abk (f.map ay.enc) i c=c6 a->∃e,abk (f.map ay.enc) i c=c6 e/\∀d,VR g H b e d->VI (dj g (qi p q) fz).F b a d:=λg b _ i c a h=>⟨a,h,λd k=>(k.dH (nR (λm j=>by
 obtain⟨z,_,rfl⟩:=j1.1 j;exact dM.lt 140 z) h)).mono (λ_ l=>.inl l) λ_ _=>rfl⟩
def OC{H:List aO}(c:List ay){tg1:List Int}{ws1:List aM}{p q q1 u1:Nat}(o:H[q1]?=c6 ⟨142,2,ws1.map aM.enc,u1⟩):∀g f,bF g H f->∀i j h,abk ((c++[(⟨tg1,ws1⟩:ay)]).map ay.enc) i j=c6 h->∃n,abk (c.map ay.enc++[.agg [.vs (1) (tg1.map (PV.int .i64)),.fl q1 u1]]) i j=c6 n/\∀k,VR g H f n k->VI (dj g (qi p q) λr=>r=q1).F f h k:=λg f t i j h a=>by
 rw[List.map_append] at a;rcases NR a with⟨_,a⟩ |⟨u,a⟩
 .obtain⟨n,y,w⟩:=Mt (H:=H) c (p:=p) (q:=q) (fz:=λr=>r=q1) g f t i j h a;exact⟨n,SW y,w⟩
 .obtain⟨A,d,C⟩:=gw a;have v:i - (c.map ay.enc).length=0:=by
   have:=(e4.1 d).1;simpa using this
  rw[v] at a d;injection d with d
  subst d;have u:i=(c.map ay.enc).length+0:=by omega
  rw[u]
  match j,C with
  |0,_=>
   injection a with a
   subst a;exact⟨_,BZ (l:=c.map ay.enc) (m:=[.agg [.vs (1) (tg1.map (PV.int .i64)),.fl q1 u1]]) (i:=0) (j:=0) rfl,λk s=>(s.dH (.vs _ _)).mono (λ_ e=>.inl e) λ_ _=>rfl⟩
  |1,_=>
   injection a with a
   subst a;refine⟨_,BZ (l:=c.map ay.enc) (m:=[.agg [.vs (1) (tg1.map (PV.int .i64)),.fl q1 u1]]) (i:=0) (j:=1) rfl,λk s=>?_⟩
   have B:=lh (s.ub o rfl) o rfl;have:=Ed (t.obj q1 _ o) B (λA d=>by
    obtain⟨z,_,rfl⟩:=j1.1 d;exact dM.lt 142 z) (F:=(dj g (qi p q) λr=>r=q1).F) (λ_ e=>.inl e) λb x e=>.inr ⟨q1,x,rfl,e⟩
   rw[List.drop_zero,n2 (dv _)] at this;exact this
def AV:aq BT:=⟨293,1,0,⟨[],[(0,.v 44)]⟩,⟨[(0,[0],.box 44 [.v 44])],[(0,.f 326 [] [.p 0])]⟩,λa=>c6 a⟩
def RVw(b:Lp)(a:List ay):gl b BT dd [] AV [.tmp 2] ((Tryz.f293.body).getD .skip) [] a=c6 a:=by kernel_rfl
def KVw:FT AV:=FA (L:=LN 0) (hs:=[]) mixed dM f0 Tryz.func293 rfl rfl rfl rfl (by kernel_rfl) rfl rfl (RVw (LN 0))
noncomputable def QA:Code:=iq (iq (eM (eM (eM qJ))))
noncomputable def uc:Code:=eM (eM (eM (eM qJ)))
noncomputable def lm:List Oper:=tS (iq (eM qJ))
def ajf:Tryz.f239.body=c6 (.seq (iq qJ) (.seq (.region 1 lm.toArray false) (.seq (iq (eM (eM qJ))) (.seq (.seq QA (.block 0 (.loop yZ))) uc)))):=by kernel_rfl
def tp0(a:Lp)(b:List ay):exec a BT dd [] 0 [] (iq qJ) 1 (λd c=>bif ey d 0 then c6 (lk c.E 0) else c7) (cz BT (uY a).par b)=c6 (.row 140 b):=by kernel_rfl
def WS(b:List ay):ops BT dd [AV] [] lm (λ_ a=>c6 (a.H.map (λc=>(c.aF,c.bd)),lk a.E 10)) 0 (lm.take 2) [] ⟨[(0,.row 140 b)],[]⟩=c6 ([(1,.box 44 [.row 140 b])],.fn 326 [] [.ptr 0 1 0 0]):=by kernel_rfl
def Ur(a:Lp)(b:List ay):ops BT dd [xI a] [] lm (λ_ c=>c6 (lk c.E 3)) 2 (lm.drop 2) [] ⟨[(10,.fn 326 [] [.vp [.row 140 b] 0])],[]⟩=(uv a b).bind λd=>c6 (.row 140 d):=by kernel_rfl
def tT1(a:Lp)(b:List ay):exec a BT dd [] 0 [] uc 1 (kL dd (uY a) [.tmp 2]) ⟨[(4,.fl 0 1)],[⟨1,1,.aap 140 b⟩]⟩=c6 b:=by kernel_rfl
def aa3(a:Lp):exec a BT dd [] 0 [] uc 1 (kL dd (uY a) [.tmp 2]) ⟨[(4,.bg)],[]⟩=c6 []:=by kernel_rfl
end Go.X.T
namespace Go.X
open Go Go.Aml Go.Bml
section
variable {P:Program}{B:Tb}{R:Type}{r:R}
def RS{nt n:Nat}{i s:List Oper}{y:fE}:∀{k:List Oper} {S:St B.D} {F:List (Option (cr B.D))} {h:St B.D},l6 P B i k S F h->(∀f,f∈k->fL nt f.dst=true)->gp P nt n i.toArray s y (aU B h.E) (av B h.H)->
 gp P nt n i.toArray (k++s) y (aU B S.E) (av B S.H)
 |[],S,[],h,a,_,o=>by
  obtain rfl:h=S:=a;exact o
 |f::k,S,d::F,h,a,D,o=>by
  obtain⟨C,a⟩:=a;have w:=RS (nt:=nt) (n:=n) a (λf L=>D f (List.mem_cons_of_mem _ L)) o;have t:=D f (by simp);obtain⟨e,z,q,u,x,gd⟩:=f;have A:∀{p:Bool->TV B.D->Prop},tQ i ⟨e,z,q,u,x,gd⟩ S.E p->∃g c d,gd=c6 (g,c)/\(i.toArray[g]?).bind (·.dst)=c6 d/\p c (lk S.E d):=λa=>by
   obtain⟨g,c,U,d,M,E,K,I⟩:=a;refine⟨g,c,d,M,?_,I⟩
   rw[cJ] at E;simp[E,K]
  cases d with
  |none=>
   obtain⟨g,c,d,rfl,m,l⟩:=A (p:=λc v=>v= .bu []\/∃b,v= .bool b/\b≠c) C;rcases l with l |⟨b,J,H⟩
   .refine MO m (by rw[ep,l];rfl) t ?_
    rw[show li (aU B S.E) e (.bu [])=aU B (gr S.E e (.bu [])) by rw[sx];rfl];exact w
   .refine Sk m (by rw[ep,J];rfl) H t ?_
    rw[show li (aU B S.E) e (.bu [])=aU B (gr S.E e (.bu [])) by rw[sx];rfl];exact w
  |some G=>
   obtain⟨j,N,T,O⟩:=C;have run:gp P nt n i.toArray (⟨e,z,q,u,x,c7⟩::(k++s)) y (aU B S.E) (av B S.H):=by
    refine OT G.nw (Sz (N e q u x S.E (aX S.H (dx G.nw)) Sf) t ?_)
    rintro v Q ⟨rfl,rfl⟩;rw[<-sx];exact w
   rcases j with j |j
   .obtain rfl:gd=c7:=j;exact run
   .obtain⟨g,c,d,rfl,m,l⟩:=A j;exact S7 m (by rw[ep,l];rfl) run
 |[],_,_::_,_,a,_,_=>a.elim
 |_::_,_,[],_,a,_,_=>a.elim
end
end Go.X
namespace Go.X.T
open Go Go.Aml Go.Bml Go.X Go.RowKit Go.Proofs
def aos{P:Program}{a:Nat}{f h:Env}{b H0:List aO}{j:Array Oper}{d:List Oper}{i:fE}(s:nj a f b h H0)(p:gp P a 0 j d i h H0):gp P a 0 j d i f b:=λg e c n q l=>by
 obtain⟨o,k,v⟩:=s g e c n;exact p o e c k q λt u w m=>l t u w (eI.trans v m)
def AR{d:St BT.D}{E0:En BT.D}(a:∀q,lk E0 q= .any\/(lk d.E q=lk E0 q/\cE 0 (pv BT (lk E0 q)))):nj 73 (aU BT d.E) (av BT d.H) (aU BT E0) (av BT []):=λg l n b=>by
 refine⟨dj g (λ_=>c7) (λ_=>False),⟨bF.re b.m (λ_ a=>a.elim) (λi m r a=>by cases a) (λi r a=>by cases a) (λi f k=>by
  have:(([]:List aO))[i]?=c6 f:=k;simp at this),b.e.defers,b.e.size,λq=>?_⟩,GStep.re λr o b=>absurd b (by omega)⟩
 rw[ep];have c:=b.e.at_ q;rw[ep] at c;rcases a q with a |⟨e,h⟩
 .rw[a];exact .aW (.any _)
 .rw[e] at c;exact .aW ((c.dH h).mono (λ_ j=>.inl j) λ_ _=>rfl)
def adf{b:Nat->Prop}{f:World}{d:Nat}{c:List PV}{a:Value}(e:VI b f (.vs d c) a):a.oneCell'=true:=by cases e <;> rfl
def ah6{o:St BT.D}{f t:Nat}{x:List ay}(G:lk o.E 10= .fn f [] [.ptr 0 1 0 0])(E:av BT o.H=[⟨t,1,[.agg [.vs 2 (x.map ay.enc)]],1⟩]):nj 73 (aU BT o.E) (av BT o.H) (aU BT [(10,.fn f [] [.vp [.row 140 x] 0])]) (av BT []):=λg N n e=>by
 have D:=e.m;rw[E] at D;obtain⟨b,M,A,h,T,v⟩:=GS (r:=0) D rfl (.vs _ _);refine⟨dj g (λ_=>c7) (λr=>r=0),⟨bF.re e.m (λ_ _ _ a=>by cases a) (λi V r a=>by cases a) (λi r a=>by cases a) (λi L Q=>by
  have:(([]:List aO))[i]?=c6 L:=Q;simp at this),e.e.defers,e.e.size,λq=>?_⟩,GStep.re λr F e=>absurd e (by omega)⟩
 rw[ep]
 by_cases y:q=10
 .subst y;have m:=e.e.at_ 10;rw[ep,G,E] at m;generalize N.tmps.getD 10 undef=C at m;have m:VR g _ n (.fn f [] [.ptr 0 1 0 0]) C:=m;show VR _ _ n (.fn f [] [.dw [.vs 2 (x.map ay.enc)] 0]) C
  have I:∀c,VR g [⟨t,1,[.agg [.vs 2 (x.map ay.enc)]],1⟩] n (.ptr 0 1 0 0) c->c= .pointer (c6 ⟨b,0,c7⟩):=λc p=>by
   cases p with
   |aW a=>cases a
   |ptr _ _ _ _ F W l v K=>
    have l:c6 (⟨t,1,[.agg [.vs 2 (x.map ay.enc)]],1⟩:aO)=c6 F:=l;injection l with l
    subst l;obtain⟨_,X,U,j,rfl⟩:=K rfl;rw[h] at j;injection j with j
    injection j with j
    rw[<-j]
    rfl
  have J:A.oneCell'=true:=adf v;have new:VI (dj g (λ_=>c7) (λr=>r=0)).F n (.dw [.vs 2 (x.map ay.enc)] 0) (.pointer (c6 ⟨b,0+0,c7⟩)):=by
   refine .dw _ 0 b 0 (λ_=>A) (.inr ⟨0,M,rfl,h⟩) (λi s d=>?_) (λi s d=>J) (λi s d=>?_)
   .match i,d with
    |0,_=>exact T
   .match i,d with
    |0,d=>injection d with d;subst d;exact v.mono (λ_ h=>.inl h) λ_ _=>rfl
  cases m with
  |aW a=>
   cases a with
   |fn _ _ _ H vs p _ u w=>
    match vs,u with
    |[c],_=>have:=w 0 _ c rfl rfl;cases this
  |fn _ _ _ H vs p _ u w=>
   obtain rfl:=hM p.symm
   match vs,u with
   |[c],_=>
    have O:=I c (w 0 _ c rfl rfl);subst O;refine .fn f [] [.dw [.vs 2 (x.map ay.enc)] 0] [] [_] rfl (λi s x a=>by simp at a) rfl λi s z a k=>?_
    match i,a,k with
    |0,a,k=>injection a with a;injection k with k;subst a;subst k;exact .aW new
 .have:(lk [(10,(.fn f [] [.vp [.row 140 x] 0]:TV BT.D))] q:TV BT.D)= .any:=by
   have S:ey 10 q=false:=by cases h:ey 10 q with |false=>rfl |true=>exact absurd (beq_eq h).symm y
   simp only[lk,S,cond_false]
  rw[this];exact .aW (.any _)
def aho{l:St BT.D}{c:List ay}{d:List Int}{f:List aM}(F:lk l.E 4= .fl 0 1)(u:av BT l.H=[⟨140,2,c.map ay.enc++[.agg [.vs 1 (d.map (PV.int .i64)),.fl 1 1]],1⟩,⟨142,2,f.map aM.enc,1⟩]):nj 73 (aU BT l.E) (av BT l.H) (aU BT [(4,.fl 0 1)]) (av BT [⟨1,1,.aap 140 (c++[(⟨d,f⟩:ay)])⟩]):=λg O n e=>by
 have w:=e.m;rw[u] at w;have C:=OC c (tg1:=d) (ws1:=f) (p:=0) (q:=1) (q1:=1) (u1:=1) (H:=[⟨140,2,c.map ay.enc++[.agg [.vs 1 (d.map (PV.int .i64)),.fl 1 1]],1⟩,⟨142,2,f.map aM.enc,1⟩]) rfl g n w;have x:((c++[(⟨d,f⟩:ay)]).map ay.enc).length=(c.map ay.enc++[PV.agg [.vs 1 (d.map (PV.int .i64)),.fl 1 1]]).length:=by simp
 refine⟨dj g (λi=>if i=0 then c6 0 else c7) (λr=>r=1),⟨bF.re e.m (λr a q b=>?_) (λi W r a D=>?_) (λi r a=>?_) (λi M h=>?_),e.e.defers,e.e.size,λq=>?_⟩,GStep.re λr T e=>absurd e (by omega)⟩
 .split at b
  .injection b with b;omega
  .cases b
 .have y:∀{m:Nat},(if m=0 then c6 0 else c7)=c6 r->m=0:=λ{m} a=>by
   by_cases v:m=0
   .exact v
   .rw[if_neg v] at a;cases a
  rw[y a,y D]
 .split at a
  .subst i;show 0<1;omega
  .cases a
 .match i,h with
  |0,h=>
   have h:c6 (⟨140,2,(c++[(⟨d,f⟩:ay)]).map ay.enc,1⟩:aO)=c6 M:=h;injection h with h
   subst h;refine⟨by show 0<2;omega,λi U t=>?_,(λa=>by cases a),λr j=>?_⟩
   .have t:=fe t;obtain⟨z,_,rfl⟩:=j1.1 t
    rfl
   .have j:c6 0=c6 r:=j;injection j with j
    subst j;rw[u];refine⟨_,rfl,rfl,rfl,x,λi E I K=>?_⟩
    obtain⟨S,N,J⟩:=C i E I K;exact⟨S,N,λk s=>.aW (J k s)⟩
 .rw[ep]
  by_cases A:q=4
  .subst A;have b:=e.e.at_ 4;rw[ep,F,u] at b;generalize O.tmps.getD 4 undef=k at b;have b:VR g _ n (.fl 0 1) k:=b;show VR _ _ n (.fl 0 1) k
   cases b with
   |aW a=>cases a
   |fl _ _ T _ o V L s=>
    injection o with o
    subst o;refine .fl 0 1 ⟨140,2,(c++[(⟨d,f⟩:ay)]).map ay.enc,1⟩ k rfl (dv _) L λ_=>?_
    have:=s rfl;unfold SL at this⊢;rw[x];exact this
  .have:(lk [(4,(.fl 0 1:TV BT.D))] q:TV BT.D)= .any:=by
    have Q:ey 4 q=false:=by cases G:ey 4 q with |false=>rfl |true=>exact absurd (beq_eq G).symm A
    simp only[lk,Q,cond_false]
   rw[this];exact .aW (.any _)
end Go.X.T
namespace Go.X.T
open Go Go.Aml Go.Bml Go.X Go.RowKit Go.Proofs
def Is{s:Lp}{g:List (aq BT)}(n:∀b,b∈g->FT b){r:List (Nat×Hn)}{b h:Code}{j:fE}{e:St BT.D}{k:Type}{z:k}{f:Nat->St BT.D->Option k}(p:exec s BT dd g 0 r b 1 f e=c6 z)(m:gB 73 b=true)(l:∀i a,i≠0->f i a=c6 z->False)
 (o:∀a,f 0 a=c6 z->eT dd 73 0 h j (aU BT a.E) (av BT a.H)):eT dd 73 0 (.seq b h) j (aU BT e.E) (av BT e.H):=by
 refine rN (((gO mixed dM n b 1 _ _ _ p m (ei _)).mono nP).mono λq v u c=>?_)
 cases q with
 |normal=>
  obtain⟨a,d,rfl,rfl⟩:=c;exact o a d
 |ret=>obtain⟨a,d,_⟩:=c;exact(l 1 a (by omega) d).elim
 |exit t=>obtain⟨a,d,_⟩:=c;exact(l (t+2) a (by omega) d).elim
 |goto _=>exact c.elim
 |panic _=>exact c.elim
 |outgrown=>exact c.elim
def ajm(c:Lp)(b:List ay):exec c BT dd [] 0 [] (iq (eM (eM qJ))) 1 (λd a=>bif ey d 0 then c6 (lk a.E 3,lk a.E 4) else c7) ⟨[(3,.row 140 b)],[]⟩=c6 (.row 140 b,.bg):=by kernel_rfl
def aoj(c:Lp)(b:List ay):exec c BT dd [] 0 [] QA 1 (λd a=>bif ey d 0 then c6 (lk a.E 4,lk a.E 12,lk a.E 13,lk a.E 14) else c7) ⟨[(3,.row 140 b),(4,.bg)],[]⟩=c6 (.bg,.row 140 b,.int .i64 (b.length:Int),.int .i64 0):=by kernel_rfl
def JP{b:Type}{z:b}{f:St BT.D->Option b}{a:Nat}{e:St BT.D}(d:a≠0)(c:(bif ey a 0 then f e else c7)=c6 z):False:=by
 cases a with
 |zero=>exact d rfl
 |succ a=>cases c
def Bz{e:St BT.D}{c:Nat}{a:TV BT.D}(f:lk e.E c=a)(h:cE 0 (pv BT a)):∀q,lk [(c,a)] q= .any\/(lk e.E q=lk [(c,a)] q/\cE 0 (pv BT (lk [(c,a)] q))):=λq=>by
 by_cases d:q=c
 .subst d;have g:(lk [(q,a)] q:TV BT.D)=a:=by simp[lk]
  rw[g];exact .inr ⟨f,h⟩
 .have b:ey c q=false:=by cases i:ey c q with |false=>rfl |true=>exact absurd (beq_eq i).symm d
  exact .inl (by simp only[lk,b,cond_false])
def Xh{g:St BT.D}{a d:Nat}{c e:TV BT.D}(k:lk g.E a=c)(l:cE 0 (pv BT c))(j:lk g.E d=e)(i:cE 0 (pv BT e))(n:a≠d):∀q,lk [(a,c),(d,e)] q= .any\/(lk g.E q=lk [(a,c),(d,e)] q/\cE 0 (pv BT (lk [(a,c),(d,e)] q))):=λq=>by
 by_cases h:q=a
 .subst h;have f:(lk [(q,c),(d,e)] q:TV BT.D)=c:=by simp[lk]
  rw[f];exact .inr ⟨k,l⟩
 .have b:ey a q=false:=by cases m:ey a q with |false=>rfl |true=>exact absurd (beq_eq m).symm h
  have f:(lk [(a,c),(d,e)] q:TV BT.D)=lk [(d,e)] q:=by simp only[lk,b,cond_false]
  rw[f];exact Bz j i q
def Ll(b:Lp)(c:ay):oM b c=(mH b c).bind λe=>c6 ⟨e.2,e.1⟩:=by
 unfold oM mH;cases cc b c.aw with
 |none=>rfl
 |some d=>
  simp only[ef];show(b.loop (λa=>r9 b c (ay.mk a.1 a.2.1) a.2.2) (d,([]:List aM),0)).bind _=((b.loop (λa=>r9 b c (ay.mk a.1 a.2.1) a.2.2) (d,([]:List aM),0)).bind _).bind _
  cases b.loop (λa=>r9 b c (ay.mk a.1 a.2.1) a.2.2) (d,([]:List aM),0) <;> rfl
def SA{n:Nat}(a:n*48<=140737488355328):c3 c4 ((n:Int)+1 -1)=(n:Int):=by
 rw[show(n:Int)+1 -1=(n:Int) by omega];rw[h8];omega
def Gb{a:List ay}(f:(a.length+1)*48<=140737488355328){e:Type}(b:Option e):mo a b=b:=by
 have d:c3 c4 (((a.length+1:Nat):Int) -1)=((a.length+0:Nat):Int):=by
  have:=SA (n:=a.length) (by omega);rw[show(((a.length+1:Nat):Int) -1)=(a.length:Int)+1 -1 by omega,this]
  rfl
 have c:ey (a.length+0) (a.length+0)=true:=Nat.beq_refl _;unfold mo;rw[decide_eq_true d,c]
 rfl
def aqb(c:Lp){e:List ay}(d:(e.length+1)*48<=140737488355328)(b:ay):(λa:List aM×Int=>tL c e b a.1 a.2)=λa=>qR c b.aH a.1 a.2:=by
 funext a
 obtain⟨f,i⟩:=a;unfold tL qR;rw[Gb d,Gb d];cases j:c5 (i<(b.aH.length:Int)) with
 |false=>rfl
 |true=>
  simp only[cond_true];cases g:aj f i with
  |none=>rfl
  |some k=>
   obtain⟨h0,h⟩:=xd g;rw[h];simp only[ef]
def Can(d:List ay)(a:List ay×Int)(c:En BT.D)(H0:List (Ob BT.D)):Prop:=
 (a.1=[]/\c=lJ d a.2 .bg/\H0=[])\/∃b e f,a.1=b++[(⟨e,f⟩:ay)]/\(b.length+1)*48<=140737488355328/\c=lJ d a.2 (.fl 0 1)/\H0=tH b e f
abbrev TZ:Type:=Nat×List (Nat×Bd BT.D)×TV BT.D×TV BT.D×TV BT.D×TV BT.D
def aiJ{t:Lp}{h:List ay}{x:List ay×Int}{Q:En BT.D}{H0:List (Ob BT.D)}(f:Can h x Q H0){w:(List ay×Int)⊕List ay}(a:lZ t h x.1 x.2=c6 w):
 ∃z:TZ,exec t BT dd (xJ t) 0 HO yZ 1 tK ⟨Q,H0⟩=c6 z/\
  ((∃N,w= .inl N/\z.1=0/\∀b:St BT.D,tK 0 b=c6 z->∃E1 H1,Can h N E1 H1/\nj 73 (aU BT b.E) (av BT b.H) (aU BT E1) (av BT H1))\/
   (w= .inr x.1/\z.1=2/\∀b:St BT.D,tK 2 b=c6 z->(x.1=[]/\nj 73 (aU BT b.E) (av BT b.H) (aU BT [(4,.bg)]) (av BT []))\/nj 73 (aU BT b.E) (av BT b.H) (aU BT [(4,.fl 0 1)]) (av BT [⟨1,1,.aap 140 x.1⟩]))):=by
 obtain⟨out,i⟩:=x;have B:∀{b:St BT.D} {P:Nat} {I:List (Nat×Bd BT.D)} {J:TV BT.D} {D:Int} {R:Nat},tK R b=c6 (P,I,J,.int .i64 D,.row 140 h,.int .i64 (h.length:Int))->b.H.map (λw=>(w.aF,w.bd))=I/\vS b h D J:=λ{b P I J D R} m=>by
  injection m with m
  injection m with _ m
  injection m with k1 m
  injection m with k2 m
  injection m with k3 m
  injection m with k4 k5
  exact⟨k1,⟨k2,k4,k5,k3⟩⟩
 rcases f with⟨y,rfl,rfl⟩ |⟨xs,d,j,y,G,rfl,rfl⟩
 .have y:out=[]:=y;subst y;have a:lZ t h [] i=c6 w:=a;unfold lZ at a;have c:=tB0 t h i
  by_cases C:i<(h.length:Int)
  .rw[decide_eq_true C,cond_true] at a c;obtain⟨k,H,a⟩:=fK a;rw[H,ef] at c;have a:((oM t k).bind λK=>(bj 48 [] [K]).bind λout=>c6 (oi (out,c3 c4 (i+1))))=c6 w:=a;rw[Ll] at a;obtain⟨K,f,a⟩:=fK a;obtain⟨e,M,f⟩:=fK f;injection f with f
   subst f;obtain⟨O,l,a⟩:=fK a;injection a with a
   rw[M,ef] at c;refine⟨_,c,.inl ⟨_,a.symm,rfl,λb s=>?_⟩⟩
   obtain⟨A,o⟩:=B s;have l:c6 ([]++[(⟨e.2,e.1⟩:ay)])=c6 O:=l;injection l with l
   refine⟨lJ h (c3 c4 (i+1)) (.fl 0 1),tH [] e.2 e.1,.inr ⟨[],e.2,e.1,l.symm,by decide,rfl,rfl⟩,?_⟩
   have n:av BT b.H=[aY BT ⟨0,1,.box 140 [.row 3 k.aw,.row 142 k.aH]⟩,⟨142,2,e.1.map aM.enc,1⟩,⟨140,2,[.agg [.vs 1 (e.2.map (PV.int .i64)),.fl 1 1]],1⟩,⟨140,2,[.agg [.vs 1 (e.2.map (PV.int .i64)),.fl 1 1]],1⟩]:=by
    rw[xh,A]
    rfl
   exact H5 (p:=3) (v:=1) (q:=1) (u:=1) (xs:=[]) (E1:=[]) (fz:=λ_=>False) o (by rw[n];rfl) (by rw[n];rfl) (by decide) ⟨id,id⟩ rfl (λg k _ i D Z f=>by simp[abk] at f)
  .rw[decide_eq_false C,cond_false] at a c;injection a with a
   refine⟨_,c,.inr ⟨a.symm,rfl,λb s=>?_⟩⟩
   obtain⟨_,o⟩:=B s;exact .inl ⟨rfl,AR (Bz o.s4 .bg)⟩
 .have y:out=xs++[(⟨d,j⟩:ay)]:=y;subst y;have a:lZ t h (xs++[(⟨d,j⟩:ay)]) i=c6 w:=a;unfold lZ at a;have c:=tB1 t h i xs d j;have S:((xs++[(⟨d,j⟩:ay)]).length:Int)=(xs.length:Int)+1:=by simp
  by_cases C:i<(h.length:Int)
  .rw[decide_eq_true C,cond_true] at a c;obtain⟨k,H,a⟩:=fK a;rw[H,ef] at c;have V:(0:Int)<((xs.length+1:Nat):Int):=by omega
   rw[decide_eq_true V,cond_true,Gb G] at c;have T:(0:Int)<((xs++[(⟨d,j⟩:ay)]).length:Int):=by omega
   have W:c3 c4 (((xs++[(⟨d,j⟩:ay)]).length:Int) -1)=(xs.length:Int):=by rw[S];exact SA (by omega)
   have X:aj (xs++[(⟨d,j⟩:ay)]) (xs.length:Int)=c6 ⟨d,j⟩:=by
    unfold aj;rw[if_pos (by omega),la,e6 (dv _),q7]
    rfl
   rw[decide_eq_true T,cond_true,W,X] at a;simp only[ef] at a;obtain⟨U,n,a⟩:=fK a;rw[n] at c;simp only[ef] at c;cases U with
   |true=>
    simp only[cond_true] at a c;rw[aqb t G] at c;obtain⟨F,Y,a⟩:=fK a;injection a with a
    rw[Y,ef] at c;refine⟨_,c,.inl ⟨_,a.symm,rfl,λb s=>?_⟩⟩
    obtain⟨A,o⟩:=B s;refine⟨lJ h (c3 c4 (i+1)) (.fl 0 1),tH xs d F,.inr ⟨xs,d,F,?_,G,rfl,rfl⟩,?_⟩
    .show(xs++[(⟨d,j⟩:ay)]).set (xs.length:Int).toNat ⟨d,F⟩=_
     rw[la,List.set_append_right _ _ (dv _),q7]
     rfl
    .have n:av BT b.H=[⟨140,2,xs.map ay.enc++[.agg [.vs 1 (d.map (PV.int .i64)),.fl 1 1]],1⟩,⟨142,2,F.map aM.enc,1⟩,aY BT ⟨0,1,.box 140 [.row 3 k.aw,.row 142 k.aH]⟩]:=by
      rw[xh,A]
      rfl
     exact H5 (p:=0) (v:=1) (q:=1) (u:=1) (xs:=xs) (E1:=xs.map ay.enc) (fz:=λ_=>False) o (by rw[n];rfl) (by rw[n];rfl) (by decide) ⟨id,id⟩ (by rw[hq]) (λg k L=>Mt xs g k L)
   |false=>
    simp only[cond_false] at a c;rw[Ll] at a;obtain⟨K,f,a⟩:=fK a;obtain⟨e,M,f⟩:=fK f;injection f with f
    subst f;obtain⟨O,l,a⟩:=fK a;injection a with a
    rw[M,ef] at c;unfold bj at l
    split at l
    .rename_i E;injection l with l
     have E:(xs.length+1+1)*48<=140737488355328:=by simpa using E
     rw[o2 E,cond_true] at c;refine⟨_,c,.inl ⟨_,a.symm,rfl,λb s=>?_⟩⟩
     obtain⟨A,o⟩:=B s;refine⟨lJ h (c3 c4 (i+1)) (.fl 0 1),tH (xs++[(⟨d,j⟩:ay)]) e.2 e.1,.inr ⟨xs++[(⟨d,j⟩:ay)],e.2,e.1,l.symm,by simpa using E,rfl,rfl⟩,?_⟩
     have n:av BT b.H=[⟨140,2,xs.map ay.enc++[.agg [.vs 1 (d.map (PV.int .i64)),.fl 1 1],.agg [.vs 1 (e.2.map (PV.int .i64)),.fl 3 1]],2⟩,⟨142,2,j.map aM.enc,1⟩,aY BT ⟨0,1,.box 140 [.row 3 k.aw,.row 142 k.aH]⟩,⟨142,2,e.1.map aM.enc,1⟩,⟨140,2,[.agg [.vs 1 (e.2.map (PV.int .i64)),.fl 3 1]],1⟩]:=by
      rw[xh,A]
      rfl
     exact H5 (p:=0) (v:=2) (q:=3) (u:=1) (xs:=xs++[(⟨d,j⟩:ay)]) (E1:=xs.map ay.enc++[.agg [.vs 1 (d.map (PV.int .i64)),.fl 1 1]]) (fz:=λr=>r=1) o (by rw[n,l3];rfl) (by rw[n];rfl) (by decide) ⟨by decide,by decide⟩ (by simp) (λg k L=>OC xs (by rw[n];rfl) g k L)
    .cases l
  .rw[decide_eq_false C,cond_false] at a c;injection a with a
   refine⟨_,c,.inr ⟨a.symm,rfl,λb s=>?_⟩⟩
   obtain⟨A,o⟩:=B s;refine .inr (aho o.s4 ?_)
   rw[xh,A]
   rfl
def UK(a:Lp)(aj:FT (IP a))(ae:FT (Hy a))(an:FT (HG a))(V:FT (xI a)):FT (uY a):=by
 have aa:∀h,h∈xJ a->FT h:=λh j=>by
  simp only[xJ,hI,j4,or_false] at j;rcases j with rfl |rfl |rfl
  .exact aj
  .exact ae
  .exact an
 have R:∀h,h∈[AV]->FT h:=λh j=>by
  rw[eH] at j;subst j;exact KVw
 have Z:∀h,h∈[xI a]->FT h:=λh j=>by
  rw[eH] at j;subst j;exact V
 refine ti (rs:=[.tmp 2]) dM Tryz.func239 ajf rfl rfl rfl rfl λ(x:List ay) (r:List ay) C=>?_
 have C:((uv a x).bind λd=>a.loop (λb=>lZ a d b.1 b.2) (([]:List ay),(0:Int)))=c6 r:=C;obtain⟨d,ao,ac⟩:=fK C;obtain⟨ak,af⟩:=a.ok _ _ _ ac;generalize ad:qP BT (kL dd (uY a) [.tmp 2]) r=X;refine Is f0 (tp0 a x) (by kernel_rfl) (λl c o e=>JP (f:=λS=>c6 (lk S.E 0)) o e) λar B=>?_
 have B:lk ar.E 0= .row 140 x:=by injection B
 refine sS (AR (E0:=[(0,.row 140 x)]) (Bz B (.vs _ _))) ?_
 refine rN (Lc ?_)
 obtain⟨aA,I,ai,u⟩:=qg dM R (WS x);injection u with u
 have am:I.H.map (λg=>(g.aF,g.bd))=[(1,.box 44 [.row 140 x])]:=congrArg (·.1) u;have P:lk I.E 10= .fn 326 [] [.ptr 0 1 0 0]:=congrArg (·.2) u;have ap:ops BT dd [xI a] [] lm (λ_ S=>c6 (lk S.E 3)) 2 (lm.drop 2) [] ⟨[(10,.fn 326 [] [.vp [.row 140 x] 0])],[]⟩=c6 (.row 140 d):=by
  refine(Ur a x).trans ?_
  rw[ao]
  rfl
 obtain⟨aE,H,Q,y⟩:=qg dM Z ap;injection y with y
 have N:∀g,g∈lm.take 2->fL 73 g.dst=true:=mL _ rfl;have aq:∀g,g∈lm.drop 2->fL 73 g.dst=true:=mL _ rfl;have A:∀s:fE,s .normal (aU BT H.E) (av BT H.H)->gp dd 73 0 lm.toArray (lm.take 2++lm.drop 2) s (aU BT [(0,(.row 140 x:TV BT.D))]) (av BT []):=λs w=>by
  refine RS (S:=(⟨[(0,.row 140 x)],[]⟩:St BT.D)) ai N (aos (ah6 (t:=44) (x:=x) P ?_) (yW (S:=(⟨[(10,.fn 326 [] [.vp [.row 140 x] 0])],[]⟩:St BT.D)) Q aq w))
  rw[xh,am]
  rfl
 have A:=λs w=>(k8 2 lm)▸A s w
 refine A _ ?_
 refine sS (AR (E0:=[(3,.row 140 d)]) (Bz y (.vs _ _))) ?_
 refine Is f0 (ajm a d) (by kernel_rfl) (λl c o e=>JP (f:=λS=>c6 (lk S.E 3,lk S.E 4)) o e) λaB v=>?_
 injection v with v
 refine sS (AR (E0:=[(3,.row 140 d),(4,.bg)]) (Xh (congrArg (·.1) v) (.vs _ _) (congrArg (·.2) v) .bg (by decide))) ?_
 refine rN (Is f0 (aoj a d) (by kernel_rfl) (λl c o e=>JP (f:=λS=>c6 (lk S.E 4,lk S.E 12,lk S.E 13,lk S.E 14)) o e) λU m=>?_)
 injection m with m
 have O:vS U d 0 .bg:=⟨congrArg (·.1) m,congrArg (·.2.1) m,congrArg (·.2.2.1) m,congrArg (·.2.2.2) m⟩;refine Ta (Pz (QG (α:=Nat×(List ay×Int)) (λq L K=>fY (λb:List ay×Int=>lZ a d b.1 b.2) q.1 q.2=c6 r/\∃E0 H0,Can d q.2 E0 H0/\nj 73 L K (aU BT E0) (av BT H0)) (λq=>q.1) (ak,([],0)) ⟨af,_,_,.inl ⟨rfl,rfl,rfl⟩,alW O⟩ ?_))
 rintro⟨ag,b⟩ L K ⟨i,E0,H0,T,au⟩;refine sS au ?_
 cases ag with
 |zero=>cases i
 |succ F=>
  have i:((lZ a d b.1 b.2).bind λg=>g.elim (fY (λb:List ay×Int=>lZ a d b.1 b.2) F) c6)=c6 r:=i;obtain⟨g,ah,i⟩:=fK i;obtain⟨z,ab,E⟩:=aiJ T ah;refine((gO mixed dM aa yZ 1 _ ⟨E0,H0⟩ _ ab (by kernel_rfl) (ei _)).mono nP).mono λal aD az n=>?_
  have first:∀l (c:St BT.D),tK l c=c6 z->z.1=l:=λl c e=>by
   injection e with e
   exact(congrArg (·.1) e).symm
  cases al with
  |normal=>
   obtain⟨c,k,rfl,rfl⟩:=n;rcases E with⟨G,rfl,_,D⟩ |⟨_,W,_⟩
   .obtain⟨aw,H1,Y,p⟩:=D c k;exact⟨(F,G),Nat.lt_succ_self F,i,aw,H1,Y,p⟩
   .have:=first 0 c k
    omega
  |exit M=>
   obtain⟨c,k,rfl,rfl⟩:=n;have aC:=first (M+2) c k
   rcases E with⟨G,_,ax,_⟩ |⟨rfl,W,D⟩
   .omega
   .have:M=0:=by omega
    subst this;have J:b.1=r:=by
     have i:c6 b.1=c6 r:=i;injection i
    show eT dd 73 0 uc X (aU BT c.E) (av BT c.H)
    subst ad;rcases D c k with⟨h0,p⟩ |p
    .refine sS p ?_
     rw[<-J,h0];exact(gO mixed dM f0 uc 1 _ ⟨[(4,.bg)],[]⟩ _ (aa3 a) (by kernel_rfl) (ei _)).mono nP
    .refine sS p ?_
     rw[<-J];exact(gO mixed dM f0 uc 1 _ ⟨[(4,.fl 0 1)],[⟨1,1,.aap 140 b.1⟩]⟩ _ (tT1 a b.1) (by kernel_rfl) (ei _)).mono nP
  |ret=>
   obtain⟨c,k,_,_⟩:=n;have:=first 1 c k
   rcases E with⟨_,_,e,_⟩ |⟨_,e,_⟩ <;> omega
  |goto _=>exact n.elim
  |panic _=>exact n.elim
  |outgrown=>exact n.elim
end Go.X.T
namespace Go.X.T
open Go Go.Aml Go.Bml Go.X Go.Proofs
variable (L:Lp)
def K0:FT (C0 L):=kf [] f0 Tryz.func8
def K1:FT (C1 L):=kf [] f0 Tryz.func223
def K2:FT (C2 L):=kf [(12,⟨[],[(0,⟨[],[],[(17,.v 4)]⟩)],c7⟩),(58,⟨[],[(1,⟨[],[],[(2,.i .i64 1)]⟩),(2,⟨[],[],[]⟩)],c6 ⟨[],[],[(21,.v 3)]⟩⟩),(250,⟨[],[(1,⟨[],[],[(2,.v 67)]⟩),(4,⟨[],[],[]⟩)],c6 ⟨[],[],[(40,.v 3)]⟩⟩),(7474,⟨[],[(0,⟨[],[],[(32,.v 4)]⟩)],c7⟩),(64100,⟨[],[(0,⟨[],[],[(70,.v 4)]⟩)],c7⟩),(128204,⟨[],[(0,⟨[],[],[(88,.v 4)]⟩)],c7⟩),(128206,⟨[],[(0,⟨[],[],[(98,.v 4)]⟩)],c7⟩)] (fc (K1 L) f0) Tryz.func156
def K3:FT (C3 L):=kf [] (fc (K2 L) f0) Tryz.func93
def K4:FT (C4 L):=kf [(26,⟨[],[(1,⟨[],[],[(6,.b false)]⟩),(2,⟨[],[],[]⟩)],c6 ⟨[],[],[(11,.v 3)]⟩⟩),(3378,⟨[],[(0,⟨[],[],[(36,.v 4)]⟩)],c7⟩)] f0 Tryz.func135
def K5:FT (C5 L):=kf [] f0 Tryz.func51
def K6:FT (C6 L):=kf [] (fc (K4 L) (fc (K5 L) f0)) Tryz.func207
def K7:FT (C7 L):=kf [(26,⟨[],[(1,⟨[],[],[(4,.v 3)]⟩),(2,⟨[],[],[]⟩)],c6 ⟨[],[],[(8,.v 3)]⟩⟩)] (fc (K6 L) f0) Tryz.func267
def K8:FT (C8 L):=kf [] (fc (K7 L) f0) Tryz.func208
def K9:FT (C9 L):=kf [] (fc (K3 L) (fc (K8 L) f0)) Tryz.func140
def VY:FT (C10 L):=kf [] (fc (K5 L) f0) Tryz.func141
def K11:FT (Ye L):=kf [(26,⟨[],[(1,⟨[],[],[(4,.v 3)]⟩),(2,⟨[],[],[]⟩)],c6 ⟨[],[],[(8,.v 3)]⟩⟩)] (fc (VY L) f0) ee
def Zv:FT (C12 L):=kf [] (fc (K11 L) f0) ez
def HI:FT (C13 L):=kf [] f0 Tryz.func210
def K16:FT (C16 L):=kf [] (fc (K15 L) f0) Tryz.func268
def Iv:FT (C17 L):=kf [] (fc (K16 L) (fc (D5 L) f0)) Tryz.func209
def RX:FT (C18 L):=kf [] (fc (HI L) (fc (Iv L) (fc (K4 L) f0))) Tryz.func142
def K23:FT (C23 L):=kf [(506,⟨[],[(2,⟨[(2,true,.box 35 amj)],[],[]⟩)],c6 ⟨[(2,true,.box 35 (abx amj [(5,.r 3)]))],[(100002,[5],.aap 120 32)],[(31,.v 3)]⟩⟩),(4090,⟨[],[(4,⟨[(2,true,.box 35 amj)],[],[]⟩)],c6 ⟨[(2,true,.box 35 (abx amj [(8,.r 3)]))],[(100002,[8],.aap 22 33)],[(58,.v 3)]⟩⟩),(64819,⟨[3],[],c7⟩),(261785,⟨[4],[],c7⟩)] (fc (oh L) (fc (sP L) (fc (Md L) (fc (iY L) f0)))) j3
def K24:FT (Xu L):=kf [(56,⟨[],[(0,⟨[],[],[(18,.v 4)]⟩)],c7⟩),(126,⟨[],[(0,⟨[(2,true,.box 35 amj),(3,false,.dead),(4,false,.dead),(5,false,.dead)],[],[]⟩)],c7⟩),(250,⟨[],[(3,⟨[(2,true,.box 35 (abx amj [(6,.r 3),(7,.r 4),(8,.r 5)]))],[(100002,[6],.aap 3 22),(100002,[7],.aap 3 22),(100002,[8],.aap 22 33)],[]⟩)],c6 ⟨[(2,true,.box 35 [.v 27,.v 28,.v 3,.r 3,.v 22,.v 32,.r 4,.r 5,.r 6])],[(100002,[3],.aap 88 31),(100002,[6],.aap 3 22),(100002,[7],.aap 3 22),(100002,[8],.aap 22 33)],[(57,.v 3)]⟩⟩),(506,⟨[],[(5,⟨[(2,true,.box 35 (abx amj [(6,.r 3),(7,.r 4),(8,.r 5)])),(3,false,.aap 3 22),(4,false,.aap 3 22),(5,false,.aap 22 33)],[],[]⟩)],c6 ⟨[(2,true,.box 35 (abx amj [(6,.r 3),(7,.r 4),(8,.r 5)])),(3,false,.aap 3 22),(4,false,.aap 3 22),(5,false,.aap 22 33)],[],[(71,.v 3)]⟩⟩),(16025,⟨[4],[],c7⟩),(16204,⟨[2,6,11,12],[],c7⟩)] (fc (K9 L) (fc (K5 L) (fc (Zv L) (fc (RX L) (fc (K23 L) f0))))) Tryz.func83
def K25:FT (C25 L):=kf [] f0 Tryz.func213
def Vl:FT (C26 L):=kf [(26,⟨[],[(1,⟨[],[],[(4,.v 3)]⟩),(2,⟨[],[],[]⟩)],c6 ⟨[],[],[(8,.v 3)]⟩⟩)] (fc (K25 L) f0) Tryz.func270
def K27:FT (C27 L):=kf [] (fc (Vl L) f0) Tryz.func212
def Aq:FT (C28 L):=kf [] (fc (K3 L) (fc (K27 L) f0)) Tryz.func144
def K29:FT (Wx L):=kf [] f0 Tryz.func272
def NZ:FT (C30 L):=kf [] (fc (K29 L) f0) Tryz.func214
def K31:FT (C31 L):=kf [(60,⟨[],[(0,⟨[],[],[(26,.v 4)]⟩)],c7⟩),(508,⟨[],[(2,⟨[(0,true,.aap 3 22)],[],[]⟩)],c6 ⟨[(0,true,.aap 3 22)],[],[(8,.v 3)]⟩⟩)] (fc (NZ L) f0) x9
def Ca:FT (ZB L):=kf [(60,⟨[],[(0,⟨[],[],[(26,.v 4)]⟩)],c7⟩),(508,⟨[],[(2,⟨[(0,true,.aap 3 22)],[],[]⟩)],c6 ⟨[(0,true,.aap 3 22)],[],[(8,.v 3)]⟩⟩)] (fc (NZ L) f0) x9
def Ja:FT (C33 L):=kf [(12,⟨[],[(0,⟨[],[],[(29,.v 4)]⟩)],c7⟩),(125,⟨[],[(0,⟨[(3,true,.box 90 [.v 3,.v 3])],[],[]⟩)],c7⟩),(509,⟨[],[(0,⟨[],[],[(11,.v 3)]⟩)],c7⟩),(8170,⟨[],[(0,⟨[],[],[(70,.v 4)]⟩)],c7⟩)] f0 Tryz.func242
def K34:FT (C34 L):=kf [(28,⟨[],[(0,⟨[],[],[(56,.v 4)]⟩)],c7⟩)] (fc (Ja L) f0) Tryz.func215
def DW:FT (C35 L):=kf [(14,⟨[],[(2,⟨[(0,true,.aap 3 22)],[],[]⟩)],c6 ⟨[(0,true,.aap 3 22)],[],[(2,.v 4)]⟩⟩),(918,⟨[],[(4,⟨[(0,true,.aap 3 22)],[],[(2,.v 4)]⟩)],c6 ⟨[(0,true,.aap 3 22)],[],[(2,.v 4),(12,.v 3)]⟩⟩),(235111,⟨[],[(0,⟨[],[],[(2,.v 4)]⟩)],c7⟩)] (fc (K34 L) f0) Tryz.func146
def UT:FT (C36 L):=kf [(14,⟨[0],[],c7⟩),(122,⟨[],[(3,⟨[(2,true,.aap 3 22)],[],[]⟩)],c6 ⟨[(2,true,.aap 3 22)],[],[(40,.v 3)]⟩⟩)] (fc (Aq L) (fc (K4 L) (fc (K5 L) (fc (Ca L) (fc (DW L) f0))))) A3
def KB:FT (C37 L):=kf [] (fc (K3 L) (fc (K4 L) (fc (K5 L) f0))) Tryz.func70
def vO:FT (C38 L):=kf [(12,⟨[],[(0,⟨[],[],[(32,.v 4)]⟩)],c7⟩),(3773,⟨[],[(0,⟨[],[],[(50,.v 4)]⟩)],c7⟩),(15095,⟨[],[(0,⟨[],[],[(50,.v 4)]⟩)],c7⟩)] (fc (K4 L) (fc (K5 L) f0)) Tryz.func85
def K39:FT (C39 L):=kf [] (fc (K5 L) f0) Tryz.func87
def K40:FT (C40 L):=kf [(26,⟨[],[(1,⟨[],[],[(4,.v 3)]⟩),(2,⟨[],[],[]⟩)],c6 ⟨[],[],[(8,.v 3)]⟩⟩)] (fc (K39 L) f0) ee
def K41:FT (C41 L):=kf [] (fc (K40 L) f0) ez
def OS:FT (C42 L):=kf [] (fc (K5 L) (fc (K4 L) f0)) Tryz.func148
def K43:FT (Vx L):=kf [(14,⟨[4],[],c7⟩)] (fc (OS L) (fc (iY L) f0)) Tryz.func88
def PY:FT (C44 L):=kf [] (fc (HI L) (fc (Iv L) (fc (K4 L) f0))) Tryz.func149
def RR:FT (C45 L):=kf [(6,⟨[0],[],c7⟩)] (fc (Ca L) f0) Tryz.func216
def Uq:FT (YG L):=kf [] f0 Tryz.func330
def SX:FT (C47 L):=kf [(28,⟨[],[(0,⟨[],[],[(23,.v 4)]⟩)],c7⟩),(125,⟨[],[(0,⟨[],[],[(10,.v 3)]⟩)],c7⟩),(1017,⟨[],[(0,⟨[],[],[(11,.v 3)]⟩)],c7⟩),(4071,⟨[],[(0,⟨[],[],[(11,.v 3)]⟩)],c7⟩)] f0 Tryz.func137
def X3:FT (Ux L):=kf [] (fc (Uq L) (fc (SX L) f0)) Tryz.func309
def Fo:FT (C49 L):=kf [(12,⟨[],[(0,⟨[],[],[(20,.v 4)]⟩)],c7⟩)] (fc (K3 L) (fc (X3 L) f0)) Tryz.func276
def K50:FT (C50 L):=kf [] f0 Tryz.func218
def YO:FT (Xk L):=kf [(6,⟨[],[(0,⟨[],[],[(27,.v 4)]⟩)],c7⟩)] (fc (K50 L) f0) xv
def OM:FT (C53 L):=kf [(14,⟨[],[(2,⟨[(0,true,.aap 3 22),(1,true,.box 22 [.r 0]),(2,true,.box 4 [.v 4])],[],[]⟩)],c6 ⟨[(0,true,.aap 3 22),(1,true,.box 22 [.r 0]),(2,true,.box 4 [.v 4])],[],[(16,.v 3)]⟩⟩),(3686,⟨[],[(4,⟨[(0,true,.aap 3 22),(1,true,.box 22 [.r 0]),(2,true,.box 4 [.v 4])],[],[]⟩)],c6 ⟨[(0,true,.aap 3 22),(1,true,.box 22 [.r 0]),(2,true,.box 4 [.v 4])],[],[(22,.v 3)]⟩⟩),(1887437,⟨[],[(0,⟨[],[],[(10,.v 3),(11,.v 3)]⟩)],c7⟩),(3774878,⟨[],[(0,⟨[],[],[(44,.v 4)]⟩)],c7⟩),(3774879,⟨[],[(0,⟨[(0,true,.aap 3 22),(1,true,.box 22 [.r 0]),(2,true,.box 4 [.v 4])],[],[]⟩)],c7⟩)] (fc (Fo L) (fc (YO L) f0)) xx
def QF:FT (Up L):=kf [(58,⟨[],[(2,⟨[(3,true,.aap 3 22),(4,true,.box 22 [.r 3]),(5,false,.dead)],[],[]⟩)],c6 ⟨[(3,true,.aap 3 22),(4,true,.box 22 [.r 3]),(5,false,.dead)],[(10,[],.box 4 [.v 4])],[(10,.p 6)]⟩⟩)] (fc (oH L) (fc (OM L) f0)) q8
def Cy:FT (C55 L):=kf [(58,⟨[],[(2,⟨[(3,true,.aap 3 22),(4,true,.box 22 [.r 3]),(5,false,.dead)],[],[]⟩)],c6 ⟨[(3,true,.aap 3 22),(4,true,.box 22 [.r 3]),(5,false,.dead)],[(10,[],.box 4 [.v 4])],[(10,.p 6)]⟩⟩)] (fc (oH L) (fc (OM L) f0)) q8
def K56:FT (C56 L):=kf [] (fc (K3 L) (fc (K5 L) (fc (RR L) (fc (Cy L) f0)))) Tryz.func150
def K57:FT (C57 L):=kf [(24,⟨[],[(0,⟨[],[],[(15,.v 4)]⟩)],c7⟩),(62,⟨[1],[],c7⟩),(122,⟨[],[(1,⟨[(1,true,.box 46 [.v 44]),(2,false,.dead)],[],[(9,.v 67)]⟩),(3,⟨[(2,true,.box 140 [.v 22,.v 138])],[],[]⟩)],c6 ⟨[(2,true,.box 140 [.v 22,.r 3])],[(100002,[1],.aap 142 138)],[(43,.v 3)]⟩⟩),(31335,⟨[3],[],c7⟩)] (fc (K3 L) (fc (K5 L) (fc (PY L) (fc (iY L) (fc (K56 L) f0))))) Tryz.func89
def K58:FT (C58 L):=kf [(6,⟨[0,2],[],c7⟩)] (fc (K31 L) f0) Tryz.func90
def K59:FT (C59 L):=kf [] (fc (K5 L) f0) Tryz.func152
def UI:FT (C60 L):=kf [(26,⟨[],[(1,⟨[],[],[(4,.v 3)]⟩),(2,⟨[],[],[]⟩)],c6 ⟨[],[],[(8,.v 3)]⟩⟩)] (fc (K59 L) f0) ee
def K61:FT (C61 L):=kf [] (fc (UI L) f0) ez
def MB:FT (C62 L):=kf [] (fc (K5 L) (fc (Fo L) f0)) Tryz.func222
def K63:FT (X9 L):=kf [] (fc (K5 L) (fc (MB L) f0)) Tryz.func155
def K64:FT (C64 L):=kf [] (fc (K63 L) f0) Tryz.func154
def K65:FT (C65 L):=kf [(26,⟨[],[(1,⟨[],[],[(4,.v 3)]⟩),(2,⟨[],[],[]⟩)],c6 ⟨[],[],[(8,.v 3)]⟩⟩)] (fc (K64 L) f0) qa
def K66:FT (C66 L):=kf [] (fc (K65 L) f0) qb
def xC:FT (Kf L):=kf [(28,⟨[],[(0,⟨[],[],[(62,.v 4)]⟩)],c7⟩),(122,⟨[],[(1,⟨[],[],[(2,.b false)]⟩),(2,⟨[],[],[]⟩)],c6 ⟨[],[],[(66,.v 3)]⟩⟩),(31332,⟨[],[(0,⟨[],[],[(111,.v 4)]⟩)],c7⟩)] (fc (K9 L) (fc (K5 L) (fc (RX L) (fc (K61 L) (fc (K66 L) f0))))) Tryz.func92
def K68:FT (Xw L):=kf [(12,⟨[],[(0,⟨[],[],[(16,.v 4)]⟩)],c7⟩)] f0 Tryz.func159
def RP:FT (C70 L):=kf [(506,⟨[],[(2,⟨[(2,true,.box 35 (abx amj [(3,.r 3)]))],[],[]⟩)],c6 ⟨[(2,true,.box 35 (abx amj [(3,.r 3),(5,.r 4)]))],[(100002,[5],.aap 120 32)],[(31,.v 3)]⟩⟩),(4090,⟨[],[(4,⟨[(2,true,.box 35 (abx amj [(3,.r 3)]))],[],[]⟩)],c6 ⟨[(2,true,.box 35 (abx amj [(3,.r 3),(8,.r 4)]))],[(100002,[8],.aap 22 33)],[(58,.v 3)]⟩⟩),(64819,⟨[3],[],c7⟩),(261785,⟨[4],[],c7⟩)] (fc (oh L) (fc (sP L) (fc (O8 L) (fc (iY L) f0)))) j3
def zh:FT (C71 L):=kf [(250,⟨[],[(3,⟨[(2,true,.aap 88 31)],[],[]⟩)],c6 ⟨[(2,true,.aap 88 31)],[],[(36,.v 3)]⟩⟩),(4006,⟨[],[(0,⟨[(2,true,.aap 88 31)],[],[]⟩)],c7⟩),(256411,⟨[],[(0,⟨[(4,true,.box 88 (alh [3,3,3]))],[],[]⟩)],c7⟩)] (fc (xC L) (fc (K5 L) (fc (RP L) (fc (K68 L) f0)))) Tryz.func95
def SU:FT (C73 L):=kf [(58,⟨[],[(2,⟨[],[],[(3,.v 41)]⟩)],c6 ⟨[],[(3,[],.aap 101 41)],[(3,.r 0),(8,.v 3)]⟩⟩),(7475,⟨[2],[],c7⟩)] (fc (iY L) f0) y0
def Xr:FT (Xj L):=kf [(58,⟨[],[(2,⟨[(2,true,.box 140 [.v 22,.v 138])],[],[]⟩)],c6 ⟨[(2,true,.box 140 [.v 22,.r 3])],[(100002,[1],.aap 142 138)],[(13,.v 3)]⟩⟩),(3737,⟨[8],[],c7⟩)] (fc (iY L) f0) qq
def Hc:FT (C75 L):=kf [(58,⟨[],[(2,⟨[(2,true,.box 46 [.v 44])],[],[]⟩)],c6 ⟨[(2,true,.box 46 [.r 3])],[(100002,[0],.aap 140 44)],[(9,.v 3)]⟩⟩),(3737,⟨[4],[],c7⟩)] (fc (Xr L) f0) Tryz.func101
def NB:FT (C77 L):=kf [(262138,⟨[],[(2,⟨[(2,true,.box 56 amv)],[],[]⟩)],c6 ⟨[(2,true,.box 56 (abx amv [(35,.r 3)]))],[(100002,[35],.aap 83 54)],[(104,.v 3)]⟩⟩),(33553715,⟨[3],[],c7⟩)] (fc (zh L) (fc (oh L) (fc (sP L) (fc (G7 L) (fc (iY L) (fc (SU L) (fc (Hc L) (fc (IE L) f0)))))))) s6
def Py:FT (C78 L):=kf [(122,⟨[],[(0,⟨[],[],[(70,.v 4)]⟩)],c7⟩),(2046,⟨[7],[],c7⟩)] (fc (K24 L) (fc (UT L) (fc (KB L) (fc (vO L) (fc (K41 L) (fc (K43 L) (fc (K57 L) (fc (K58 L) (fc (NB L) f0))))))))) Tryz.func36
def K79:FT (C79 L):=kf [] (fc (K5 L) f0) Tryz.func157
def K80:FT (C80 L):=kf [(26,⟨[],[(1,⟨[],[],[(4,.v 3)]⟩),(2,⟨[],[],[]⟩)],c6 ⟨[],[],[(8,.v 3)]⟩⟩)] (fc (K79 L) f0) ee
def K81:FT (C81 L):=kf [] (fc (K80 L) f0) ez
def K82:FT (C82 L):=kf [] f0 Tryz.func224
def K83:FT (Z5 L):=kf [(26,⟨[],[(1,⟨[],[],[(4,.v 3)]⟩),(2,⟨[],[],[]⟩)],c6 ⟨[],[],[(8,.v 3)]⟩⟩)] (fc (K82 L) f0) ee
def K84:FT (C84 L):=kf [] (fc (K83 L) f0) ez
def Mo:FT (Wg L):=kf [] (fc (K84 L) f0) Tryz.func158
def sA:FT (C86 L):=kf [] (fc (OS L) (fc (K81 L) (fc (Mo L) f0))) Tryz.func94
def K87:FT (C87 L):=kf [] (fc (xC L) (fc (K3 L) (fc (sA L) f0))) Tryz.func43
def Ps:FT (C89 L):=kf [(58,⟨[],[(2,⟨[],[(3,[],.aap 3 22)],[(3,.r 1)]⟩)],c6 ⟨[],[(3,[],.aap 3 22)],[(3,.r 1),(9,.v 3)]⟩⟩),(7474,⟨[],[(0,⟨[],[],[(26,.v 4)]⟩)],c7⟩),(7475,⟨[],[(0,⟨[(1,false,.aap 3 22)],[],[(3,.r 1)]⟩)],c7⟩),(14950,⟨[2],[],c7⟩)] (fc (D5 L) f0) Tryz.func161
def Hj:FT (C90 L):=kf [(26,⟨[],[(1,⟨[],[],[(4,.v 3)]⟩),(2,⟨[],[],[]⟩)],c6 ⟨[],[],[(8,.v 3)]⟩⟩)] f0 Tryz.func136
def jP:FT (Fz L):=kf [] (fc (Hj L) f0) Tryz.func76
def K94:FT (nD L):=ae3 L (xC L) (K5 L) (jP L)
def Ru:FT (lT L):=kf [(58,⟨[],[(1,⟨[],[],[(4,.i .i64 19)]⟩),(2,⟨[],[],[]⟩)],c6 ⟨[],[],[(12,.v 3)]⟩⟩)] (fc (xC L) (fc (K5 L) f0)) Tryz.func226
def aiW:FT (mG L):=KS L (Ru L)
def K93:FT (C93 L):=kf [(12,⟨[2],[],c7⟩)] (fc (Ru L) (fc (MB L) (fc (K5 L) (fc (RP L) f0)))) Tryz.func162
def Wv:FT (C95 L):=kf [(58,⟨[],[(2,⟨[],[(3,[],.aap 101 41)],[(3,.r 0)]⟩)],c6 ⟨[],[(3,[],.aap 101 41)],[(3,.r 0),(8,.v 3)]⟩⟩),(7475,⟨[2],[],c7⟩)] (fc (iY L) f0) y0
def vf:FT (JX L):=kf [] (fc (K5 L) (fc (K4 L) f0)) z7
def ZZ:FT (C97 L):=kf [(26,⟨[],[(2,⟨[(0,false,.aap 5 95)],[],[(0,.r 0)]⟩)],c6 ⟨[(0,false,.aap 5 95)],[],[(0,.r 0),(7,.v 3)]⟩⟩),(420,⟨[7],[],c7⟩)] f0 Tryz.func79
def Xd:FT (C98 L):=kf [(62,⟨[5],[],c7⟩),(506,⟨[],[(2,⟨[(3,false,.dead)],[],[(4,.v 95)]⟩)],c6 ⟨[(3,false,.dead)],[(4,[],.aap 5 95)],[(4,.r 4),(30,.v 3)]⟩⟩)] (fc (vf L) (fc (ZZ L) f0)) Tryz.func30
def K99:FT (Ks L):=kf [(58,⟨[],[(2,⟨[],[],[(3,.v 179)]⟩)],c6 ⟨[],[],[(3,.v 179),(8,.v 3)]⟩⟩)] f0 Tryz.func81
def aaH:FT (H7 L):=kf [] f0 Tryz.func82
def afL:FT (kq L):=Yb L (K5 L) (vf L) (K99 L) (aaH L)
def akD:FT (Xc L):=kf [] (fc (K5 L) f0) Tryz.func279
def aiq:FT (adu L):=kf [(26,⟨[],[(1,⟨[],[],[(4,.v 3)]⟩),(2,⟨[],[],[]⟩)],c6 ⟨[],[],[(8,.v 3)]⟩⟩)] (fc (akD L) f0) ee
def ano:FT (ai3 L):=kf [] (fc (aiq L) f0) ez
def ald:FT (Z9 L):=kf [] (fc (K5 L) f0) Tryz.func280
def aqh:FT (afS L):=kf [(26,⟨[],[(1,⟨[],[],[(4,.v 3)]⟩),(2,⟨[],[],[]⟩)],c6 ⟨[],[],[(8,.v 3)]⟩⟩)] (fc (ald L) f0) ee
def an2:FT (aln L):=kf [] (fc (aqh L) f0) ez
def WK:FT (Uu L):=kf [(6,⟨[19],[],c7⟩)] (fc (ano L) (fc (an2 L) f0)) Tryz.func227
def acy:FT (aif L):=kf [(124,⟨[],[(0,⟨[],[],[(40,.v 4)]⟩)],c7⟩)] (fc (WK L) (fc (vf L) (fc (oH L) f0))) Tryz.func164
def aac:FT (anP L):=kf [(506,⟨[],[(2,⟨[],[],[(7,.v 247)]⟩)],c6 ⟨[],[(7,[],.aap 251 247)],[(7,.r 1),(27,.v 3)]⟩⟩),(32409,⟨[14],[],c7⟩)] (fc (vf L) f0) Tryz.func165
def mI:FT (acZ L):=kf [] f0 Tryz.func169
def Bs:FT (IP L):=kf [(58,⟨[],[(1,⟨[],[],[(4,.b false)]⟩),(2,⟨[],[],[]⟩)],c6 ⟨[],[],[(13,.v 3)]⟩⟩)] f0 Tryz.func196
def ah5:FT (ZA L):=kf [] (fc (K5 L) f0) Tryz.func336
def amW:FT (afj L):=kf [(26,⟨[],[(1,⟨[],[],[(4,.v 3)]⟩),(2,⟨[],[],[]⟩)],c6 ⟨[],[],[(8,.v 3)]⟩⟩)] (fc (ah5 L) f0) ee
def akT:FT (akW L):=kf [] (fc (amW L) f0) ez
def KO:FT (ab7 L):=kf [] (fc (K5 L) (fc (akT L) f0)) Tryz.func323
def Sw:FT (ahK L):=kf [] (fc (K3 L) (fc (KO L) (fc (QF L) (fc (Bs L) f0)))) Tryz.func290
def Wl:FT (ane L):=kf [] (fc (Sw L) f0) Tryz.func289
def aqy:FT (WA L):=kf [(26,⟨[],[(1,⟨[],[],[(4,.v 3)]⟩),(2,⟨[],[],[]⟩)],c6 ⟨[],[],[(8,.v 3)]⟩⟩)] (fc (Wl L) f0) y1
def ZM:FT (aiv L):=kf [] (fc (aqy L) f0) y2
def aeY:FT (ZD L):=kf [] f0 Tryz.func307
def Og:FT (afm L):=kf [] (fc (aeY L) f0) Tryz.func266
def Qb:FT (akZ L):=kf [(26,⟨[],[(1,⟨[],[],[(4,.v 3)]⟩),(2,⟨[],[],[]⟩)],c6 ⟨[],[],[(11,.v 3)]⟩⟩)] (fc (Og L) f0) Tryz.func288
def wY:FT (aca L):=kf [(12,⟨[],[(0,⟨[],[],[(17,.v 4)]⟩)],c7⟩),(122,⟨[],[(1,⟨[],[],[(4,.b false)]⟩),(2,⟨[],[],[]⟩)],c6 ⟨[],[],[(28,.v 3)]⟩⟩),(31332,⟨[],[(0,⟨[],[],[(33,.v 4)]⟩)],c7⟩),(501342,⟨[],[(0,⟨[],[],[(62,.v 4)]⟩)],c7⟩)] (fc (K3 L) (fc (K5 L) (fc (HI L) (fc (Iv L) (fc (PY L) (fc (Bs L) (fc (Qb L) (fc (ZM L) f0)))))))) Tryz.func235
def Rb:FT (ahM L):=kf [(24,⟨[],[(0,⟨[],[],[(11,.v 4)]⟩)],c7⟩),(102,⟨[],[(0,⟨[],[],[(30,.v 4)]⟩)],c7⟩)] (fc (Sw L) (fc (K4 L) (fc (K5 L) f0))) Tryz.func281
def aii:FT (ani L):=kf [(250,⟨[],[(2,⟨[(3,true,.aap 3 22)],[],[(14,.v 4)]⟩)],c6 ⟨[(3,true,.aap 3 22)],[],[(14,.v 4),(36,.v 3)]⟩⟩),(32051,⟨[],[(0,⟨[(3,true,.aap 3 22)],[],[(14,.v 4)]⟩)],c7⟩)] (fc (Rb L) (fc (RR L) (fc (Cy L) f0))) Tryz.func230
def yz:FT (HG L):=kf [(58,⟨[],[(2,⟨[(2,true,.box 140 [.v 22,.r 3])],[(100002,[1],.aap 142 138)],[]⟩)],c6 ⟨[(2,true,.box 140 [.v 22,.r 3])],[(100002,[1],.aap 142 138)],[(13,.v 3)]⟩⟩),(3737,⟨[8],[],c7⟩)] (fc (iY L) f0) qq
def VK:FT (aj2 L):=kf [] (fc (aii L) f0) Tryz.func229
def ap7:FT (apN L):=kf [(250,⟨[],[(1,⟨[(0,true,.box 30 [.v 27,.v 28]),(1,true,.box 22 [.v 22]),(2,true,.box 3 [.v 3]),(3,true,.box 3 [.v 3]),(6,true,.box 46 [.v 44]),(7,false,.dead)],[],[(9,.v 67)]⟩),(2,⟨[(0,true,.box 30 [.v 27,.v 28]),(1,true,.box 22 [.v 22]),(2,true,.box 3 [.v 3]),(3,true,.box 3 [.v 3]),(7,true,.box 46 [.v 44])],[],[]⟩)],c6 ⟨[(0,true,.box 30 [.v 27,.v 28]),(1,true,.box 22 [.v 22]),(2,true,.box 3 [.v 3]),(3,true,.box 3 [.v 3]),(7,true,.box 46 [.r 8])],[(100007,[0],.aap 140 44)],[(34,.v 3)]⟩⟩),(4006,⟨[],[(0,⟨[(0,true,.box 30 [.v 27,.v 28]),(1,true,.box 22 [.v 22]),(2,true,.box 3 [.v 3]),(3,true,.box 3 [.v 3]),(7,true,.box 46 [.r 8]),(8,false,.aap 140 44)],[],[]⟩),(1,⟨[(0,true,.box 30 [.v 27,.v 28]),(1,true,.box 22 [.v 22]),(2,true,.box 3 [.v 3]),(3,true,.box 3 [.v 3]),(6,true,.box 46 [.v 44])],[],[(9,.v 67)]⟩)],c7⟩),(256414,⟨[],[(0,⟨[(10,false,.dead),(11,true,.box 140 [.v 22,.v 138])],[],[]⟩),(1,⟨[(6,true,.box 46 [.v 44]),(10,false,.dead),(11,false,.dead)],[],[(9,.v 67)]⟩),(3,⟨[(10,false,.dead),(11,false,.dead)],[],[]⟩)],c7⟩),(256415,⟨[3],[],c7⟩),(4102633,⟨[],[(0,⟨[],[],[(55,.v 4)]⟩)],c7⟩),(32821087,⟨[],[(0,⟨[(10,true,.aap 142 138)],[],[]⟩)],c7⟩)] (fc (wY L) (fc (jP L) (fc (Hj L) (fc (yz L) (fc (VK L) f0))))) y3
def Zr:FT (ZF L):=kf [] (fc (ap7 L) f0) Tryz.func168
def zQ:FT (aki L):=kf [] f0 Tryz.func173
def aci:FT (acb L):=kf [(122,⟨[],[(3,⟨[(2,true,.aap 115 28)],[],[]⟩)],c6 ⟨[(2,true,.aap 115 28)],[],[(32,.v 3)]⟩⟩)] (fc (K3 L) (fc (K4 L) (fc (oh L) (fc (yo L) f0)))) y4
def ahh:FT (apu L):=kf [(122,⟨[],[(3,⟨[(3,true,.aap 115 28)],[],[]⟩)],c6 ⟨[(3,true,.aap 115 28)],[],[(32,.v 3)]⟩⟩)] (fc (K3 L) (fc (K4 L) (fc (akq L) (fc (yo L) f0)))) y4
def Ch:FT (aez L):=kf [] (fc (ahh L) f0) Tryz.func174
def ajX:FT (Uz L):=kf [] (fc (vf L) f0) Tryz.func283
def ahU:FT (abd L):=kf [(26,⟨[],[(1,⟨[],[],[(4,.v 3)]⟩),(2,⟨[],[],[]⟩)],c6 ⟨[],[],[(8,.v 3)]⟩⟩)] (fc (ajX L) f0) Tryz.func321
def amJ:FT (agV L):=kf [] (fc (ahU L) f0) Tryz.func282
def akJ:FT (Xm L):=kf [(86,⟨[6],[],c7⟩)] f0 y5
def apE:FT (adF L):=kf [] f0 Tryz.func285
def YT:FT (an9 L):=kf [(86,⟨[6],[],c7⟩)] f0 y5
def V9:FT (X2 L):=kf [(414,⟨[],[(0,⟨[],[],[(24,.v 4)]⟩)],c7⟩),(510,⟨[1],[],c7⟩),(1018,⟨[],[(3,⟨[(0,true,.box 3 [.v 3]),(1,true,.box 3 [.v 3]),(2,true,.box 120 (alh [22,3,3,3])),(3,true,.box 309 [.r 5]),(4,true,.box 41 [.v 41])],[(100003,[0],.aap 312 309)],[]⟩)],c6 ⟨[(0,true,.box 3 [.v 3]),(1,true,.box 3 [.v 3]),(2,true,.box 120 (alh [22,3,3,3])),(3,true,.box 309 [.r 5]),(4,true,.box 41 [.r 6])],[(100003,[0],.aap 312 309),(100004,[0],.aap 101 41)],[(44,.v 3)]⟩⟩),(16294,⟨[],[(0,⟨[(0,true,.box 3 [.v 3]),(1,true,.box 3 [.v 3]),(2,true,.box 120 (alh [22,3,3,3])),(3,true,.box 309 [.r 7]),(4,true,.box 41 [.r 8]),(5,false,.dead),(6,false,.dead)],[(100003,[0],.aap 312 309),(100004,[0],.aap 101 41)],[]⟩)],c7⟩),(521423,⟨[2],[],c7⟩),(2085690,⟨[],[(0,⟨[],[],[(72,.v 4)]⟩)],c7⟩),(2085691,⟨[],[(0,⟨[(0,true,.box 3 [.v 3]),(1,true,.box 3 [.v 3]),(2,true,.box 120 (alh [22,3,3,3])),(3,true,.box 309 [.r 8]),(4,true,.box 41 [.r 9]),(5,false,.dead),(6,false,.dead)],[(100003,[0],.aap 312 309),(100004,[0],.aap 101 41)],[]⟩)],c7⟩)] (fc (amJ L) (fc (K5 L) (fc (jP L) (fc (YT L) (fc (apE L) (fc (akJ L) f0)))))) Tryz.func231
def abW:FT (ad1 L):=kf [] f0 Tryz.func234
def ZC:FT (aqG L):=kf [] (fc (jP L) f0) Tryz.func322
def aeH:FT (aaz L):=kf [(6,⟨[],[(0,⟨[],[],[(27,.v 4)]⟩)],c7⟩)] (fc (ZC L) f0) xv
def acC:FT (agm L):=kf [(14,⟨[],[(2,⟨[(0,true,.aap 3 22),(1,true,.box 22 [.r 0]),(2,true,.box 4 [.v 4])],[],[]⟩)],c6 ⟨[(0,true,.aap 3 22),(1,true,.box 22 [.r 0]),(2,true,.box 4 [.v 4])],[],[(16,.v 3)]⟩⟩),(3686,⟨[],[(4,⟨[(0,true,.aap 3 22),(1,true,.box 22 [.r 0]),(2,true,.box 4 [.v 4])],[],[]⟩)],c6 ⟨[(0,true,.aap 3 22),(1,true,.box 22 [.r 0]),(2,true,.box 4 [.v 4])],[],[(22,.v 3)]⟩⟩),(1887437,⟨[],[(0,⟨[],[],[(10,.v 3),(11,.v 3)]⟩)],c7⟩),(3774878,⟨[],[(0,⟨[],[],[(44,.v 4)]⟩)],c7⟩),(3774879,⟨[],[(0,⟨[(0,true,.aap 3 22),(1,true,.box 22 [.r 0]),(2,true,.box 4 [.v 4])],[],[]⟩)],c7⟩)] (fc (Fo L) (fc (aeH L) f0)) xx
def ahB:FT (WE L):=kf [(58,⟨[],[(2,⟨[(3,true,.aap 3 22),(4,true,.box 22 [.r 3]),(5,false,.dead)],[],[]⟩)],c6 ⟨[(3,true,.aap 3 22),(4,true,.box 22 [.r 3]),(5,false,.dead)],[(10,[],.box 4 [.v 4])],[(10,.p 6)]⟩⟩)] (fc (oH L) (fc (acC L) f0)) q8
def amf:FT (ac6 L):=kf [(122,⟨[],[(3,⟨[(4,true,.aap 3 22)],[],[]⟩)],c6 ⟨[(4,true,.aap 3 22)],[],[(55,.v 3)]⟩⟩),(126,⟨[4],[],c7⟩)] (fc (Rb L) (fc (K5 L) (fc (oH L) (fc (ahB L) (fc (Cy L) f0))))) Tryz.func287
def akb:FT (aiE L):=kf [] (fc (amf L) f0) Tryz.func286
def ao8:FT (WU L):=kf [(250,⟨[],[(1,⟨[(0,true,.box 30 [.v 27,.v 28]),(1,true,.box 22 [.v 22]),(2,true,.box 3 [.v 3]),(3,true,.box 3 [.v 3]),(4,true,.box 3 [.v 3]),(7,true,.box 46 [.v 44]),(8,false,.dead)],[],[(9,.v 67)]⟩),(2,⟨[(0,true,.box 30 [.v 27,.v 28]),(1,true,.box 22 [.v 22]),(2,true,.box 3 [.v 3]),(3,true,.box 3 [.v 3]),(4,true,.box 3 [.v 3]),(8,true,.box 46 [.v 44])],[],[]⟩)],c6 ⟨[(0,true,.box 30 [.v 27,.v 28]),(1,true,.box 22 [.v 22]),(2,true,.box 3 [.v 3]),(3,true,.box 3 [.v 3]),(4,true,.box 3 [.v 3]),(8,true,.box 46 [.r 9])],[(100008,[0],.aap 140 44)],[(34,.v 3)]⟩⟩),(4006,⟨[],[(0,⟨[(0,true,.box 30 [.v 27,.v 28]),(1,true,.box 22 [.v 22]),(2,true,.box 3 [.v 3]),(3,true,.box 3 [.v 3]),(4,true,.box 3 [.v 3]),(8,true,.box 46 [.r 9]),(9,false,.aap 140 44)],[],[]⟩),(1,⟨[(0,true,.box 30 [.v 27,.v 28]),(1,true,.box 22 [.v 22]),(2,true,.box 3 [.v 3]),(3,true,.box 3 [.v 3]),(4,true,.box 3 [.v 3]),(7,true,.box 46 [.v 44])],[],[(9,.v 67)]⟩)],c7⟩),(256414,⟨[],[(0,⟨[(11,false,.dead),(12,true,.box 140 [.v 22,.v 138])],[],[]⟩),(1,⟨[(7,true,.box 46 [.v 44]),(11,false,.dead),(12,false,.dead)],[],[(9,.v 67)]⟩),(3,⟨[(11,false,.dead),(12,false,.dead)],[],[]⟩)],c7⟩),(256415,⟨[3],[],c7⟩),(4102633,⟨[],[(0,⟨[],[],[(55,.v 4)]⟩)],c7⟩),(32821087,⟨[],[(0,⟨[(11,true,.aap 142 138)],[],[]⟩)],c7⟩)] (fc (wY L) (fc (jP L) (fc (Hj L) (fc (yz L) (fc (akb L) f0))))) y3
def am2:FT (adl L):=kf [] (fc (ao8 L) f0) Tryz.func233
def Vt:FT (Wu L):=kf [] (fc (abW L) (fc (am2 L) f0)) Tryz.func232
def apW:FT (akC L):=kf [] f0 Tryz.func206
def Zf:FT (aqf L):=kf [(58,⟨[],[(2,⟨[],[(5,[],.aap 3 22)],[(5,.r 0)]⟩)],c6 ⟨[],[(5,[],.aap 3 22)],[(5,.r 0),(8,.v 3)]⟩⟩),(7475,⟨[],[(0,⟨[(0,false,.aap 3 22)],[],[(5,.r 0)]⟩)],c7⟩),(14950,⟨[2],[],c7⟩)] (fc (apW L) f0) m0
def HE:FT (ahy L):=kf [] (fc (Zf L) f0) Tryz.func132
def ab9:FT (amV L):=kf [] (fc (jP L) f0) Tryz.func291
def ag4:FT (Wj L):=kf [(26,⟨[],[(1,⟨[],[],[(4,.v 3)]⟩),(2,⟨[],[],[]⟩)],c6 ⟨[],[],[(8,.v 3)]⟩⟩)] (fc (ab9 L) f0) ee
def ae1:FT (ajO L):=kf [] (fc (ag4 L) f0) ez
def ajR:FT (apj L):=kf [] (fc (HE L) (fc (ae1 L) f0)) Tryz.func237
def aoH:FT (Zp L):=kf [(12,⟨[],[(0,⟨[],[],[(13,.v 4)]⟩)],c7⟩)] (fc (iY L) f0) Tryz.func238
def amw:FT (ae9 L):=kf [(58,⟨[],[(2,⟨[(3,true,.box 140 [.r 2,.r 4])],[(100003,[1],.aap 142 138)],[]⟩)],c6 ⟨[(3,true,.box 140 [.r 2,.r 4])],[(100003,[1],.aap 142 138)],[(13,.v 3)]⟩⟩),(3737,⟨[6,8],[],c7⟩)] (fc (oH L) (fc (iY L) f0)) qq
def U1:FT (Hy L):=kf [(122,⟨[],[(2,⟨[(3,true,.box 142 [.v 3,.v 22])],[],[]⟩)],c6 ⟨[(3,true,.box 142 [.v 3,.r 4])],[(100003,[1],.aap 3 22)],[(26,.v 3)]⟩⟩),(7833,⟨[9],[],c7⟩)] f0 Tryz.func295
def apn:FT (ajx L):=kf [] (fc (Qb L) f0) Tryz.func294
def YA:FT (ao7 L):=kf [(6,⟨[],[(2,⟨[(0,true,.aap 140 44)],[],[]⟩)],c6 ⟨[(0,true,.aap 140 44)],[],[(8,.v 3)]⟩⟩),(402,⟨[],[(4,⟨[(0,true,.aap 140 44)],[],[]⟩)],c6 ⟨[(0,true,.aap 140 44)],[],[(9,.v 3)]⟩⟩),(3216,⟨[],[(0,⟨[],[],[(34,.v 4)]⟩)],c7⟩)] (fc (apn L) f0) Tryz.func342
def VS:FT (Zd L):=kf [(28,⟨[],[(2,⟨[(0,true,.aap 140 44)],[],[(7,.v 3)]⟩)],c6 ⟨[(0,true,.aap 140 44)],[],[(7,.v 3),(8,.v 3)]⟩⟩),(62,⟨[],[(4,⟨[],[],[]⟩)],c6 ⟨[],[],[(6,.v 3)]⟩⟩),(3988,⟨[],[(6,⟨[],[],[(7,.i .i64 0)]⟩)],c6 ⟨[],[],[(7,.i .i64 0),(8,.v 3)]⟩⟩)] (fc (YA L) f0) Tryz.func338
def abL:FT (alM L):=kf [] (fc (VS L) f0) Tryz.func325
def agA:FT (adP L):=kf [] (fc (U9 L) f0) Tryz.func324
def aeu:FT (xI L):=kf [] (fc (agA L) (fc (abL L) f0)) Tryz.func292
def QO:FT (uY L):=UK L (Bs L) (U1 L) (yz L) (aeu L)
def ahn:FT (aa5 L):=kf [(120,⟨[],[(0,⟨[],[],[(34,.v 4)]⟩)],c7⟩),(506,⟨[],[(3,⟨[(3,false,.dead)],[],[(13,.v 44)]⟩)],c6 ⟨[(3,false,.aap 140 44)],[],[(13,.r 3),(62,.v 3)]⟩⟩),(8102,⟨[],[(0,⟨[(3,false,.aap 140 44)],[],[(13,.r 3)]⟩)],c7⟩),(518558,⟨[],[(0,⟨[(5,false,.dead),(6,false,.dead),(7,true,.box 140 [.v 22,.v 138])],[],[]⟩)],c7⟩),(518559,⟨[2],[],c7⟩),(2074234,⟨[],[(5,⟨[(6,true,.aap 142 138)],[],[]⟩)],c6 ⟨[(6,true,.aap 142 138)],[],[(102,.v 3)]⟩⟩),(531004007,⟨[],[(0,⟨[(6,true,.aap 142 138)],[],[]⟩)],c7⟩)] (fc (wY L) (fc (K5 L) (fc (apm L) (fc (ajR L) (fc (amw L) (fc (aoH L) (fc (QO L) f0))))))) Tryz.func172
def al4:FT (agN L):=kf [] (fc (K5 L) f0) Tryz.func296
def aj1:FT (Xf L):=kf [(26,⟨[],[(1,⟨[],[],[(4,.v 3)]⟩),(2,⟨[],[],[]⟩)],c6 ⟨[],[],[(8,.v 3)]⟩⟩)] (fc (al4 L) f0) ee
def aoX:FT (ady L):=kf [] (fc (aj1 L) f0) ez
def My:FT (ai6 L):=kf [] (fc (K3 L) (fc (K5 L) (fc (aoX L) f0))) Tryz.func241
def Vg:FT (aag L):=kf [(12,⟨[],[(0,⟨[],[],[(43,.v 4)]⟩)],c7⟩),(28,⟨[],[(0,⟨[],[],[(52,.v 4)]⟩)],c7⟩),(250,⟨[],[(2,⟨[(4,true,.aap 3 22)],[],[]⟩)],c6 ⟨[(4,true,.aap 3 22)],[],[(61,.v 3)]⟩⟩),(506,⟨[],[(4,⟨[(4,true,.aap 3 22)],[],[]⟩)],c6 ⟨[(4,true,.aap 3 22)],[],[(76,.v 3)]⟩⟩),(129636,⟨[],[(0,⟨[],[],[(98,.v 4)]⟩)],c7⟩),(129637,⟨[],[(0,⟨[(4,true,.aap 3 22)],[],[]⟩)],c7⟩),(129638,⟨[],[(0,⟨[],[],[(121,.v 4)]⟩)],c7⟩),(129639,⟨[],[(0,⟨[(4,true,.aap 3 22)],[],[]⟩)],c7⟩)] (fc (Aq L) (fc (My L) (fc (Ja L) (fc (DW L) f0)))) y6
def aa7:FT (aao L):=kf [(14,⟨[0],[],c7⟩),(122,⟨[],[(3,⟨[(2,true,.aap 3 22)],[],[]⟩)],c6 ⟨[(2,true,.aap 3 22)],[],[(40,.v 3)]⟩⟩)] (fc (Aq L) (fc (K4 L) (fc (K5 L) (fc (Ca L) (fc (DW L) f0))))) A3
def YV:FT (agb L):=kf [(26,⟨[],[(1,⟨[],[],[(2,.b false)]⟩),(2,⟨[],[],[]⟩)],c6 ⟨[],[],[(14,.v 3)]⟩⟩),(28,⟨[],[(0,⟨[],[],[(30,.v 4)]⟩)],c7⟩)] (fc (K5 L) f0) Tryz.func204
def ad8:FT (alz L):=kf [(58,⟨[],[(1,⟨[],[],[(2,.v 3)]⟩),(2,⟨[],[],[]⟩)],c6 ⟨[],[],[(8,.v 3)]⟩⟩)] f0 Tryz.func265
def QI:FT (acX L):=kf [(6,⟨[10],[],c7⟩)] (fc (Og L) (fc (ad8 L) f0)) Tryz.func205
def PS:FT (air L):=kf [(58,⟨[],[(1,⟨[],[],[(2,.b false)]⟩),(2,⟨[],[],[]⟩)],c6 ⟨[],[],[(10,.v 3)]⟩⟩),(7474,⟨[],[(0,⟨[],[],[(35,.v 4)]⟩)],c7⟩)] (fc (YV L) (fc (QI L) f0)) Tryz.func131
def alA:FT (an4 L):=kf [(60,⟨[],[(2,⟨[],[],[(9,.v 3)]⟩)],c6 ⟨[],[],[(9,.v 3),(10,.v 3)]⟩⟩),(1931,⟨[],[(0,⟨[],[],[(9,.v 3),(10,.v 3)]⟩)],c7⟩)] (fc (QI L) f0) Tryz.func243
def QV:FT (anE L):=kf [(28,⟨[],[(0,⟨[],[],[(32,.v 4)]⟩)],c7⟩),(124,⟨[],[(0,⟨[],[],[(65,.v 4)]⟩)],c7⟩)] (fc (PS L) (fc (K5 L) (fc (alA L) (fc (anc L) (fc (ail L) f0))))) Tryz.func176
def aoy:FT (acP L):=kf [] f0 Tryz.func177
def amk:FT (ana L):=kf [(26,⟨[],[(1,⟨[],[],[(4,.v 3)]⟩),(2,⟨[],[],[]⟩)],c6 ⟨[],[],[(8,.v 3)]⟩⟩)] (fc (aoy L) f0) qa
def UO:FT (acj L):=kf [] (fc (amk L) f0) qb
def aaI:FT (ahX L):=kf [] (fc (iY L) f0) y7
def Ym:FT (anr L):=kf [(6,⟨[5],[],c7⟩)] (fc (iY L) (fc (oH L) f0)) y7
def BU:FT (aeI L):=kf [(414,⟨[],[(0,⟨[],[],[(25,.v 4)]⟩)],c7⟩)] (fc (sA L) (fc (K5 L) (fc (Ym L) f0))) Tryz.func245
def abr:FT (akc L):=kf [] (fc (BU L) f0) Tryz.func178
def ags:FT (apX L):=kf [] (fc (BU L) f0) Tryz.func179
def aek:FT (ag5 L):=kf [] f0 Tryz.func180
def ai9:FT (amy L):=kf [(26,⟨[],[(1,⟨[],[],[(4,.v 3)]⟩),(2,⟨[],[],[]⟩)],c6 ⟨[],[],[(8,.v 3)]⟩⟩)] (fc (aek L) f0) ee
def an5:FT (VU L):=kf [] (fc (ai9 L) f0) ez
def RQ:FT (acp L):=kf [(102,⟨[],[(0,⟨[],[],[(12,.v 4)]⟩)],c7⟩)] (fc (sA L) (fc (Mo L) (fc (aaI L) f0))) Tryz.func246
def Um:FT (aoY L):=kf [] (fc (RQ L) f0) Tryz.func181
def aoL:FT (YW L):=kf [] f0 Tryz.func249
def Xx:FT (aeR L):=kf [(26,⟨[],[(1,⟨[],[],[(4,.v 3)]⟩),(2,⟨[],[],[]⟩)],c6 ⟨[],[],[(8,.v 3)]⟩⟩)] (fc (aoL L) f0) y1
def U5:FT (UQ L):=kf [] (fc (Xx L) f0) y2
def aaV:FT (abu L):=kf [] (fc (U5 L) f0) Tryz.func247
def afX:FT (ag9 L):=kf [(26,⟨[],[(1,⟨[],[],[(4,.v 3)]⟩),(2,⟨[],[],[]⟩)],c6 ⟨[],[],[(8,.v 3)]⟩⟩)] (fc (aaV L) f0) ng
def adW:FT (Xy L):=kf [] (fc (afX L) f0) o8
def aiN:FT (adY L):=kf [(12,⟨[],[(0,⟨[],[],[(16,.v 4)]⟩)],c7⟩),(28,⟨[],[(0,⟨[],[],[(25,.v 4)]⟩)],c7⟩)] (fc (K3 L) (fc (KO L) (fc (QF L) f0))) y8
def agC:FT (ajq L):=kf [(12,⟨[],[(0,⟨[],[],[(16,.v 4)]⟩)],c7⟩),(28,⟨[],[(0,⟨[],[],[(25,.v 4)]⟩)],c7⟩)] (fc (K3 L) (fc (KO L) (fc (Cy L) f0))) y8
def alq:FT (aaw L):=kf [(6,⟨[0],[],c7⟩),(58,⟨[],[(2,⟨[(3,true,.aap 3 22)],[],[]⟩)],c6 ⟨[(3,true,.aap 3 22)],[],[(20,.v 3)]⟩⟩)] (fc (Ca L) (fc (HE L) (fc (agC L) f0))) Tryz.func250
def aqC:FT (agj L):=kf [(252,⟨[],[(0,⟨[],[],[(44,.v 4)]⟩)],c7⟩),(2042,⟨[],[(1,⟨[(3,true,.box 46 [.v 44])],[],[(9,.v 67)]⟩),(2,⟨[],[],[(13,.v 44)]⟩)],c6 ⟨[],[(13,[],.aap 140 44)],[(13,.r 5),(49,.v 3)]⟩⟩),(522854,⟨[],[(0,⟨[(7,false,.dead),(8,true,.box 140 [.v 22,.v 138])],[],[]⟩),(1,⟨[(3,true,.box 46 [.v 44]),(7,false,.dead),(8,false,.dead)],[],[(9,.v 67)]⟩)],c7⟩),(522855,⟨[2],[],c7⟩),(2091418,⟨[],[(1,⟨[(3,true,.box 46 [.v 44]),(7,false,.dead)],[],[(9,.v 67)]⟩),(4,⟨[(7,true,.aap 142 138)],[],[]⟩)],c6 ⟨[(7,true,.aap 142 138)],[],[(58,.v 3)]⟩⟩)] (fc (wY L) (fc (aci L) (fc (adW L) (fc (yz L) (fc (alq L) (fc (QO L) f0)))))) Tryz.func182
def SK:FT (alE L):=kf [] f0 Tryz.func258
def W0:FT (ac3 L):=kf [] (fc (K5 L) f0) Tryz.func261
def Uy:FT (aiB L):=kf [(26,⟨[],[(1,⟨[],[],[(4,.v 3)]⟩),(2,⟨[],[],[]⟩)],c6 ⟨[],[],[(8,.v 3)]⟩⟩)] (fc (W0 L) f0) ee
def aau:FT (aoa L):=kf [] (fc (Uy L) f0) ez
def MA:FT (X4 L):=kf [(26,⟨[],[(1,⟨[],[],[(4,.b false)]⟩),(2,⟨[],[],[]⟩)],c6 ⟨[],[],[(12,.v 3)]⟩⟩),(6758,⟨[],[(1,⟨[],[],[(4,.b false)]⟩),(4,⟨[],[],[]⟩)],c6 ⟨[],[],[(19,.v 3)]⟩⟩)] (fc (aau L) f0) Tryz.func198
def ado:FT (ak1 L):=kf [] (fc (vO L) (fc (sA L) (fc (MA L) f0))) Tryz.func302
def IN:FT (aqH L):=kf [(414,⟨[],[(0,⟨[],[],[(19,.v 4)]⟩)],c7⟩),(6654,⟨[],[(0,⟨[],[],[(33,.v 4)]⟩)],c7⟩),(26622,⟨[],[(0,⟨[],[],[(49,.v 4)]⟩)],c7⟩)] (fc (vO L) (fc (SK L) (fc (sA L) (fc (ado L) f0)))) Tryz.func251
def agi:FT (aaC L):=kf [] (fc (IN L) f0) Tryz.func183
def ak7:FT (anl L):=kf [(12,⟨[],[(0,⟨[],[],[(14,.v 67)]⟩)],c7⟩)] (fc (IN L) f0) Tryz.func184
def ai1:FT (WH L):=kf [] (fc (IN L) f0) Tryz.func185
def anT:FT (ah3 L):=kf [(506,⟨[],[(2,⟨[(2,true,.box 35 (abx amj [(1,.r 3),(3,.r 4)]))],[],[]⟩)],c6 ⟨[(2,true,.box 35 (abx amj [(1,.r 3),(3,.r 4),(5,.r 5)]))],[(100002,[5],.aap 120 32)],[(31,.v 3)]⟩⟩),(4090,⟨[],[(4,⟨[(2,true,.box 35 (abx amj [(1,.r 3),(3,.r 4)]))],[],[]⟩)],c6 ⟨[(2,true,.box 35 (abx amj [(1,.r 3),(3,.r 4),(8,.r 5)]))],[(100002,[8],.aap 22 33)],[(58,.v 3)]⟩⟩),(64819,⟨[3],[],c7⟩),(261785,⟨[4],[],c7⟩)] (fc (oh L) (fc (yo L) (fc (O8 L) (fc (iY L) f0)))) j3
def RN:FT (anx L):=kf [(102,⟨[],[(0,⟨[],[],[(14,.v 4)]⟩)],c7⟩),(250,⟨[],[(3,⟨[(3,true,.aap 88 31)],[],[]⟩)],c6 ⟨[(3,true,.aap 88 31)],[],[(44,.v 3)]⟩⟩),(32051,⟨[],[(0,⟨[(3,true,.aap 88 31)],[],[]⟩)],c7⟩)] (fc (xC L) (fc (K5 L) (fc (anT L) f0))) Tryz.func186
def Lh:FT (afu L):=kf [(12,⟨[],[(0,⟨[],[],[(26,.v 4)]⟩)],c7⟩),(250,⟨[],[(1,⟨[(2,true,.box 46 [.v 44]),(3,false,.dead)],[],[(7,.v 67)]⟩),(2,⟨[(3,true,.box 46 [.v 44])],[],[(9,.v 67)]⟩)],c6 ⟨[(3,true,.box 46 [.r 4])],[(100003,[0],.aap 140 44)],[(9,.v 67),(31,.v 3)]⟩⟩),(64102,⟨[],[(0,⟨[(6,false,.dead),(7,true,.box 140 [.v 22,.v 138])],[],[(9,.v 67)]⟩),(1,⟨[(2,true,.box 46 [.v 44]),(6,false,.dead),(7,false,.dead)],[],[(7,.v 67)]⟩)],c7⟩),(64103,⟨[3],[],c7⟩),(256410,⟨[],[(1,⟨[(2,true,.box 46 [.v 44]),(6,false,.dead)],[],[(7,.v 67)]⟩),(4,⟨[(6,true,.aap 142 138)],[],[(9,.v 67)]⟩)],c6 ⟨[(6,true,.aap 142 138)],[],[(9,.v 67),(40,.v 3)]⟩⟩),(262564253,⟨[],[(0,⟨[],[],[(9,.v 67)]⟩)],c7⟩)] (fc (K3 L) (fc (K5 L) (fc (yz L) (fc (aiN L) f0)))) Tryz.func252
def Z2:FT (VF L):=kf [(12,⟨[],[(0,⟨[],[],[(43,.v 4)]⟩)],c7⟩),(28,⟨[],[(0,⟨[],[],[(52,.v 4)]⟩)],c7⟩),(250,⟨[],[(2,⟨[(5,true,.aap 3 22)],[],[]⟩)],c6 ⟨[(5,true,.aap 3 22)],[],[(61,.v 3)]⟩⟩),(506,⟨[],[(4,⟨[(5,true,.aap 3 22)],[],[]⟩)],c6 ⟨[(5,true,.aap 3 22)],[],[(76,.v 3)]⟩⟩),(129636,⟨[],[(0,⟨[],[],[(98,.v 4)]⟩)],c7⟩),(129637,⟨[],[(0,⟨[(5,true,.aap 3 22)],[],[]⟩)],c7⟩),(129638,⟨[],[(0,⟨[],[],[(121,.v 4)]⟩)],c7⟩),(129639,⟨[],[(0,⟨[(5,true,.aap 3 22)],[],[]⟩)],c7⟩)] (fc (Aq L) (fc (My L) (fc (Ja L) (fc (DW L) f0)))) y6
def Xl:FT (ach L):=kf [] f0 Tryz.func47
def ac2:FT (ahS L):=kf [(58,⟨[],[(2,⟨[],[(5,[],.aap 3 22)],[(5,.r 0)]⟩)],c6 ⟨[],[(5,[],.aap 3 22)],[(5,.r 0),(8,.v 3)]⟩⟩),(7475,⟨[],[(0,⟨[(0,false,.aap 3 22)],[],[(5,.r 0)]⟩)],c7⟩),(14950,⟨[2],[],c7⟩)] (fc (Xl L) f0) m0
def Nz:FT (YP L):=kf [] (fc (ac2 L) f0) Tryz.func16
def afM:FT (aeF L):=kf [] (fc (jP L) f0) Tryz.func303
def akM:FT (aj8 L):=kf [(26,⟨[],[(1,⟨[],[],[(4,.v 3)]⟩),(2,⟨[],[],[]⟩)],c6 ⟨[],[],[(8,.v 3)]⟩⟩)] (fc (afM L) f0) ee
def aiz:FT (apU L):=kf [] (fc (akM L) f0) ez
def ant:FT (ag1 L):=kf [(230,⟨[],[(0,⟨[],[],[(23,.v 4)]⟩)],c7⟩),(250,⟨[],[(3,⟨[(3,true,.aap 115 28)],[],[]⟩)],c6 ⟨[(3,true,.aap 115 28)],[],[(49,.v 3)]⟩⟩),(506,⟨[],[(5,⟨[(3,true,.aap 115 28)],[],[]⟩)],c6 ⟨[(3,true,.aap 115 28)],[],[(61,.v 3)]⟩⟩)] (fc (K3 L) (fc (K4 L) (fc (aiz L) (fc (oh L) (fc (yo L) f0))))) Tryz.func253
def ali:FT (amt L):=kf [(24,⟨[],[(0,⟨[],[],[(11,.v 4)]⟩)],c7⟩),(102,⟨[],[(0,⟨[],[],[(22,.v 4)]⟩)],c7⟩)] (fc (KB L) (fc (wY L) (fc (K5 L) f0))) Tryz.func254
def aqo:FT (VL L):=kf [] (fc (K5 L) f0) Tryz.func50
def an8:FT (ajl L):=kf [(26,⟨[],[(1,⟨[],[],[(4,.v 3)]⟩),(2,⟨[],[],[]⟩)],c6 ⟨[],[],[(8,.v 3)]⟩⟩)] (fc (aqo L) f0) ng
def WR:FT (aoT L):=kf [] (fc (an8 L) f0) o8
def acI:FT (YS L):=kf [] (fc (WR L) f0) Tryz.func48
def aai:FT (aly L):=kf [(58,⟨[],[(2,⟨[],[(5,[],.aap 3 22)],[(5,.r 0)]⟩)],c6 ⟨[],[(5,[],.aap 3 22)],[(5,.r 0),(8,.v 3)]⟩⟩),(7475,⟨[],[(0,⟨[(0,false,.aap 3 22)],[],[(5,.r 0)]⟩)],c7⟩),(14950,⟨[2],[],c7⟩)] (fc (acI L) f0) m0
def Cm:FT (aib L):=kf [] (fc (aai L) f0) Tryz.func17
def adi:FT (ZV L):=kf [(58,⟨[],[(2,⟨[],[],[(3,.v 3)]⟩)],c6 ⟨[],[],[(3,.v 3),(11,.v 3)]⟩⟩),(250,⟨[],[(4,⟨[(0,false,.aap 3 22)],[],[(6,.r 0)]⟩)],c6 ⟨[(0,false,.aap 3 22)],[],[(6,.r 0),(27,.v 3)]⟩⟩)] (fc (abI L) f0) Tryz.func328
def aia:FT (afF L):=kf [] (fc (KB L) (fc (K5 L) f0)) Tryz.func71
def af3:FT (VX L):=kf [] f0 Tryz.func138
def Rr:FT (acv L):=kf [(12,⟨[],[(0,⟨[],[],[(20,.v 4)]⟩)],c7⟩)] (fc (K3 L) (fc (af3 L) (fc (SX L) f0))) Tryz.func77
def SB:FT (YY L):=kf [] f0 Tryz.func75
def Wr:FT (aeU L):=kf [] f0 Tryz.func259
def aqE:FT (akn L):=kf [(58,⟨[],[(2,⟨[(1,true,.aap 275 272)],[],[]⟩)],c6 ⟨[(1,true,.aap 275 272)],[],[(14,.v 3)]⟩⟩),(122,⟨[],[(4,⟨[(1,true,.aap 275 272)],[],[]⟩)],c6 ⟨[(1,true,.aap 275 272)],[],[(5,.v 4)]⟩⟩),(7475,⟨[],[(0,⟨[(1,true,.aap 275 272)],[],[]⟩)],c7⟩),(7830,⟨[],[(6,⟨[(1,true,.aap 275 272)],[],[(5,.v 4)]⟩)],c6 ⟨[(1,true,.aap 275 272)],[],[(5,.v 4),(32,.v 3)]⟩⟩),(2004582,⟨[],[(0,⟨[],[],[(73,.v 4)]⟩)],c7⟩),(2004583,⟨[],[(0,⟨[(1,true,.aap 275 272)],[],[(5,.v 4)]⟩)],c7⟩)] (fc (SB L) (fc (Wr L) f0)) Tryz.func193
def ZW:FT (ap5 L):=kf [] (fc (SB L) f0) Tryz.func194
def W9:FT (ahe L):=kf [(26,⟨[],[(1,⟨[],[],[(4,.v 3)]⟩),(2,⟨[],[],[]⟩)],c6 ⟨[],[],[(8,.v 3)]⟩⟩)] (fc (ZW L) f0) A4
def acT:FT (amH L):=kf [(250,⟨[],[(2,⟨[(2,false,.aap 3 22),(3,false,.dead)],[(4,[],.aap 3 22)],[(4,.r 4),(6,.r 2)]⟩)],c6 ⟨[(2,false,.aap 3 22),(3,false,.dead)],[(4,[],.aap 3 22),(9,[],.box 3 [.v 3])],[(4,.r 4),(6,.r 2),(9,.p 5)]⟩⟩),(16019,⟨[7,11],[],c7⟩)] (fc (aqE L) (fc (W9 L) f0)) Tryz.func117
def Qg:FT (V6 L):=kf [] (fc (jP L) f0) Tryz.func119
def afD:FT (aju L):=kf [(26,⟨[],[(1,⟨[],[],[(4,.v 3)]⟩),(2,⟨[],[],[]⟩)],c6 ⟨[],[],[(8,.v 3)]⟩⟩)] (fc (Qg L) f0) A4
def aky:FT (ao5 L):=kf [(122,⟨[],[(2,⟨[(0,true,.aap 174 167)],[],[(5,.v 3)]⟩)],c6 ⟨[(0,true,.aap 174 167)],[],[(5,.v 3),(6,.v 3)]⟩⟩),(126,⟨[2],[],c7⟩),(7827,⟨[],[(0,⟨[(0,true,.aap 174 167)],[],[(5,.v 3)]⟩)],c7⟩)] (fc (afD L) (fc (Qg L) f0)) Tryz.func118
def aio:FT (Y7 L):=kf [(58,⟨[],[(2,⟨[(3,true,.aap 4 168)],[],[]⟩)],c6 ⟨[(3,true,.aap 4 168)],[],[(31,.v 3)]⟩⟩),(122,⟨[],[(4,⟨[(3,true,.aap 4 168)],[],[]⟩)],c6 ⟨[(3,true,.aap 4 168)],[],[(46,.v 3)]⟩⟩),(250,⟨[],[(6,⟨[(4,true,.aap 4 168)],[],[]⟩)],c6 ⟨[(4,true,.aap 4 168)],[],[(58,.v 3)]⟩⟩),(506,⟨[],[(8,⟨[(5,true,.box 170 [.v 3,.r 6,.r 3,.r 4])],[(100005,[1],.aap 174 167)],[]⟩)],c6 ⟨[(5,true,.box 170 [.v 3,.r 6,.r 3,.r 4])],[(100005,[1],.aap 174 167)],[(70,.v 3)]⟩⟩),(8102,⟨[],[(0,⟨[(5,true,.box 170 [.v 3,.r 6,.r 3,.r 4]),(6,false,.aap 174 167)],[],[]⟩)],c7⟩),(518555,⟨[],[(0,⟨[(5,true,.box 170 [.v 3,.r 6,.r 3,.r 4]),(6,false,.aap 174 167)],[],[]⟩)],c7⟩),(518559,⟨[],[(0,⟨[(5,true,.box 170 [.v 3,.r 6,.r 3,.r 4]),(6,false,.aap 174 167)],[],[]⟩)],c7⟩),(1037110,⟨[9],[],c7⟩),(1037118,⟨[9],[],c7⟩)] (fc (jP L) (fc (Rr L) f0)) Tryz.func72
def Sr:FT (alI L):=kf [(2042,⟨[],[(2,⟨[(5,true,.aap 4 168)],[],[]⟩)],c6 ⟨[(5,true,.aap 4 168)],[],[(46,.v 3)]⟩⟩)] (fc (aia L) (fc (aio L) (fc (acT L) (fc (aky L) f0)))) Tryz.func52
def VW:FT (UY L):=kf [(58,⟨[],[(2,⟨[],[],[(5,.v 3)]⟩)],c6 ⟨[],[],[(5,.v 3),(11,.v 3)]⟩⟩),(14949,⟨[],[(0,⟨[],[],[(5,.v 3)]⟩)],c7⟩),(14951,⟨[],[(0,⟨[],[],[(5,.v 3)]⟩)],c7⟩)] (fc (Rr L) f0) Tryz.func29
def Tw:FT (abF L):=kf [] (fc (Sr L) (fc (VW L) f0)) Tryz.func203
def M3:FT (aod L):=kf [] (fc (Tw L) f0) Tryz.func305
def WD:FT (X6 L):=kf [(26,⟨[],[(1,⟨[],[],[(4,.v 3)]⟩),(2,⟨[],[],[]⟩)],c6 ⟨[],[],[(8,.v 3)]⟩⟩)] (fc (M3 L) f0) ee
def acu:FT (ad6 L):=kf [(122,⟨[],[(2,⟨[(0,true,.aap 3 22)],[],[(5,.v 3)]⟩)],c6 ⟨[(0,true,.aap 3 22)],[],[(5,.v 3),(6,.v 3)]⟩⟩),(126,⟨[2],[],c7⟩),(7827,⟨[],[(0,⟨[(0,true,.aap 3 22)],[],[(5,.v 3)]⟩)],c7⟩)] (fc (WD L) (fc (M3 L) f0)) y9
def Z8:FT (T9 L):=kf [(58,⟨[],[(1,⟨[(0,false,.aap 3 22)],[],[(2,.r 0)]⟩),(2,⟨[],[],[]⟩)],c6 ⟨[],[],[(3,.v 3)]⟩⟩),(59690,⟨[],[(4,⟨[(0,true,.aap 3 22)],[],[(3,.v 3)]⟩)],c6 ⟨[(0,true,.aap 3 22)],[],[(3,.v 3),(5,.v 3)]⟩⟩),(59694,⟨[2],[],c7⟩),(1910089,⟨[],[(0,⟨[(0,true,.aap 3 22)],[],[(3,.v 3)]⟩)],c7⟩)] f0 Tryz.func329
def afh:FT (aaG L):=kf [(6,⟨[2],[],c7⟩)] (fc (adi L) (fc (D5 L) (fc (Z8 L) f0))) Tryz.func304
def aj4:FT (agr L):=kf [(58,⟨[],[(2,⟨[],[(9,[],.aap 3 22)],[(9,.r 3)]⟩)],c6 ⟨[],[(9,[],.aap 3 22)],[(9,.r 3),(17,.v 3)]⟩⟩)] (fc (Cm L) (fc (afh L) (fc (acu L) f0))) Tryz.func255
def Qn:FT (alL L):=kf [] (fc (jP L) f0) Tryz.func257
def amP:FT (ade L):=kf [(26,⟨[],[(1,⟨[],[],[(4,.v 3)]⟩),(2,⟨[],[],[]⟩)],c6 ⟨[],[],[(8,.v 3)]⟩⟩)] (fc (Qn L) f0) ee
def akQ:FT (aiM L):=kf [(122,⟨[],[(2,⟨[(0,true,.aap 3 22)],[],[(5,.v 3)]⟩)],c6 ⟨[(0,true,.aap 3 22)],[],[(5,.v 3),(6,.v 3)]⟩⟩),(126,⟨[2],[],c7⟩),(7827,⟨[],[(0,⟨[(0,true,.aap 3 22)],[],[(5,.v 3)]⟩)],c7⟩)] (fc (amP L) (fc (Qn L) f0)) y9
def apO:FT (aoh L):=kf [] (fc (ant L) (fc (ali L) (fc (Lh L) (fc (aj4 L) (fc (oH L) (fc (akQ L) f0)))))) Tryz.func188
def afZ:FT (afy L):=kf [(1662,⟨[],[(0,⟨[],[],[(25,.v 4)]⟩)],c7⟩)] (fc (vO L) (fc (SK L) f0)) Tryz.func189
def Wi:FT (ak5 L):=kf [] (fc (RQ L) f0) Tryz.func190
def ab1:FT (Ud L):=kf [] (fc (BU L) f0) Tryz.func191
def ZJ:FT (ahV L):=kf [] (fc (BU L) f0) Tryz.func192
def aeT:FT (V8 L):=kf [(262138,⟨[],[(2,⟨[(2,true,.box 56 (abx amv [(35,.r 3)]))],[(100002,[35],.aap 83 54)],[]⟩)],c6 ⟨[(2,true,.box 56 (abx amv [(35,.r 3)]))],[(100002,[35],.aap 83 54)],[(104,.v 3)]⟩⟩),(33553715,⟨[3],[],c7⟩)] (fc (zh L) (fc (oh L) (fc (sP L) (fc (G7 L) (fc (iY L) (fc (SU L) (fc (Hc L) (fc (IE L) f0)))))))) s6
def acM:FT (afk L):=kf [] (fc (zh L) f0) Tryz.func103
def ahI:FT (apV L):=kf [(262138,⟨[],[(2,⟨[(2,true,.box 56 (abx amv [(19,.r 3),(20,.r 4),(35,.r 5)]))],[(100002,[35],.aap 83 54)],[]⟩)],c6 ⟨[(2,true,.box 56 (abx amv [(19,.r 3),(20,.r 4),(35,.r 5)]))],[(100002,[35],.aap 83 54)],[(104,.v 3)]⟩⟩),(33553715,⟨[3],[],c7⟩)] (fc (zh L) (fc (oh L) (fc (sP L) (fc (G7 L) (fc (iY L) (fc (Wv L) (fc (Hc L) (fc (IE L) f0)))))))) s6
def amm:FT (acQ L):=kf [] (fc (Ps L) (fc (jP L) (fc (K93 L) f0))) Tryz.func104
def akm:FT (VQ L):=kf [] (fc (K94 L) f0) Tryz.func105
def apf:FT (aff L):=kf [] (fc (mI L) (fc (Zr L) f0)) Tryz.func167
def am6:FT (YU L):=kf [(11,⟨[],[(0,⟨[(2,true,.box 133 (abx adU [(19,.r 0),(35,.r 1)]))],[],[]⟩)],c7⟩),(14,⟨[1002],[],c7⟩)] (fc (apf L) (fc (zQ L) (fc (Ch L) f0))) ya
def VC:FT (ahD L):=kf [(11,⟨[],[(0,⟨[(2,true,.box 133 (abx adU [(19,.r 0),(35,.r 1)]))],[],[]⟩)],c7⟩),(14,⟨[1002],[],c7⟩)] (fc (Vt L) (fc (zQ L) (fc (Ch L) f0))) ya
def ap3:FT (abq L):=kf [(60,⟨[],[(0,⟨[],[],[(43,.v 4)]⟩)],c7⟩)] (fc (V9 L) (fc (mI L) (fc (VC L) f0))) Tryz.func170
def Zk:FT (ajT L):=kf [(510,⟨[7],[],c7⟩),(65530,⟨[],[(3,⟨[(0,true,.aap 101 41),(1,true,.aap 83 54),(2,true,.box 133 (abx adU [(19,.r 0),(35,.r 1)])),(3,false,.dead),(4,true,.box 130 [.p 2]),(8,false,.dead)],[],[]⟩)],c6 ⟨[(0,true,.aap 101 41),(1,true,.aap 83 54),(2,true,.box 133 (abx adU [(19,.r 0),(35,.r 1)])),(3,false,.dead),(4,true,.box 130 [.p 2]),(8,true,.box 120 (alh [22,3,3,3]))],[],[(135,.v 3)]⟩⟩),(131066,⟨[],[(5,⟨[(0,true,.aap 101 41),(1,true,.aap 83 54),(2,true,.box 133 (abx adU [(19,.r 0),(35,.r 1)]))],[],[]⟩)],c6 ⟨[(0,true,.aap 101 41),(1,true,.aap 83 54),(2,true,.box 133 (abx adU [(19,.r 0),(35,.r 1)]))],[],[(154,.v 3)]⟩⟩),(4193944,⟨[],[(0,⟨[(3,false,.dead)],[(11,[],.box 251 (alh [3,3,3,3]))],[(11,.p 9)]⟩)],c7⟩),(16776499,⟨[],[(0,⟨[(0,true,.aap 101 41),(1,true,.aap 83 54),(2,true,.box 133 (abx adU [(19,.r 0),(35,.r 1)]))],[],[]⟩)],c7⟩)] (fc (K5 L) (fc (Xd L) (fc (afL L) (fc (acy L) (fc (aac L) (fc (am6 L) (fc (iY L) (fc (jP L) (fc (ap3 L) f0))))))))) Tryz.func106
def aen:FT (adV L):=kf [(30,⟨[1002],[],c7⟩),(58,⟨[],[(0,⟨[],[],[(55,.v 4)]⟩)],c7⟩)] (fc (aiW L) (fc (mI L) (fc (ahn L) (fc (zQ L) (fc (Ch L) f0))))) Tryz.func107
def acf:FT (al7 L):=kf [(14,⟨[12],[],c7⟩),(125,⟨[],[(0,⟨[(5,true,.aap 3 22)],[],[]⟩),(1,⟨[],[],[(4,.v 67)]⟩)],c7⟩),(4014,⟨[],[(2,⟨[(5,true,.aap 3 22)],[],[]⟩)],c6 ⟨[(5,true,.aap 3 22)],[],[(89,.v 3)]⟩⟩)] (fc (K5 L) (fc (mI L) (fc (aa7 L) (fc (Vg L) (fc (QV L) f0))))) Tryz.func108
def ahd:FT (agf L):=kf [] (fc (K5 L) (fc (UO L) (fc (abr L) (fc (ags L) (fc (an5 L) (fc (Um L) (fc (mI L) (fc (aqC L) f0)))))))) Tryz.func109
def ae8:FT (aoB L):=kf [] (fc (mI L) (fc (agi L) f0)) Tryz.func110
def ajV:FT (aby L):=kf [] (fc (mI L) (fc (ak7 L) f0)) Tryz.func111
def ahQ:FT (Uo L):=kf [] (fc (mI L) (fc (ai1 L) f0)) Tryz.func112
def Sd:FT (adZ L):=kf [(62,⟨[],[(0,⟨[(3,true,.box 133 (abx adU [(19,.r 0),(20,.r 1),(35,.r 2)])),(4,true,.aap 90 36),(6,false,.dead)],[],[]⟩)],c7⟩),(509,⟨[],[(0,⟨[(3,true,.box 133 (abx adU [(19,.r 0),(20,.r 1),(35,.r 2)]))],[],[]⟩),(1,⟨[(3,true,.box 133 (abx adU [(19,.r 0),(20,.r 1),(35,.r 2)]))],[],[(4,.v 67)]⟩)],c7⟩),(2036,⟨[1002],[],c7⟩)] (fc (VN L) (fc (oh L) (fc (yo L) (fc (mI L) (fc (Lh L) (fc (zQ L) (fc (Ch L) (fc (Z2 L) f0)))))))) Tryz.func187
def U8:FT (W7 L):=kf [] (fc (RN L) (fc (Sd L) f0)) yk
def apA:FT (agl L):=kf [] (fc (RN L) (fc (Sd L) f0)) yk
def YM:FT (Z7 L):=kf [(12,⟨[],[(0,⟨[],[],[(40,.v 4)]⟩)],c7⟩),(254,⟨[13],[],c7⟩),(506,⟨[],[(2,⟨[],[],[(6,.v 22)]⟩)],c6 ⟨[],[(6,[],.aap 3 22)],[(6,.r 6),(62,.v 3)]⟩⟩),(2045,⟨[],[(0,⟨[(3,true,.box 133 (abx adU [(19,.r 0),(20,.r 1),(35,.r 2)]))],[],[]⟩)],c7⟩),(16362,⟨[],[(4,⟨[(3,true,.box 133 (abx adU [(19,.r 0),(20,.r 1),(35,.r 2)]))],[],[]⟩)],c6 ⟨[(3,true,.box 133 (abx adU [(19,.r 0),(20,.r 1),(35,.r 2)]))],[],[(105,.v 3)]⟩⟩),(64819,⟨[],[(0,⟨[(6,false,.aap 3 22)],[],[(6,.r 6)]⟩)],c7⟩),(129638,⟨[3],[],c7⟩),(4188775,⟨[],[(0,⟨[(3,true,.box 133 (abx adU [(19,.r 0),(20,.r 1),(35,.r 2)]))],[],[]⟩)],c7⟩)] (fc (K5 L) (fc (mI L) (fc (Nz L) (fc (apO L) (fc (QV L) (fc (apA L) f0)))))) Tryz.func114
def V5:FT (aiD L):=kf [(29,⟨[],[(0,⟨[(3,true,.box 133 (abx adU [(19,.r 0),(20,.r 1),(35,.r 2)]))],[],[]⟩),(1,⟨[(3,true,.box 133 (abx adU [(19,.r 0),(20,.r 1),(35,.r 2)]))],[],[(4,.v 67)]⟩)],c7⟩),(61,⟨[],[(0,⟨[(3,true,.box 133 (abx adU [(19,.r 0),(20,.r 1),(35,.r 2)]))],[],[]⟩),(1,⟨[(3,true,.box 133 (abx adU [(19,.r 0),(20,.r 1),(35,.r 2)]))],[],[(4,.v 67)]⟩)],c7⟩),(250,⟨[],[(1,⟨[(3,true,.box 133 (abx adU [(19,.r 0),(20,.r 1),(35,.r 2)]))],[],[(4,.v 67)]⟩),(2,⟨[(3,true,.box 133 (abx adU [(19,.r 0),(20,.r 1),(35,.r 2)]))],[],[]⟩)],c6 ⟨[(3,true,.box 133 (abx adU [(19,.r 0),(20,.r 1),(35,.r 2)]))],[],[(73,.v 3)]⟩⟩),(64101,⟨[],[(0,⟨[(3,true,.box 133 (abx adU [(19,.r 0),(20,.r 1),(35,.r 2)]))],[],[]⟩),(1,⟨[(3,true,.box 133 (abx adU [(19,.r 0),(20,.r 1),(35,.r 2)]))],[],[(4,.v 67)]⟩)],c7⟩),(64103,⟨[],[(0,⟨[(3,true,.box 133 (abx adU [(19,.r 0),(20,.r 1),(35,.r 2)]))],[],[]⟩),(1,⟨[(3,true,.box 133 (abx adU [(19,.r 0),(20,.r 1),(35,.r 2)]))],[],[(4,.v 67)]⟩)],c7⟩)] (fc (Ps L) (fc (mI L) (fc (afZ L) (fc (Wi L) (fc (ab1 L) (fc (ZJ L) f0)))))) Tryz.func115
def NW:FT (ZG L):=kf [(507,⟨[],[(0,⟨[(3,true,.aap 101 41),(4,false,.dead),(5,true,.aap 83 54),(6,true,.box 133 (abx adU [(19,.r 3),(35,.r 5)]))],[],[(7,.v 67)]⟩)],c7⟩),(1014,⟨[],[(0,⟨[(3,true,.aap 101 41),(4,false,.dead),(5,true,.aap 83 54),(6,true,.box 133 (abx adU [(19,.r 3),(35,.r 5)]))],[],[(7,.v 67)]⟩)],c7⟩),(1021,⟨[],[(0,⟨[(3,false,.dead),(5,false,.dead),(7,true,.box 56 (abx amv [(35,.r 8)]))],[(100007,[35],.aap 83 54)],[]⟩)],c7⟩),(1022,⟨[12],[],c7⟩),(4084,⟨[1],[],c7⟩),(8171,⟨[],[(0,⟨[(7,true,.box 56 (abx amv [(35,.r 8)]))],[],[]⟩)],c7⟩)] (fc (K87 L) (fc (ahI L) (fc (K88 L) (fc (acM L) (fc (amm L) (fc (akm L) (fc (Zk L) (fc (aen L) (fc (acf L) (fc (ahd L) (fc (ae8 L) (fc (ajV L) (fc (ahQ L) (fc (U8 L) (fc (YM L) (fc (V5 L) (fc (aeT L) f0))))))))))))))))) Tryz.func15
def Zy:FT (afr L):=kf [(26,⟨[],[(2,⟨[(0,true,.box 56 amv)],[],[]⟩)],c6 ⟨[(0,true,.box 56 amv)],[],[(9,.v 3)]⟩⟩)] (fc (NW L) (fc (NB L) f0)) Tryz.func20
def aeE:FT (ak3 L):=kf [(6,⟨[0],[],c7⟩)] f0 Tryz.func65
def ajt:FT (ZY L):=kf [] (fc (Bs L) f0) Tryz.func195
def ahw:FT (akB L):=kf [(26,⟨[],[(1,⟨[],[],[(4,.v 3)]⟩),(2,⟨[],[],[]⟩)],c6 ⟨[],[],[(8,.v 3)]⟩⟩)] (fc (ajt L) f0) ng
def amc:FT (anU L):=kf [] (fc (ahw L) f0) o8
def Q9:FT (afg L):=kf [(26,⟨[],[(1,⟨[],[],[(4,.b false)]⟩),(2,⟨[],[],[]⟩)],c6 ⟨[],[],[(11,.v 3)]⟩⟩)] (fc (Cm L) (fc (jP L) (fc (amc L) f0))) Tryz.func122
def ao4:FT (akN L):=kf [] (fc (Q9 L) f0) Tryz.func121
def Yd:FT (aqp L):=kf [] (fc (Q9 L) f0) Tryz.func123
def Vq:FT (afp L):=kf [] (fc (jP L) f0) Tryz.func260
def abl:FT (ap0 L):=kf [(58,⟨[],[(2,⟨[],[(5,[],.aap 3 22)],[(5,.r 0)]⟩)],c6 ⟨[],[(5,[],.aap 3 22)],[(5,.r 0),(8,.v 3)]⟩⟩),(7475,⟨[],[(0,⟨[(0,false,.aap 3 22)],[],[(5,.r 0)]⟩)],c7⟩),(14950,⟨[2],[],c7⟩)] (fc (Vq L) f0) m0
def MS:FT (aha L):=kf [] (fc (abl L) f0) Tryz.func197
def aee:FT (amC L):=kf [(12,⟨[],[(0,⟨[],[],[(21,.v 4)]⟩)],c7⟩)] (fc (MS L) (fc (MA L) f0)) Tryz.func124
def ab2:FT (abQ L):=kf [] (fc (jP L) f0) Tryz.func199
def ag0:FT (ama L):=kf [(26,⟨[],[(1,⟨[],[],[(4,.v 3)]⟩),(2,⟨[],[],[]⟩)],c6 ⟨[],[],[(8,.v 3)]⟩⟩)] (fc (ab2 L) f0) qa
def alJ:FT (apP L):=kf [] (fc (ag0 L) f0) qb
def ajM:FT (agW L):=kf [] (fc (alJ L) f0) Tryz.func126
def aoE:FT (amn L):=kf [] (fc (ajM L) f0) Tryz.func125
def R7:FT (VE L):=kf [] (fc (jP L) f0) Tryz.func133
def UX:FT (aje L):=kf [(26,⟨[],[(1,⟨[],[],[(4,.v 3)]⟩),(2,⟨[],[],[]⟩)],c6 ⟨[],[],[(8,.v 3)]⟩⟩)] (fc (R7 L) f0) ee
def api:FT (aoP L):=kf [] (fc (UX L) f0) ez
def Yx:FT (YN L):=kf [] (fc (R7 L) f0) Tryz.func134
def adK:FT (alu L):=kf [(26,⟨[],[(1,⟨[],[],[(4,.v 3)]⟩),(2,⟨[],[],[]⟩)],c6 ⟨[],[],[(8,.v 3)]⟩⟩)] (fc (Yx L) f0) ee
def abD:FT (UH L):=kf [] (fc (adK L) f0) ez
def agy:FT (abm L):=kf [(126,⟨[4],[],c7⟩)] (fc (HE L) (fc (api L) (fc (abD L) f0))) Tryz.func69
def aet:FT (anY L):=kf [(58,⟨[],[(2,⟨[(2,true,.box 90 [.v 3,.v 3])],[],[]⟩)],c6 ⟨[(2,true,.box 90 [.v 3,.v 3])],[],[(18,.v 3)]⟩⟩),(59802,⟨[],[(4,⟨[],[],[(10,.v 3),(11,.v 3)]⟩)],c6 ⟨[],[],[(10,.v 3),(11,.v 3),(26,.v 3)]⟩⟩),(59805,⟨[],[(0,⟨[(2,true,.box 90 [.v 3,.v 3])],[],[]⟩)],c7⟩),(30618829,⟨[],[(0,⟨[],[],[(10,.v 3)]⟩)],c7⟩),(30618831,⟨[],[(0,⟨[],[],[(11,.v 3)]⟩)],c7⟩)] (fc (agy L) f0) Tryz.func27
def aji:FT (Xq L):=kf [] (fc (aet L) (fc (MS L) (fc (K5 L) f0))) Tryz.func127
def aoc:FT (adL L):=kf [] f0 Tryz.func264
def alZ:FT (aqr L):=kf [(26,⟨[],[(1,⟨[],[],[(4,.v 3)]⟩),(2,⟨[],[],[]⟩)],c6 ⟨[],[],[(8,.v 3)]⟩⟩)] (fc (aoc L) f0) Tryz.func306
def Us:FT (aal L):=kf [] (fc (alZ L) f0) Tryz.func263
def SZ:FT (aga L):=kf [] (fc (Us L) f0) Tryz.func202
def X5:FT (Ua L):=kf [] (fc (SZ L) f0) Tryz.func201
def Va:FT (afK L):=kf [(26,⟨[],[(1,⟨[],[],[(4,.v 3)]⟩),(2,⟨[],[],[]⟩)],c6 ⟨[],[],[(8,.v 3)]⟩⟩)] (fc (X5 L) f0) Tryz.func262
def aa4:FT (aqg L):=kf [] (fc (Va L) f0) Tryz.func200
def af6:FT (aab L):=kf [] (fc (aa4 L) f0) Tryz.func128
def ad5:FT (afU L):=kf [(28,⟨[],[(0,⟨[],[],[(40,.v 4)]⟩)],c7⟩),(506,⟨[],[(1,⟨[],[],[(2,.b false)]⟩),(2,⟨[],[],[]⟩)],c6 ⟨[],[],[(48,.v 3)]⟩⟩),(129638,⟨[],[(1,⟨[],[],[(2,.b false)]⟩),(4,⟨[],[],[]⟩)],c6 ⟨[],[],[(59,.v 3)]⟩⟩),(16593714,⟨[],[(0,⟨[],[],[(74,.v 4)]⟩)],c7⟩)] (fc (Cm L) (fc (Tw L) (fc (SZ L) f0))) Tryz.func129
def anV:FT (Wk L):=kf [] (fc (PS L) (fc (sA L) (fc (vO L) f0))) Tryz.func130
def agJ:FT (acO L):=kf [(58,⟨[],[(2,⟨[],[],[(3,.v 22)]⟩)],c6 ⟨[],[(3,[],.aap 3 22)],[(3,.r 1),(8,.v 3)]⟩⟩),(7474,⟨[],[(0,⟨[],[],[(16,.v 4)]⟩)],c7⟩),(7475,⟨[],[(0,⟨[(1,false,.aap 3 22)],[],[(3,.r 1)]⟩)],c7⟩),(14950,⟨[3],[],c7⟩)] (fc (aeE L) (fc (ao4 L) (fc (Yd L) (fc (aee L) (fc (aoE L) (fc (aji L) (fc (af6 L) (fc (ad5 L) (fc (anV L) f0))))))))) Tryz.func23
def alw:FT (aih L):=kf [(62,⟨[3,6],[],c7⟩),(126,⟨[1,3,4,5,6,8,10],[],c7⟩),(254,⟨[6],[],c7⟩)] (fc (Py L) (fc (Zy L) (fc (agJ L) f0))) Tryz.func9
def ajw:FT (Zq L):=kf [] f0 Tryz.func10
def aor:FT (afa L):=kf [] f0 Tryz.func19
def oC:FT (akI L):=kf [] (fc (aor L) f0) Tryz.func13
def zn:FT (abV L):=kf [] (fc (oC L) f0) Tryz.func32
def tf:FT (ahA L):=kf [] (fc (oC L) f0) Tryz.func40
def Yf:FT (am1 L):=kf [(61,⟨[],[(0,⟨[],[],[(4,.v 3)]⟩)],c7⟩),(250,⟨[],[(2,⟨[(0,true,.box 122 [.v 22,.v 3]),(2,true,.box 30 [.v 27,.r 3])],[(100002,[1],.aap 115 28)],[]⟩)],c6 ⟨[(0,true,.box 122 [.v 22,.v 3]),(2,true,.box 30 [.r 3,.r 4])],[(100002,[0],.aap 117 27),(100002,[1],.aap 115 28)],[(5,.v 3)]⟩⟩),(1018,⟨[],[(4,⟨[(0,true,.box 122 [.v 22,.v 3]),(2,true,.box 30 [.v 27,.r 3]),(3,false,.aap 115 28)],[],[]⟩)],c6 ⟨[(0,true,.box 122 [.v 22,.v 3]),(2,true,.box 30 [.v 27,.r 3]),(3,false,.aap 115 28)],[],[(7,.v 3)]⟩⟩),(2042,⟨[],[(6,⟨[(0,true,.box 122 [.v 22,.v 3]),(2,true,.box 30 [.v 27,.r 3]),(3,false,.aap 115 28)],[],[]⟩)],c6 ⟨[(0,true,.box 122 [.v 22,.v 3]),(2,true,.box 30 [.v 27,.r 3]),(3,false,.aap 115 28)],[],[(9,.v 3)]⟩⟩),(4004,⟨[12],[(0,⟨[(0,true,.box 122 [.v 22,.v 3]),(2,true,.box 30 [.r 3,.r 4]),(3,false,.aap 117 27)],[],[]⟩)],c7⟩),(16336,⟨[],[(0,⟨[],[],[(83,.v 4)]⟩)],c7⟩),(65170,⟨[9,13],[],c7⟩),(65171,⟨[3],[],c7⟩),(130706,⟨[7,11],[],c7⟩),(522831,⟨[],[(0,⟨[(2,true,.box 30 [.v 27,.r 3]),(3,false,.aap 115 28)],[],[]⟩)],c7⟩),(1045662,⟨[3],[],c7⟩)] (fc (oC L) (fc (zn L) (fc (tf L) f0))) Tryz.func37
def adv:FT (aeh L):=kf [(58,⟨[],[(2,⟨[(0,true,.box 122 [.v 22,.v 3])],[],[(5,.v 22)]⟩)],c6 ⟨[(0,true,.box 122 [.v 22,.v 3])],[(5,[],.aap 3 22)],[(5,.r 1),(6,.v 3)]⟩⟩),(1865,⟨[],[(0,⟨[(1,false,.aap 3 22)],[],[(5,.r 1)]⟩)],c7⟩),(3730,⟨[2],[],c7⟩)] (fc (oC L) f0) Tryz.func24
def abn:FT (ajQ L):=kf [(58,⟨[],[(2,⟨[(0,true,.box 122 [.v 22,.v 3])],[],[(5,.v 32)]⟩)],c6 ⟨[(0,true,.box 122 [.v 22,.v 3])],[(5,[],.aap 120 32)],[(5,.r 2),(6,.v 3)]⟩⟩),(1864,⟨[6,12],[],c7⟩),(3731,⟨[2],[],c7⟩),(7461,⟨[],[(0,⟨[(0,true,.box 122 [.v 22,.v 3]),(3,true,.box 120 (alh [22,3,3,3]))],[],[]⟩)],c7⟩),(14922,⟨[5],[],c7⟩)] (fc (oC L) (fc (adv L) (fc (tf L) f0))) Tryz.func38
def agq:FT (apq L):=kf [(58,⟨[],[(2,⟨[(0,true,.box 122 [.v 22,.v 3])],[],[(5,.v 36)]⟩)],c6 ⟨[(0,true,.box 122 [.v 22,.v 3])],[(5,[],.aap 90 36)],[(5,.r 2),(6,.v 3)]⟩⟩),(1864,⟨[1],[],c7⟩),(3730,⟨[3,8,12],[],c7⟩),(7463,⟨[],[(0,⟨[(2,true,.aap 90 36)],[],[]⟩)],c7⟩)] (fc (tf L) (fc (zn L) f0)) Tryz.func39
def alb:FT (Zt L):=kf [] f0 Tryz.func275
def ai4:FT (al3 L):=kf [(12,⟨[],[(0,⟨[],[],[(16,.v 4)]⟩)],c7⟩),(58,⟨[],[(1,⟨[],[],[(2,.i .i64 1)]⟩),(2,⟨[],[],[]⟩)],c6 ⟨[],[],[(3,.v 3)]⟩⟩),(122,⟨[],[(1,⟨[],[],[(2,.v 67)]⟩),(4,⟨[],[],[]⟩)],c6 ⟨[],[],[(5,.v 3)]⟩⟩),(3730,⟨[],[(0,⟨[],[],[(35,.v 4)]⟩)],c7⟩),(15652,⟨[],[(0,⟨[],[],[(78,.v 4)]⟩)],c7⟩),(15654,⟨[],[(0,⟨[],[],[(108,.v 4)]⟩)],c7⟩)] (fc (alb L) f0) Tryz.func219
def an1:FT (Vh L):=kf [] f0 Tryz.func220
def alK:FT (abZ L):=kf [(12,⟨[],[(0,⟨[],[],[(48,.v 4)]⟩)],c7⟩),(509,⟨[],[(0,⟨[],[],[(17,.v 3)]⟩)],c7⟩),(1021,⟨[],[(0,⟨[],[],[(17,.v 3)]⟩)],c7⟩)] (fc (ai4 L) (fc (an1 L) f0)) Tryz.func151
def Uk:FT (aox L):=kf [] (fc (alK L) f0) Tryz.func91
def aaa:FT (Yn L):=kf [(26,⟨[],[(1,⟨[],[],[(4,.b true)]⟩),(2,⟨[],[],[]⟩)],c6 ⟨[],[],[(5,.v 3)]⟩⟩)] f0 Tryz.func26
def Xt:FT (ael L):=kf [(58,⟨[],[(2,⟨[],[],[(5,.v 22)]⟩)],c6 ⟨[],[(5,[],.aap 3 22)],[(5,.r 1),(6,.v 3)]⟩⟩),(3730,⟨[],[(0,⟨[],[],[(8,.v 4)]⟩)],c7⟩),(7462,⟨[],[(0,⟨[],[],[(47,.v 4)]⟩)],c7⟩),(7463,⟨[],[(0,⟨[(1,false,.aap 3 22)],[],[(5,.r 1)]⟩)],c7⟩),(14926,⟨[2],[],c7⟩)] (fc (Uk L) (fc (aaa L) f0)) Tryz.func41
def ada:FT (Ul L):=kf [(250,⟨[],[(2,⟨[(0,true,.box 122 [.v 22,.v 3]),(2,true,.box 60 [.v 27,.v 28,.v 32,.v 22,.v 22,.v 36,.v 22,.v 22,.v 22,.i .i64 0,.v 22,.i .i64 0,.i .i64 0,.v 22])],[],[]⟩)],c6 ⟨[(0,true,.box 122 [.v 22,.v 3]),(2,true,.box 60 [.v 27,.v 28,.v 32,.r 3,.r 4,.v 36,.v 22,.v 22,.v 22,.i .i64 0,.v 22,.i .i64 0,.i .i64 0,.v 22])],[(100002,[3],.aap 3 22),(100002,[4],.aap 3 22)],[(5,.v 3)]⟩⟩),(254,⟨[1],[],c7⟩),(1021,⟨[],[(0,⟨[(0,true,.box 122 [.v 22,.v 3]),(2,true,.box 60 [.v 27,.v 28,.v 32,.v 22,.v 22,.v 36,.v 22,.v 22,.v 22,.v 3,.v 22,.i .i64 0,.i .i64 0,.v 22])],[],[]⟩)],c7⟩),(1022,⟨[2,4,8],[],c7⟩),(2042,⟨[3],[],c7⟩),(4004,⟨[5,12],[],c7⟩),(4092,⟨[],[(0,⟨[(0,true,.box 122 [.v 22,.v 3])],[],[(77,.v 4)]⟩)],c7⟩),(4093,⟨[],[(0,⟨[(2,true,.box 60 (alh [27,28,32,22,22,36,22,22,22,3,22,3,3,22]))],[],[]⟩)],c7⟩),(8186,⟨[4],[],c7⟩),(16380,⟨[],[(0,⟨[(0,true,.box 122 [.v 22,.v 3])],[],[(99,.v 4)]⟩)],c7⟩),(32762,⟨[6],[],c7⟩)] (fc (Yf L) (fc (abn L) (fc (oC L) (fc (agq L) (fc (tf L) (fc (zn L) (fc (Xt L) f0))))))) Tryz.func12
def aaR:FT (aaU L):=kf [] (fc (Py L) f0) Tryz.func11
def afT:FT (agD L):=kf [(6,⟨[1],[],c7⟩),(117,⟨[],[(0,⟨[(0,true,.box 122 [.v 22,.v 3]),(2,true,.box 65 (alh [3,3,3,3]))],[],[]⟩)],c7⟩),(234,⟨[1],[],c7⟩),(942,⟨[7],[],c7⟩),(3774,⟨[4,7],[],c7⟩),(120831,⟨[],[(0,⟨[(0,true,.box 122 [.v 22,.v 3]),(2,true,.box 65 [.v 3,.v 3,.v 3,.i .i64 0])],[],[]⟩)],c7⟩),(3866621,⟨[],[(0,⟨[],[],[(82,.v 4)]⟩)],c7⟩),(61865981,⟨[],[(0,⟨[],[],[(95,.v 4)]⟩)],c7⟩)] (fc (tf L) (fc (oC L) f0)) Tryz.func42
def adO:FT (WZ L):=kf [(58,⟨[],[(2,⟨[(0,true,.box 122 [.v 22,.v 3])],[],[(7,.v 62)]⟩)],c6 ⟨[(0,true,.box 122 [.v 22,.v 3])],[(7,[],.aap 65 62)],[(7,.r 2),(8,.v 3)]⟩⟩),(464,⟨[],[(0,⟨[],[],[(21,.v 4)]⟩)],c7⟩),(466,⟨[],[(0,⟨[(0,true,.box 122 [.v 22,.v 3]),(2,false,.aap 65 62)],[],[(7,.r 2)]⟩)],c7⟩),(3731,⟨[25],[],c7⟩),(7460,⟨[],[(0,⟨[(0,true,.box 122 [.v 22,.v 3])],[],[(54,.v 4)]⟩)],c7⟩),(29834,⟨[5],[],c7⟩),(59666,⟨[],[(4,⟨[(2,false,.aap 65 62)],[],[(7,.r 2)]⟩)],c6 ⟨[(2,false,.aap 65 62)],[],[(7,.r 2),(9,.v 3)]⟩⟩),(59690,⟨[3,9,12],[],c7⟩),(954660,⟨[3],[],c7⟩)] (fc (oC L) (fc (zn L) (fc (tf L) (fc (afT L) f0)))) Tryz.func14
def asp:FT (att L):=kf [] f0 Tryz.func66
def as7:FT (auj L):=kf [] (fc (agy L) f0) Tryz.func68
def asK:FT (as1 L):=kf [(26,⟨[],[(1,⟨[],[],[(4,.v 3)]⟩),(2,⟨[],[],[]⟩)],c6 ⟨[],[],[(8,.v 3)]⟩⟩)] (fc (as7 L) f0) ng
def atv:FT (atL L):=kf [] (fc (asK L) f0) o8
def ata:FT (auw L):=kf [] (fc (atv L) f0) Tryz.func67
def atU:FT (atk L):=kf [(58,⟨[],[(2,⟨[],[(5,[],.aap 3 22)],[(5,.r 0)]⟩)],c6 ⟨[],[(5,[],.aap 3 22)],[(5,.r 0),(8,.v 3)]⟩⟩),(7475,⟨[],[(0,⟨[(0,false,.aap 3 22)],[],[(5,.r 0)]⟩)],c7⟩),(14950,⟨[2],[],c7⟩)] (fc (ata L) f0) m0
def atB:FT (auc L):=kf [] (fc (asp L) (fc (atU L) f0)) Tryz.func25
def aum:FT (asf L):=kf [(2042,⟨[],[(2,⟨[(2,false,.aap 22 33)],[],[(6,.r 2)]⟩)],c6 ⟨[(2,false,.aap 22 33)],[],[(6,.r 2),(7,.v 3)]⟩⟩),(4090,⟨[],[(1,⟨[],[],[(2,.b false)]⟩),(4,⟨[],[],[]⟩)],c6 ⟨[],[],[(8,.v 3)]⟩⟩),(32676,⟨[2,3],[],c7⟩),(2094234,⟨[],[(1,⟨[],[],[(2,.b false)]⟩),(6,⟨[],[],[(9,.v 3)]⟩)],c6 ⟨[],[],[(9,.v 3),(11,.v 3)]⟩⟩),(2094238,⟨[],[(0,⟨[],[],[(118,.v 4)]⟩)],c7⟩),(268061989,⟨[],[(0,⟨[],[],[(9,.v 3)]⟩)],c7⟩),(268061990,⟨[],[(0,⟨[],[],[(98,.v 4)]⟩)],c7⟩)] (fc (K0 L) (fc (alw L) (fc (ajw L) (fc (ada L) (fc (aaR L) (fc (adO L) (fc (Zy L) (fc (adv L) (fc (atB L) (fc (aaa L) (fc (aet L) f0))))))))))) Tryz.func5
end Go.X.T
namespace Go.X.T
open Go Go.Aml
def ae2{a:Int}(b: -9223372036854775808<=a)(c:a<=9223372036854775807):c3 c4 a=a:=by
 rw[h8];omega
def aoI{a:Int}(b:0<=a)(c:a<=255):Kr.wrap a=a:=by
 unfold yl;simp[yn,u0];omega
def U3{a:Int}(b:0<=a)(c:a<=18446744073709551615):E3.wrap a=a:=by
 unfold yl;simp[yn,u0];omega
def Ok{b:Type}(c:Option b)(Q:b->Prop):Prop:=∃a,c=c6 a/\Q a
def ae{b:Type}{a:b}{Q:b->Prop}(c:Q a):Ok (c6 a) Q:=⟨a,rfl,c⟩
def aD{b e:Type}{f:Option b}{d:b->Option e}{Q:b->Prop}{c:e->Prop}(g:Ok f Q)(i:∀a,Q a->Ok (d a) c):Ok (f.bind d) c:=by
 obtain⟨a,rfl,h⟩:=g;exact i a h
def WI{b:Type}{d:Option b}{Q c:b->Prop}(f:Ok d Q)(h:∀a,Q a->c a):Ok d c:=by
 obtain⟨a,e,g⟩:=f;exact⟨a,e,h a g⟩
def dy{c:Type}{a:Bool}{d e:Option c}{b:c->Prop}(f:a=true->Ok d b)(g:a=false->Ok e b):Ok (bif a then d else e) b:=by
 cases a with
 |true=>exact f rfl
 |false=>exact g rfl
def aV{c:Type}{p:Prop}[Decidable p]{d e:Option c}{b:c->Prop}(f:p->Ok d b)(g:¬p->Ok e b):Ok (bif decide p then d else e) b:=
 dy (λa=>f (of_decide_eq_true a)) (λa=>g (of_decide_eq_false a))
def ok_eq{b:Type}{d:Option b}{a:b}{c:b->Prop}(e:d=c6 a)(f:c a):Ok d c:=⟨a,e,f⟩
def c8{b e:Type}{m:Option b}{a:b}{d:b->Option e}{c:e->Prop}(f:m=c6 a)(g:Ok (d a) c):Ok (m.bind d) c:=by subst f;exact g
def Ok.val{c:Type}{m:Option c}{a:c}(h:Ok m (·=a)):m=c6 a:=by
 obtain⟨b,h,rfl⟩:=h;exact h
def aC{c:Type}{p:Prop}[Decidable p]{a d:c}(b:p:=by omega):(bif decide p then a else d)=a:=by rw[decide_eq_true b];rfl
def aG{d:Type}{p:Prop}[Decidable p]{c a:d}(b:¬p:=by omega):(bif decide p then c else a)=a:=by rw[decide_eq_false b];rfl
def wL{d:Type}{p:Prop}[Decidable p]{b c:d}:(bif decide p then b else c)=if p then b else c:=by
 by_cases a:p
 .rw[aC a,if_pos a]
 .rw[aG a,if_neg a]
def aa{b d:Type}{a:b}{c:b->Option d}:(c6 a).bind c=c a:=rfl
def ew{p q:Prop}[Decidable p][Decidable q]{c:Option Bool}(b:c=c6 (decide q)):(bif decide p then c6 true else c)=c6 (c5 (p\/q)):=by
 subst b
 by_cases a:p
 .rw[aC a,decide_eq_true (Or.inl a)]
 .rw[aG a];congr 1;exact decide_eq_decide.2 ⟨Or.inr,λb=>b.resolve_left a⟩
def fm{p q:Prop}[Decidable p][Decidable q]{c:Option Bool}(a:c=c6 (decide q)):(bif decide p then c else c6 false)=c6 (c5 (p/\q)):=by
 subst a
 by_cases b:p
 .rw[aC b];congr 1;exact decide_eq_decide.2 ⟨λa=>⟨b,a⟩,λa=>a.2⟩
 .rw[aG b,decide_eq_false (λa=>b a.1)]
def qC{b:Type}{a:List b}{i:Int}(h0:0<=i)(c:i<(a.length:Int)):aj a i=c6 (a[i.toNat]'(by omega)):=by
 unfold aj;rw[if_pos h0];exact dk (by omega)
def bn{c:Type}{a:List c}{b:Nat}:aj a (b:Int)=a[b]? :=by
 unfold aj;rw[if_pos (by omega),la]
def fC{c:Type}{b:List c}{i:Nat}{a:c}(d:b[i]?=c6 a):a∈b:=fe d
def l8{f:Type}{c:List f}{a b:Int}(h0:0<=a)(d:a<=b)(e:b<=(c.length:Int)):eG c a b=c6 ((c.take b.toNat).drop a.toNat):=by
 unfold eG;rw[if_pos ⟨h0,d,e⟩]
def pN{e:Type}{c:Nat}{b a:List e}(d:(b.length+a.length)*c<=140737488355328):bj c b a=c6 (b++a):=by
 unfold bj;rw[if_pos d]
def nS{d:Type}{b:Nat}{z:d}{a:Int}(h0:0<=a)(c:a.toNat*b<=140737488355328):gP b z a=c6 (List.replicate a.toNat z):=by
 unfold gP;rw[if_pos ⟨h0,c⟩]
def D7{a b:Int}(c:b≠0):nG a b=c6 (a.tmod b):=by
 unfold nG;rw[if_neg c]
def Ek{c:IntKind}{a b:Int}(d:b≠0):ph c a b=c6 (c.wrap (a.tdiv b)):=by
 unfold ph;rw[if_neg d]
def AD{c:IntKind}{a b:Int}(d:0<=b):iN c a b=c6 (a.fdiv (2^ (min b.toNat c.bits))):=by
 unfold iN;rw[if_pos d]
def ahO{a:IntKind}{c b:Int}(d:0<=b):uU a c b=c6 (a.wrap (c*2^ (min b.toNat a.bits))):=by
 unfold uU;rw[if_pos d]
def aJ{n:Int}(a: -9223372036854775808<=n:=by omega)(b:n<=9223372036854775807:=by omega):c3 c4 n=n:=ae2 a b
def w8{a:Int}(b:0<=a)(c:a<=255):Kr.wrap a=a:=aoI b c
def mB{n:Int}(a:0<=n)(b:n<=18446744073709551615):E3.wrap n=n:=U3 a b
def iO{a d:Type}{f:a->Option (a⊕d)}{b a':a}(c:f b=c6 (.inl a')):bO f b=bO f a':=by
 rw[Qk,c];rfl
def fZ{a c:Type}{f:a->Option (a⊕c)}{d:a}{b:c}(e:f d=c6 (.inr b)):bO f d=c6 b:=by
 rw[Qk,e];rfl
def oa{d m:Type}{f:d->Option (d⊕m)}(i:d->Prop)(g:d->Nat)(k:m->Prop)
 (step:∀a,i a->Ok (f a) λh=>match h with | .inl c=>i c/\g c<g a | .inr b=>k b):∀a,i a->Ok (bO f a) k:=by
 intro a o;generalize n:g a=l
 induction l using sp generalizing a with
 |_ l p=>
  obtain⟨h,j,e⟩:=step a o;cases h with
  |inl c=>
   rw[iO j];exact p _ (n▸e.2) c e.1 rfl
  |inr b=>exact⟨b,fZ j,e⟩
def Bytes(a:List Int):Prop:=∀b∈a,0<=b/\b<=255
def Bytes.nil:Bytes []:=by intro b h;cases h
def Bytes.cons{a:Int}{b:List Int}(h:0<=a/\a<=255)(k:Bytes b):Bytes (a::b):=by
 intro x d;rcases hI.1 d with rfl |c
 .exact h
 .exact k x c
def Bytes.take{a:List Int}(h:Bytes a)(n:Nat):Bytes (a.take n):=λx c=>h x (ie c)
end Go.X.T
namespace Go.Top
abbrev T5:Int:=1099511627776
abbrev SM:Int:=2147483648
abbrev vG:=Int->Int->Int->Prop
structure Tr where
 pl:Int->Int
 L3:Int->Int
def adJ(A:vG)(e b:Int)(c:Tr):Prop:=
 ∀a,e<=a->a<b->(c.pl (a+1)=c.pl a/\c.L3 (a+1)=c.L3 a)\/∃d,A (c.pl a) (c.pl (a+1)) d/\c.L3 a+d<=a+1/\c.L3 (a+1)=a+1
def pG(A:vG)(b:Int)(c:Int->Prop)(g:Int->Int):Prop:=
 ∀p q a,A p q a->c q->g p<T5->max (g p+a) b<=SM->g q<=max (g p+a) b
def eN(A:vG)(a:Int)(g:Int->Int):Prop:=pG A a (λ_=>True) g
structure Tr.Ok (tr:Tr) (T:Int):Prop where
 hi:T<=SM
 L3:∀u,0<=u->u<=T->0<=tr.L3 u/\tr.L3 u<=u
structure Snd (A:vG) (tr:Tr) (T τ:Int) (g:Int->Int):Prop where
 lo:0<=τ
 le:τ<=T
 mv:adJ A τ T tr
 ok:∀u,τ<=u->u<=T->g (tr.pl u)<=tr.L3 u
section
variable {A:vG}{tr:Tr}{T τ:Int}{g g':Int->Int}
def adJ.less{a b c d:Int}(h:adJ A a b tr)(j:a<=c)(l:d<=b):adJ A c d tr:=λe k m=>h e (by omega) (by omega)
def stay(i:tr.Ok T){S:Int->Prop}{f a b:Int}(r:pG A f S g)(x:0<=a)(v:b<=T)(t:adJ A a b tr)(w:f<=a+1)(u:∀c,a<c->c<=b->S (tr.pl c))(h0:g (tr.pl a)<=tr.L3 a):
 ∀c,a<=c->c<=b->g (tr.pl c)<=tr.L3 c:=by
 have o:∀d:Nat,a+d<=b->g (tr.pl (a+d))<=tr.L3 (a+d):=by
  intro d
  induction d with
  |zero=>intro _;simpa using h0
  |succ d s=>
   intro z;have k:=s (by omega);have e:a+((d+1:Nat):Int)=a+(d:Int)+1:=by omega
   have q:=i.L3 (a+d) (by omega) (by omega);have y:=i.hi;rw[e];rcases t (a+d) (by omega) (by omega) with⟨h,l⟩ |⟨j,h,l,n⟩
   .rw[h,l];exact k
   .have p:=r _ _ j h (u _ (by omega) (by omega)) (by unfold T5 SM at*;omega);rw[n];have m:max (g (tr.pl (a+d))+j) f<=a+d+1:=by omega
    exact hz (p (by unfold SM at*;omega)) m
 intro c k q;have:=o (c -a).toNat (by omega);have e:a+((c -a).toNat:Int)=c:=by omega
 rwa [e] at this
def Snd.raise(h:Snd A tr T τ g){c:Int}(e:τ<=c)(k:c<=T)(l:∀a,c<=a->a<=T->g' (tr.pl a)<=g (tr.pl a)):Snd A tr T c g':=
 ⟨by have:=h.lo;omega,k,h.mv.less e (by omega),λa j d=>hz (l a j d) (h.ok a (by omega) d)⟩
def Snd.Ls(k:tr.Ok T)(h:Snd A tr T τ g){L from_ to:Int}(o:τ<=from_)(s:from_<=L)(n:L<=to)(e:to<=T)(j:g' (tr.pl L)<=g (tr.pl L))(l:eN A from_ g'):Snd A tr T to g':=by
 have m:=h.lo;have:=stay k (S:=λ_=>True) (a:=L) (b:=T) l (by omega) (ej _) (h.mv.less (by omega) (ej _)) (by omega) (λ_ _ _=>trivial) (hz j (h.ok L (by omega) (by omega)));exact⟨by omega,e,h.mv.less (by omega) (ej _),λd t c=>this d (by omega) c⟩
def am4(h:Int->Prop)(c b:Int)(q:c<=b)(j:¬∀a,c<=a->a<=b->h a):∃a,c<=a/\a<=b/\¬h a/\∀v,a<v->v<=b->h v:=by
 generalize t:(b -c).toNat=k
 induction k generalizing b with
 |zero=>
  have d:c=b:=by omega
  subst d;refine⟨c,by omega,by omega,λm=>j λa e f=>?_,λv e f=>by omega⟩
  have d:a=c:=by omega
  rw[d];exact m
 |succ k r=>
  by_cases i:h b
  .obtain⟨a,e,f,l,o⟩:=r (b -1) (by omega) (λn=>j λa e f=>by
    by_cases d:a=b
    .rw[d];exact i
    .exact n a e (by omega)) (by omega)
   refine⟨a,e,by omega,l,λv p s=>?_⟩
   by_cases d:v=b
   .rw[d];exact i
   .exact o v p (by omega)
  .exact⟨b,q,ej _,i,λv e f=>by omega⟩
def Snd.agP(o:tr.Ok T)(h:Snd A tr T τ g){S:Int->Prop}[DecidablePred S]{b to blind:Int}{g1:Int->Int}(L:τ<=b)(m:to<=T)(M:0<=blind)(N:blind<to -b)
 (w:∀s e,b<=s->e<=to->s<=e->(∀c,s<=c->c<=e->S (tr.pl c))->e -s<=blind)
 (t:∀c,b<=c->c<=to->¬S (tr.pl c)->g1 (tr.pl c)<=g (tr.pl c)) (D:pG A (to -blind) S g1) (C:g' (tr.pl to)<=g1 (tr.pl to)) (E:eN A to g'):Snd A tr T to g':=by
 have K:=h.lo;have y:g1 (tr.pl to)<=tr.L3 to:=by
  by_cases x:S (tr.pl to)
  .have H:¬∀c,b<=c->c<=to->S (tr.pl c):=λF=>by
    have:=w b to (ej _) (ej _) (by omega) F;omega
   obtain⟨d,G,n,u,k⟩:=am4 (λc=>S (tr.pl c)) b to (by omega) H;have I:d<to:=by
    rcases Int.lt_or_eq_of_le n with h |h
    .exact h
    .subst h;exact absurd x u
   have:=w (d+1) to (by omega) (ej _) (by omega) λc l j=>k c (by omega) j
   exact stay o (S:=S) (a:=d) (b:=to) D (by omega) m (h.mv.less (by omega) (by omega)) (by omega) (λc l j=>k c l j) (hz (t d G n u) (h.ok d (by omega) (by omega))) to (by omega) (ej _)
  .exact hz (t to (by omega) (ej _) x) (h.ok to (by omega) (by omega))
 have:=stay o (S:=λ_=>True) (a:=to) (b:=T) E (by omega) (ej _) (h.mv.less (by omega) (ej _)) (by omega) (λ_ _ _=>trivial) (hz C y);exact⟨by omega,m,h.mv.less (by omega) (ej _),λc J B=>this c (by omega) B⟩
def Tr.ext(tr:Tr)(T d p a:Int):Tr:=⟨λc=>if c<=T then tr.pl c else if c<d then tr.pl T else p,λc=>if c<=T then tr.L3 c else if c<d then tr.L3 T else a⟩
def Tr.abS{d p a c:Int}(h:c<=T):(tr.ext T d p a).pl c=tr.pl c/\(tr.ext T d p a).L3 c=tr.L3 c:=by
 unfold Tr.ext;exact⟨if_pos h,if_pos h⟩
def Tr.ab8{d p a c:Int}(h:T<=c)(j:c<d):(tr.ext T d p a).pl c=tr.pl T/\(tr.ext T d p a).L3 c=tr.L3 T:=by
 unfold Tr.ext
 by_cases e:c<=T
 .have:c=T:=by omega
  subst this;exact⟨if_pos e,if_pos e⟩
 .exact⟨by dsimp only;rw[if_neg e,if_pos j],by dsimp only;rw[if_neg e,if_pos j]⟩
def Tr.acW{c p a:Int}(h:T<c):(tr.ext T c p a).pl c=p/\(tr.ext T c p a).L3 c=a:=by
 unfold Tr.ext;exact⟨by dsimp only;rw[if_neg (by omega),if_neg (by omega)],by dsimp only;rw[if_neg (by omega),if_neg (by omega)]⟩
def Tr.Ok.ext(j:tr.Ok T){c p a:Int}(h0:0<=T)(h:T<c)(m:c<=SM)(n:0<=a/\a<=c):(tr.ext T c p a).Ok c:=⟨m,λd k o=>by
 by_cases e:d<=T
 .rw[(Tr.abS e).2];exact j.L3 d k e
 .by_cases l:d<c
  .rw[(Tr.ab8 (by omega) l).2];have:=j.L3 T h0 (ej _);omega
  .have:d=c:=by omega
   subst this;rw[(Tr.acW h).2];exact n⟩
def Snd.tick(C:tr.Ok T)(h:Snd A tr T τ g)(D:eN A τ g){d p a:Int}(m:T<d)(F:d<=SM)(x:(p=tr.pl T/\a=tr.L3 T)\/∃n,A (tr.pl T) p n/\tr.L3 T+n<=d/\a=d):Snd A (tr.ext T d p a) d τ g:=by
 have E:=h.lo;have y:=h.le;have G:=C.L3 T (by omega) (ej _);have w:=h.ok T y (ej _);refine⟨E,by omega,λc t o=>?_,λc t o=>?_⟩
 .by_cases e:c<T
  .rw[(Tr.abS (show c<=T by omega)).1,(Tr.abS (show c<=T by omega)).2,(Tr.abS (show c+1<=T by omega)).1,(Tr.abS (show c+1<=T by omega)).2];exact h.mv c t e
  .rw[(Tr.ab8 (show T<=c by omega) o).1,(Tr.ab8 (show T<=c by omega) o).2]
   by_cases l:c+1<d
   .rw[(Tr.ab8 (show T<=c+1 by omega) l).1,(Tr.ab8 (show T<=c+1 by omega) l).2];exact .inl ⟨rfl,rfl⟩
   .have u:c+1=d:=by omega
    rw[u,(Tr.acW m).1,(Tr.acW m).2];rcases x with⟨j,k⟩ |⟨n,j,k,s⟩
    .exact .inl ⟨j,k⟩
    .exact .inr ⟨n,j,k,s⟩
 .by_cases e:c<=T
  .rw[(Tr.abS e).1,(Tr.abS e).2];exact h.ok c t e
  .by_cases l:c<d
   .rw[(Tr.ab8 (show T<=c by omega) l).1,(Tr.ab8 (show T<=c by omega) l).2];exact w
   .have u:c=d:=by omega
    rw[u,(Tr.acW m).1,(Tr.acW m).2];rcases x with⟨j,k⟩ |⟨n,j,k,s⟩
    .rw[j,k];exact w
    .rw[s];have B:max (g (tr.pl T)+n) τ<=d:=by omega
     exact hz (D _ _ n j trivial (by unfold T5 SM at*;omega) (by unfold SM at*;omega)) B
end
structure abc where
 t:Int
 num:Int
 bo:List Int
structure aaA (S:Int->Prop) (P M:Int) (tp:Int->Int->Int) (T:Int) (lk:Nat->abc) (c:Nat):Prop where
 bG:∀i,i<c->(lk i).t<=T
 seen:∀i X,i<c->X∈(lk i).bo->S (tp X (lk i).t)
 adj:∀i,i+1<c->(lk i).t<=(lk (i+1)).t/\(((lk (i+1)).num=(lk i).num+1/\(lk (i+1)).t - (lk i).t<=P)\/(lk (i+1)).num=(lk i).num+2)
 win:∀X (i:Nat),i+M.toNat<c->∃j,i<=j/\j<=i+M.toNat/\(S (tp X (lk j).t)->X∈(lk j).bo)
def aaA.mono{j:Int->Prop}{d l T:Int}{tp:Int->Int->Int}{lk:Nat->abc}{c:Nat}(h:aaA j d l tp T lk c):∀i k:Nat,i+k<c->(lk i).num+k<=(lk (i+k)).num:=by
 intro i k
 induction k with
 |zero=>intro _;simp
 |succ k m=>
  intro o;have n:=m (by omega);have a:=(h.adj (i+k) (by omega)).2;have e:i+(k+1)=i+k+1:=by omega
  rw[e];rcases a with a |a <;> omega
def aaA.next{k:Int->Prop}{d l T:Int}{tp:Int->Int->Int}{lk:Nat->abc}{c:Nat}(h:aaA k d l tp T lk c){i a:Nat}(hi:i<c)(m:a<c)(o:(lk a).num=(lk i).num+1):a=i+1/\(lk a).t - (lk i).t<=d:=by
 have e:a=i+1:=by
  by_cases n:a<=i
  .have:=h.mono a (i -a) (by omega);rw[show a+(i -a)=i by omega] at this;omega
  .have:=h.mono i (a -i) (by omega);rw[show i+(a -i)=a by omega] at this;omega
 subst e;refine⟨rfl,?_⟩
 rcases(h.adj i m).2 with j |j <;> omega
def aaA.run{l:Int->Prop}{k n T:Int}{tp:Int->Int->Int}{lk:Nat->abc}{c:Nat}(h:aaA l k n tp T lk c)(ix:Nat->Nat)(m:Nat)(d:∀a,a<=m->ix a<c)(j:∀a,a<m->(lk (ix (a+1))).num=(lk (ix a)).num+1):
 ∀a,a<=m->ix a=ix 0+a:=by
 intro a
 induction a with
 |zero=>intro _;rfl
 |succ a o=>
  intro e;have:=(h.next (d a (by omega)) (d (a+1) e) (j a (by omega))).1;rw[this,o (by omega)];omega
def aqQ(f:Nat->Int)(a:Int)(d:Nat)(p:a<f d):∃e,e<=d/\a<f e/\∀i,i<e->f i<=a:=by
 induction d with
 |zero=>exact⟨0,dv _,p,λi m=>by omega⟩
 |succ d h=>
  by_cases o:a<f d
  .obtain⟨e,u,b,r⟩:=h o;exact⟨e,by omega,b,r⟩
  .by_cases l:∀i,i<d+1->f i<=a
   .exact⟨d+1,dv _,p,l⟩
   .have ⟨i,m,s⟩:∃i,i<d+1/\a<f i:=j6 λk=>l λi m=>by
     by_cases j:f i<=a
     .exact j
     .exact absurd ⟨i,m,by omega⟩ k
    clear h o l
    induction i using sp with
    |_ i h=>
     by_cases q:∀c,c<i->f c<=a
     .exact⟨i,by omega,s,q⟩
     .have ⟨c,n,t⟩:∃c,c<i/\a<f c:=j6 λk=>q λc n=>by
       by_cases j:f c<=a
       .exact j
       .exact absurd ⟨c,n,by omega⟩ k
      exact h c n (by omega) t
def aaA.agP{S:Int->Prop}{j k T:Int}{tp:Int->Int->Int}{lk:Nat->abc}{c:Nat}(h:aaA S j k tp T lk c)(B:0<=j)(V:0<=k){X:Int}(ix:Nat->Nat)(m:Nat)(t:∀d,d<=m->ix d<c)(G:∀d,d<m->(lk (ix (d+1))).num=(lk (ix d)).num+1)
 (N:∀d,d<=m->X∉(lk (ix d)).bo) {s s':Int} (h0:(lk (ix 0)).t<=s) (O:s'<=(lk (ix m)).t) (Q:∀y,s<=y->y<=s'->S (tp X y)):s' -s<=(k+1)*j:=by
 by_cases M:s' -s<=(k+1)*j
 .exact M
 exfalso
 have W:0<=(k+1)*j:=Int.mul_nonneg (by omega) B;have l:=h.run ix m t G
 let f:Nat->Int:=λd=>(lk (ix d)).t
 obtain⟨a,a1,H,R⟩:=aqQ f s m (show s<f m by show s<(lk (ix m)).t;omega);have Y:1<=a:=by
  by_cases e:a=0
  .subst e;have:s<(lk (ix 0)).t:=H;omega
  .omega
 have I:∀d,d<m->f (d+1) -f d<=j:=λd w=>(h.next (t d (by omega)) (t (d+1) w) (G d w)).2
 have key:∀r:Nat,a+r<=m->f (a+r)<=s+(r+1:Int)*j:=by
  intro r
  induction r with
  |zero=>
   intro _;have o:=R (a -1) (by omega);have n:=I (a -1) (by omega);rw[show a -1+1=a by omega] at n;have e:((0:Nat)+1:Int)*j=j:=by simp
   rw[e];show f a<=s+j
   omega
  |succ r u=>
   intro D;have o:=u (by omega);have n:=I (a+r) (by omega);have e:(((r+1:Nat):Int)+1)*j=((r:Int)+1)*j+j:=by rw[show((r+1:Nat):Int)+1=((r:Int)+1)+1 by omega,Int.add_mul ((r:Int)+1),Int.one_mul]
   rw[e];show f (a+r+1)<=_
   omega
 have x:∀r:Nat,r<=k.toNat->a+r<=m:=by
  intro r
  induction r with
  |zero=>intro _;omega
  |succ r u=>
   intro D;have o:=u (by omega)
   by_cases e:a+r=m
   .have n:=key r o;rw[e] at n;have K:((r:Int)+1)*j<=(k+1)*j:=kd (by omega) B;have F:s'<=f m:=O;omega
   .omega
 have J:∀r:Nat,a+r<=m->s<f (a+r):=by
  intro r
  induction r with
  |zero=>intro _;exact H
  |succ r u=>
   intro D;have o:=u (by omega);have P:=(h.adj (ix (a+r)) (by rw[l (a+r) (by omega)];have:=t (a+r+1) (by omega);rw[l (a+r+1) (by omega)] at this;omega)).1;have e:ix (a+r)+1=ix (a+r+1):=by rw[l (a+r) (by omega),l (a+r+1) (by omega)];omega
   rw[e] at P;show s<(lk (ix (a+r+1))).t
   have n:s<(lk (ix (a+r))).t:=o;omega
 obtain⟨d,Z,ab,L⟩:=h.win X (ix a) (by
  have:=t (a+k.toNat) (x _ (dv _));rw[l _ (x _ (dv _))] at this;rw[l a a1];omega)
 have w:d=ix (a+(d -ix a)):=by
  have aa:=l a a1;have U:=l (a+(d -ix a)) (x _ (by omega));omega
 have C:=x (d -ix a) (by omega);have o:=key (d -ix a) C;have n:=J (d -ix a) C;have K:(((d -ix a:Nat):Int)+1)*j<=(k+1)*j:=kd (by omega) B;have F:f (a+(d -ix a))=(lk d).t:=by show(lk (ix (a+(d -ix a)))).t=_;rw[<-w]
 rw[F] at o n;have E:=L (Q _ (by omega) (by omega));rw[w] at E;exact N _ C E
def aaA.look{m:Int->Prop}{s j T:Int}{tp:Int->Int->Int}{lk:Nat->abc}{c:Nat}(h:aaA m s j tp T lk c){x:abc}(ht:x.t=T)(y:∀d,d∈x.bo->m (tp d T))
 (w:∀n,0<c->n=lk (c -1)->(x.num=n.num+1/\T -n.t<=s)\/x.num=n.num+2)
 (u:∀d,j.toNat<c+1->∃a,c -j.toNat<=a/\a<=c/\(m (tp d (if a=c then x else lk a).t)->d∈(if a=c then x else lk a).bo)):aaA m s j tp T (λi=>if i=c then x else lk i) (c+1):=by
 refine⟨λi hi=>?_,λi d hi l=>?_,λi hi=>?_,λd i hi=>?_⟩
 .by_cases e:i=c
  .rw[if_pos e,ht];exact ej _
  .rw[if_neg e];exact h.bG i (by omega)
 .by_cases e:i=c
  .rw[if_pos e] at l⊢;rw[ht];exact y d l
  .rw[if_neg e] at l⊢;exact h.seen i d (by omega) l
 .by_cases e:i+1=c
  .rw[if_neg (show i≠c by omega),if_pos e,ht];have k:=h.bG i (by omega);exact⟨k,w (lk i) (by omega) (by rw[<-e];rfl)⟩
  .rw[if_neg (show i≠c by omega),if_neg e];exact h.adj i (by omega)
 .by_cases e:i+j.toNat=c
  .obtain⟨a,k,t,o⟩:=u d (by omega);exact⟨a,by omega,by omega,o⟩
  .obtain⟨a,k,t,o⟩:=h.win d i (by omega);refine⟨a,k,t,?_⟩
   rw[if_neg (show a≠c by omega)];exact o
end Go.Top
namespace Go.X.T
open Go Go.Aml
def nV{e g:Type}{f:e->Option (e⊕g)}(c:Nat)(a:Nat->e)(b:g)(j:∀i,i<c->f (a i)=c6 (.inl (a (i+1))))(l:f (a c)=c6 (.inr b)):bO f (a 0)=c6 b:=by
 have h:∀d i,i+d=c->bO f (a i)=c6 b:=by
  intro d
  induction d with
  |zero=>intro i k;have:i=c:=by omega
         subst this;exact fZ l
  |succ d m=>intro i k;rw[iO (j i (by omega))];exact m (i+1) (by omega)
 exact h c 0 (by omega)
def di{l n:Type}{f:l->Option (l⊕n)}(g:Nat)(d:Nat->l->Prop)(k:n->Prop)(r:∀i a,i<g->d i a->Ok (f a) λc=>match c with | .inl p=>d (i+1) p | .inr b=>k b)
 (v:∀a,d g a->Ok (f a) λc=>match c with | .inl _=>False | .inr b=>k b):∀a,d 0 a->Ok (bO f a) k:=by
 have q:∀h i a,i+h=g->d i a->Ok (bO f a) k:=by
  intro h
  induction h with
  |zero=>
   intro i a u m;have:i=g:=by omega
   subst this;obtain⟨c,j,e⟩:=v a m;cases c with
   |inl o=>exact e.elim
   |inr b=>exact⟨b,fZ j,e⟩
  |succ h t=>
   intro i a u m;obtain⟨c,j,e⟩:=r i a (by omega) m;cases c with
   |inl o=>rw[iO j];exact t (i+1) o (by omega) e
   |inr b=>exact⟨b,fZ j,e⟩
 intro a s;exact q g 0 a (by omega) s
def jv{a:Type}(r:Nat->Option a):Nat->Nat->Option a
 |_,0=>c7
 |i,c+1=>match r i with
  |some b=>c6 b
  |none=>jv r (i+1) c
def xk{h:Type}{r:Nat->Option h}:∀{k i:Nat},jv r i k=c7↔∀a,i<=a->a<i+k->r a=c7
 |0,i=>⟨λ_ a d e=>by omega,λ_=>rfl⟩
 |k+1,i=>by
  unfold jv;cases f:r i with
  |some b=>exact⟨λc=>by simp at c,λc=>by have:=c i (dv _) (by omega);rw[f] at this;cases this⟩
  |none=>
   show jv r (i+1) k=c7↔_
   rw[xk];refine⟨λc a d e=>?_,λc a d e=>c a (by omega) (by omega)⟩
   by_cases g:a=i
   .rw[g];exact f
   .exact c a (by omega) (by omega)
def yO{f:Type}{r:Nat->Option f}{b:f}:∀{k i:Nat},jv r i k=c6 b->∃d,i<=d/\d<i+k/\r d=c6 b/\∀c,i<=c->c<d->r c=c7
 |0,i,a=>by cases a
 |k+1,i,a=>by
  unfold jv at a;cases e:r i with
  |some o=>rw[e] at a;injection a with a;subst a;exact⟨i,dv _,by omega,e,λc g l=>by omega⟩
  |none=>
   rw[e] at a;obtain⟨d,g,l,h,m⟩:=yO (r:=r) (i:=i+1) (k:=k) a;refine⟨d,by omega,by omega,h,λc p j=>?_⟩
   by_cases n:c=i
   .rw[n];exact e
   .exact m c (by omega) j
def Kp{c a:Type}(d:Option c)(e:a):c⊕a:=match d with |some b=>.inl b |none=>.inr e
def Xv{a c:Type}(d:Option a)(i:Nat):Int⊕(a⊕c):=match d with |some b=>.inr (.inl b) |none=>.inl ((i:Int)+1)
def Hf{j g:Type}{f:Int->Option (Int⊕(j⊕g))}(a:Nat)(r:Nat->Option j)(e:g)(l:∀i:Nat,i<a->f (i:Int)=c6 (Xv (r i) i))(n:f (a:Int)=c6 (.inr (.inr e))):
 bO f 0=c6 (Kp (jv r 0 a) e):=by
 have k:∀c i,i+c=a->bO f (i:Int)=c6 (Kp (jv r i c) e):=by
  intro c
  induction c with
  |zero=>intro i m;have:i=a:=by omega
         subst this;exact fZ n
  |succ c o=>
   intro i m;have d:=l i (by omega);unfold jv;cases h:r i with
   |some b=>rw[h] at d;exact fZ d
   |none=>
    rw[h] at d;rw[iO d];have:=o (i+1) (by omega);rw[show((i+1:Nat):Int)=(i:Int)+1 by omega] at this;exact this
 exact k a 0 (by omega)
def sy(b:Nat->Bool)(i:Nat):Option Unit:=bif b i then c6 () else c7
def oD{e:Type}{f:Int->Option (Int⊕(Unit⊕e))}(a:Nat)(b:Nat->Bool)(d:e)(h:∀i:Nat,i<a->f (i:Int)=c6 (bif b i then .inr (.inl ()) else .inl ((i:Int)+1)))(l:f (a:Int)=c6 (.inr (.inr d))):
 bO f 0=c6 (if ∀i,i<a->b i=false then .inr d else .inl ()):=by
 rw[Hf a (sy b) d (λi g=>by rw[h i g];unfold sy;cases b i <;> rfl) l]
 congr 1
 by_cases c:∀i,i<a->b i=false
 .rw[if_pos c,(xk (r:=sy b) (i:=0) (k:=a)).2 λj _ p=>by unfold sy;rw[c j (by omega)];rfl]
  rfl
 .rw[if_neg c];cases n:jv (sy b) 0 a with
  |some o=>rfl
  |none=>exact absurd (λi g=>by
   have:=(xk.1 n) i (ei _) (by omega);unfold sy at this;cases m:b i with
   |false=>rfl
   |true=>rw[m] at this;cases this) c
def mj{a:Type}(p:a->Bool)(c:List a)(i:Nat):Option Int:=match c[i]? with |some b=>bif p b then c6 (i:Int) else c7 |none=>c7
def gg{b:Type}(p:b->Bool)(a:List b):Int:=match jv (mj p a) 0 a.length with |some i=>i |none=>-1
def fF{d:Type}{l:List d}{P:d->Option Bool}{p:d->Bool}{f:Int->Option (Int⊕(Int⊕Unit))}(n:l.length<=4611686018427387904)(j:∀b,b∈l->P b=c6 (p b))
 (e:∀a,f a=bif c5 (a<(l.length:Int)) then(aj l a).bind λb=>(P b).bind λm=>bif m then c6 (.inr (.inl a)) else c6 (.inl (c3 c4 (a+1))) else c6 (.inr (.inr ()))):
 ((bO f 0).bind λk=>Sum.elim (λh=>c6 h) (λ_=>c6 (-1)) k)=c6 (gg p l):=by
 rw[Hf l.length (mj p l) () (λi c=>?_) (by rw[e,aG])]
 .unfold gg;cases jv (mj p l) 0 l.length <;> rfl
 .rw[e,aC,bn,dk c,aa,j _ (j5 c),aa];unfold mj;rw[dk c];cases g:p l[i] with
  |true=>simp only[g,cond_true];rfl
  |false=>simp only[g,cond_false];rw[aJ];rfl
def Aw{h:Type}{p:h->Bool}{f:List h}:(0<=gg p f)↔∃c,c∈f/\p c=true:=by
 unfold gg;cases g:jv (mj p f) 0 f.length with
 |none=>
  refine⟨λg=>by simp at g,?_⟩
  rintro⟨c,e,d⟩;obtain⟨i,j,rfl⟩:=ih.1 e;have:=(xk.1 g) i (ei _) (by omega);unfold mj at this;rw[dk j] at this;simp only[d,cond_true] at this;cases this
 |some b=>
  obtain⟨k,_,l,a,_⟩:=yO g;unfold mj at a;cases e:f[k]? with
  |none=>rw[e] at a;cases a
  |some c=>
   rw[e] at a;cases d:p c with
   |false=>simp only[d,cond_false] at a;cases a
   |true=>
    simp only[d,cond_true] at a;injection a with a
    refine⟨λ_=>⟨c,fC e,d⟩,λ_=>?_⟩
    show(0:Int)<=b
    omega
def HN{f:Type}{p:f->Bool}{c:List f}(j:0<=gg p c):∃(i:Nat) (e:f),gg p c=(i:Int)/\c[i]?=c6 e/\p e=true/\∀(d:Nat) (g:f),d<i->c[d]?=c6 g->p g=false:=by
 unfold gg at j⊢;cases l:jv (mj p c) 0 c.length with
 |none=>rw[l] at j;simp at j
 |some b=>
  obtain⟨d,_,s,a,q⟩:=yO l;unfold mj at a;cases k:c[d]? with
  |none=>rw[k] at a;cases a
  |some e=>
   rw[k] at a;cases h:p e with
   |false=>simp only[h,cond_false] at a;cases a
   |true=>
    simp only[h,cond_true] at a;injection a with a
    refine⟨d,e,a.symm,k,h,λr g n o=>?_⟩
    have:=q r (ei _) n;unfold mj at this;rw[o] at this;cases m:p g with
    |false=>rfl
    |true=>simp only[m,cond_true] at this;cases this
def gm{b:Type}{p:b->Bool}{a:List b}:c5 (0<=gg p a)=a.any p:=by
 rw[sT,decide_eq_true_iff,Aw,List.any_eq_true]
def cF(a b c:Int):cp LC a b c=c6 (c5 (b<=a/\a<=c)):=by
 unfold cp;exact fm rfl
def cj(c b:Int)(a:List Int):Prop:=∀i:Nat,i<a.length->c<=a.getD i 0/\a.getD i 0<=b/\(0<i->a.getD (i -1) 0<a.getD i 0)
instance (c b:Int) (a:List Int):Decidable (cj c b a):=by unfold cj;exact Nat.decidableBallLT _ _
def pu{a:Type}{c:List a}{i:Nat}{e b:a}(d:c[i]?=c6 b):c.getD i e=b:=by rw[List.getD_eq_getElem?_getD,d];rfl
def uu{a:List Int}{i:Nat}(b:i<a.length):aj a (i:Int)=c6 (a.getD i 0):=by rw[bn,dk b,pu (dk b)]
def kw(a:List Int)(d b:Int)(l:a.length<=4611686018427387904):iU LC a d b=c6 (c5 (cj d b a)):=by
 unfold iU;have k:bO (λg=>wx LC a d b g) 0=c6 (if ∀i,i<a.length->(λi:Nat=>c5 (¬(d<=a.getD i 0/\a.getD i 0<=b/\(0<i->a.getD (i -1) 0<a.getD i 0)))) i=false then .inr () else .inl ()):=by
  refine oD a.length _ () (λi e=>?_) ?_
  .unfold wx;rw[aC,uu e,aa];have j:(bif c5 (0<(i:Int)) then(aj a (c3 c4 ((i:Int) -1))).bind λh=>c6 (c5 (a.getD i 0<=h)) else c6 false)=c6 (c5 (0<i/\a.getD i 0<=a.getD (i -1) 0)):=by
    by_cases h0:0<i
    .rw[aC,aJ,show(i:Int) -1=((i -1:Nat):Int) by omega,uu (by omega),aa]
     congr 1
     exact decide_eq_decide.2 ⟨λc=>⟨h0,c⟩,λc=>c.2⟩
    .rw[aG]
     congr 1
     exact(decide_eq_false λc=>h0 c.1).symm
   rw[j,ew (ew rfl),aa,aJ]
   by_cases f:d<=a.getD i 0/\a.getD i 0<=b/\(0<i->a.getD (i -1) 0<a.getD i 0)
   .rw[decide_eq_false (by omega),decide_eq_false (by rw[hD];exact f)];rfl
   .rw[decide_eq_true (show a.getD i 0<d\/b<a.getD i 0\/(0<i/\a.getD i 0<=a.getD (i -1) 0) by omega),decide_eq_true f];rfl
  .unfold wx;rw[aG]
 rw[show LC.loop (λg=>wx LC a d b g) 0=_ from k,aa]
 by_cases c:cj d b a
 .rw[if_pos (λi e=>decide_eq_false (by rw[hD];exact c i e)),decide_eq_true c];rfl
 .rw[if_neg (λf=>c λi e=>by have:=of_decide_eq_false (f i e);rw[hD] at this;exact this),decide_eq_false c];rfl
def cj.mem{a b:Int}{c:List Int}(h:cj a b c){x:Int}(d:x∈c):a<=x/\x<=b:=by
 obtain⟨i,hi,rfl⟩:=ih.1 d;have:=h i hi;rw[pu (dk hi)] at this;exact⟨this.1,this.2.1⟩
def cj.lt{a b:Int}{d:List Int}(h:cj a b d):∀{i c:Nat},i<c->c<d.length->d.getD i 0<d.getD c 0:=by
 intro i c m
 induction c with
 |zero=>omega
 |succ c l=>
  intro k;have j:=(h (c+1) k).2.2 (by omega);rw[show c+1 -1=c by omega] at j
  by_cases e:i=c
  .rw[e];exact j
  .exact Int.lt_trans (l (by omega) (by omega)) j
def cj.len{a b:Int}{c:List Int}(h:cj a b c)(k:a<=b+1):(c.length:Int)<=b -a+1:=by
 have key:∀i:Nat,i<c.length->a+i<=c.getD i 0:=by
  intro i
  induction i with
  |zero=>intro hi;have:=(h 0 hi).1;omega
  |succ i j=>
   intro hi;have d:=j (by omega);have e:=h.lt (show i<i+1 by omega) hi;omega
 by_cases h0:c.length=0
 .omega
 .have d:=key (c.length -1) (by omega);have e:=(h (c.length -1) (by omega)).2.1;omega
def cj.nil{a b:Int}:cj a b []:=λi hi=>by simp at hi
def cj.one{a b x:Int}(c:a<=x)(d:x<=b):cj a b [x]:=λi hi=>by
 have:i=0:=by simpa using hi
 subst this;exact⟨c,d,λh=>by omega⟩
def jx(a:Nat)(r:aZ):Prop:=
 (0<=r.an/\r.an<a/\0<=r.To/\r.To<a/\r.an≠r.To)/\(1<=r.aj3/\r.aj3<=100000/\1<=r.bT/\r.bT<=1000)/\
 (1<=r.anC.eF/\r.anC.eF<=r.anC.fk/\r.anC.fk<=262144)/\(-2199023255552<=r.eI.eF/\r.eI.eF<=r.eI.fk/\r.eI.fk<=2199023255552)
instance (a:Nat) (r:aZ):Decidable (jx a r):=by unfold jx;infer_instance
def cP(a:ak):Prop:=a.ai.length<=64/\a.af.length<=128/\(∀p,p∈a.ai->-10000<=p.eU/\p.eU<=10000)/\∀r,r∈a.af->jx a.ai.length r
instance (a:ak):Decidable (cP a):=by unfold cP;infer_instance
def Tp(a:bI)(c b:Int):yQ LC a c b=c6 (c5 (c<=a.eF/\a.eF<=a.fk/\a.fk<=b)):=by
 unfold yQ;exact fm (fm rfl)
def de{d:Type}{b:Bool}{a c:d}:(bif (!b) then a else c)=bif b then c else a:=by cases b <;> rfl
def fh{p q:Prop}[Decidable p][Decidable q]{b:Option Bool}(c:b=c6 (decide q)):(bif (!decide p) then c6 true else b)=c6 (c5 (¬p\/q)):=by
 by_cases a:p
 .rw[decide_eq_true a,p0,cond_false,c]
  congr 1
  exact decide_eq_decide.2 ⟨.inr,λd=>d.resolve_left (λe=>e a)⟩
 .rw[decide_eq_false a,o9,cond_true,decide_eq_true (.inl a)]
def lA{p:Prop}[Decidable p]:c6 (!decide p)=c6 (c5 (¬p)):=by rw[decide_not]
def VM(a:ak):∃j:Int,zG LC a=c6 j/\(j=0↔cP a):=by
 unfold zG;rw[ew rfl,aa]
 by_cases h0:64<(a.ai.length:Int)\/128<(a.af.length:Int)
 .rw[aC h0];exact⟨2,rfl,⟨λb=>absurd b (by decide),λb=>by have g:=b.1;have A:=b.2.1;omega⟩⟩
 rw[aG h0];have y:bO (λe=>yL LC a e) 0=c6 (if ∀i,i<a.ai.length->(λi:Nat=>match a.ai[i]? with |some p=>c5 (p.eU< -10000\/10000<p.eU) |none=>false) i=false then .inr () else .inl ()):=by
  refine oD _ _ () (λi c=>?_) ?_
  .unfold yL;rw[aC,bn,dk c,aa,ew rfl,aa,aJ]
   by_cases f:a.ai[i].eU< -10000\/10000<a.ai[i].eU
   .rw[decide_eq_true f];simp only[dk c,decide_eq_true f,cond_true]
   .rw[decide_eq_false f];simp only[dk c,decide_eq_false f,cond_false]
  .unfold yL;rw[aG]
 rw[show LC.loop (λe=>yL LC a e) 0=_ from y,aa]
 by_cases g:∀p,p∈a.ai->-10000<=p.eU/\p.eU<=10000
 .rw[if_pos (λi c=>by
   dsimp only;rw[dk c];have:=g _ (j5 c);exact decide_eq_false (by omega))]
  rw[yv];have u:bO (λe=>vX LC a e) 0=c6 (Kp (jv (λi=>match a.af[i]? with
   |some r=>if ¬(0<=r.an/\r.an<a.ai.length/\0<=r.To/\r.To<a.ai.length/\r.an≠r.To) then c6 (4:Int) else if jx a.ai.length r then c7 else c6 1
   |none=>c7) 0 a.af.length) ()):=by
   refine Hf _ _ () (λi c=>?_) ?_
   .unfold vX;rw[aC,bn,dk c,aa,ew (ew (ew (ew rfl))),aa];dsimp only;generalize a.af[i]=r
    by_cases l:0<=r.an/\r.an<a.ai.length/\0<=r.To/\r.To<a.ai.length/\r.an≠r.To
    .rw[aG,if_neg (λb=>b l),ew (ew (ew rfl)),aa]
     by_cases o:1<=r.aj3/\r.aj3<=100000/\1<=r.bT/\r.bT<=1000
     .rw[aG,Tp,Tp,aa,aa,lA,fh rfl,aa]
      by_cases h:jx a.ai.length r
      .rw[if_pos h,aG (by have w:=h.2.2.1;have d:=h.2.2.2;omega),aJ];rfl
      .rw[if_neg h,aC (by
        by_cases m:1<=r.anC.eF/\r.anC.eF<=r.anC.fk/\r.anC.fk<=262144
        .exact .inr λz=>h ⟨l,o,m,z⟩
        .exact .inl m)];rfl
     .rw[aC,if_neg (λb=>o b.2.1)];rfl
    .rw[aC,if_pos l];rfl
   .unfold vX;rw[aG]
  rw[show LC.loop (λe=>vX LC a e) 0=_ from u,aa];cases s:jv (λi=>match a.af[i]? with
   |some r=>if ¬(0<=r.an/\r.an<a.ai.length/\0<=r.To/\r.To<a.ai.length/\r.an≠r.To) then c6 (4:Int) else if jx a.ai.length r then c7 else c6 1
   |none=>c7) 0 a.af.length with
  |some j=>
   obtain⟨n,_,w,d,_⟩:=yO s;have t:n<a.af.length:=by omega
   rw[dk t] at d;dsimp only at d;have q:j≠0/\¬jx a.ai.length a.af[n]:=by
    split at d
    .rename_i k;injection d with d
     exact⟨by omega,λb=>k b.1⟩
    .split at d
     .cases d
     .rename_i k;injection d with d
      exact⟨by omega,k⟩
   exact⟨j,rfl,⟨λb=>absurd b q.1,λb=>absurd (b.2.2.2 _ (j5 t)) q.2⟩⟩
  |none=>
   refine⟨0,rfl,⟨λ_=>⟨by omega,by omega,g,λr v=>?_⟩,λ_=>rfl⟩⟩
   obtain⟨i,c,rfl⟩:=ih.1 v;have:=(xk.1 s) i (ei _) (by omega);rw[dk c] at this;dsimp only at this
   split at this
   .cases this
   .split at this
    .assumption
    .cases this
 .rw[if_neg (λf=>g λp x=>by
   obtain⟨i,c,rfl⟩:=ih.1 x;have:=f i c;dsimp only at this;rw[dk c] at this;have:=of_decide_eq_false this;omega)]
  exact⟨1,rfl,⟨λb=>absurd b (by decide),λb=>absurd b.2.2.1 g⟩⟩
def ko(a:ak):ij LC a=c6 (c5 (cP a)):=by
 obtain⟨d,b,c⟩:=VM a;unfold ij;rw[b,aa]
 congr 1
 exact decide_eq_decide.2 c
def Sm{b:Type}(a:List b):Prop:=a.length<=1000000
def pr{e:Type}{b:Nat}{a:List e}(f:b<=100)(d:Sm a):bj b [] a=c6 a:=by
 rw[pN]
 .rfl
 .have c:a.length<=1000000:=d;have:a.length*b<=1000000*100:=vd c f;simp only[ta,j2];omega
def dm{c:Type}{b:Nat}{a:List c}{d:c}(e:b<=100)(f:a.length<=2000000):bj b a [d]=c6 (a++[d]):=by
 refine pN ?_
 have:(a.length+1)*b<=2000001*100:=vd (by omega) e;simp only[m5,ta,j2];omega
def bV{a:List Int}(b:Sm a):cc LC a=c6 a:=pr (by decide) b
def mV{a:List bP}(b:Sm a):kF LC a=c6 a:=pr (by decide) b
def nk{a:List aZ}(b:Sm a):kQ LC a=c6 a:=pr (by decide) b
def Ep{a:List bC}(b:Sm a):rf LC a=c6 a:=pr (by decide) b
def zS{a:List bI}(b:Sm a):q9 LC a=c6 a:=pr (by decide) b
def wE{a:List cy}(b:Sm a):pI LC a=c6 a:=pr (by decide) b
def jg{c:Type}{b done rest:List c}{a:c}(d:b=done++a::rest):aj b (done.length:Int)=c6 a:=by
 subst d;rw[bn,e6 (dv _),q7]
 rfl
def jm{b e j:Type}{f:e->Option (e⊕j)}(a:List b)(c:List b->Int->e)(d:List b->j)
 (k:∀(done:List b) (h:b) (o:List b),a=done++h::o->f (c done (done.length:Int))=c6 (.inl (c (done++[h]) ((done.length:Int)+1)))) (m:f (c a (a.length:Int))=c6 (.inr (d a))):bO f (c [] 0)=c6 (d a):=by
 have:=nV (f:=f) a.length (λi=>c (a.take i) (i:Int)) (d a) (λi l=>?_) (by simpa using m)
 .simpa using this
 .have g:=k (a.take i) a[i] (a.drop (i+1)) (by rw[<-List.drop_eq_getElem_cons l,k8]);have n:(a.take i).length=i:=by rw[dt];omega
  rw[n,List.take_append_getElem] at g;exact g
def iy{a:Type}{b done e:List a}{d:a}(c:b=done++d::e):(done.length:Int)<(b.length:Int):=by
 subst c;rw[ea,m5];omega
def ks{a:Type}{c done e:List a}{b:a}(d:c=done++b::e):b∈c:=by subst d;simp
def MZ(c:Int):∀a,(mM c a).Perm (c::a)
 |[]=>.refl _
 |b::a=>by
  unfold mM;cases c5 (c<=b) with
  |true=>exact .refl _
  |false=>exact((MZ c a).cons b).trans (.swap c b a)
def uK:∀a,(dQ a).Perm a
 |[]=>.refl _
 |b::a=>(MZ b (dQ a)).trans ((uK a).cons b)
def uP(a:List Int):(dQ a).length=a.length:=(uK a).length_eq
def zF{a:List Int}(b:Sm a):rl LC a=c6 (dQ a):=by
 unfold rl rC;have c:a.length<=1000000:=b;rw[show x2 a.length 140737488355328=true from o2 (by omega)]
 rfl
def Iy{a:List Int}(b:Sm a):rG LC a=c6 (dQ a):=by
 unfold rG Kx IA;rw[pr (by decide) b,aa,aa,zF b,aa]
def lz(a:List Int):Prop:=cj 1 65535 (dQ a)
instance (a:List Int):Decidable (lz a):=by unfold lz;infer_instance
def KN{a:List Int}(b:Sm a):ym LC a=c6 (c5 (lz a)):=by
 unfold ym qK;have c:a.length<=1000000:=b;rw[aa,Iy b,aa,kw _ _ _ (by rw[uP];omega),aa]
 rfl
def O6{a:List Int}(b:Sm a):AI LC a=c6 (c5 (lz a)):=KN b
def cj.nodup{a b:Int}{c:List Int}(h:cj a b c):c.Nodup:=by
 refine List.pairwise_iff_getElem.2 λi l hi d k e=>?_
 have j:=h.lt k d;rw[pu (dk hi),pu (dk d),e] at j;omega
def lz.nodup{a:List Int}(h:lz a):a.Nodup:=(uK a).nodup_iff.1 (cj.nodup h)
def lS(a:Nat)(r:aS):Prop:=r.ai.length≠0/\cj 0 ((a:Int) -1) r.ai/\(1<=r.dX/\r.dX<=600)/\(0<=r.dY/\r.dY<=10)/\0<=r.cR/\r.cR<=60
instance (a:Nat) (r:aS):Decidable (lS a r):=by unfold lS;infer_instance
def uG(a:ak)(b:List aS):Prop:=cP a/\b.length<=32/\∀r,r∈b->lS a.ai.length r
instance (a:ak) (b:List aS):Decidable (uG a b):=by unfold uG;infer_instance
def X7{d:ak}{r:aS}(g:d.ai.length<=64)(f:r.ai.length<=4611686018427387904):wN LC r d=c6 (!c5 (lS d.ai.length r)):=by
 unfold wN;rw[aJ,kw _ _ _ f,aa,cF,aa,cF,aa,cF,aa,lA,fh (fh (fh rfl)),ew rfl,lA]
 congr 1
 apply decide_eq_decide.2
 unfold lS
 by_cases e:(r.ai.length:Int)=0
 .exact⟨λ_ a=>a.1 (by omega),λ_=>.inl e⟩
 .refine⟨λa c=>?_,λa=>.inr ?_⟩
  .rcases a with a |a |a |a |a
   .exact e a
   .exact a c.2.1
   .exact a c.2.2.1
   .exact a c.2.2.2.1
   .exact a c.2.2.2.2
  .refine gb λb=>a ?_
   simp only[not_or,hD] at b;exact⟨by omega,b.1,b.2.1,b.2.2.1,b.2.2.2⟩
def ot{c:Type}{p:c->Prop}[DecidablePred p]{b:List c}:(!b.any λa=>!c5 (p a))=c5 (∀a,a∈b->p a):=by
 rw[sT,decide_eq_true_iff];simp
abbrev Fit{b:Type}(a:List b):Prop:=a.length<=4611686018427387904
def Pm(a:ak)(l:List aS)(g:∀r,r∈l->Fit r.ai):wI LC a l=c6 (c5 (uG a l)):=by
 unfold wI;rw[ko,aa]
 by_cases c:cP a
 .rw[aC c]
  by_cases e:(l.length:Int)<=32
  .rw[aC e];have h:El LC l a=c6 (l.any λr=>!c5 (lS a.ai.length r)):=by
    unfold El Fh;have:=fF (l:=l) (P:=λr=>wN LC r a) (p:=λr=>!c5 (lS a.ai.length r)) (f:=λd=>Ha LC l a d) (by omega) (λr i=>X7 c.1 (g r i)) (λd=>rfl);rw[show(LC.loop (λd=>Ha LC l a d) 0).bind _=_ from this,aa,gm]
   rw[h,aa,ot]
   congr 1
   exact decide_eq_decide.2 ⟨λb=>⟨c,by omega,b⟩,λb=>b.2.2⟩
  .rw[aG e,decide_eq_false (λb=>e (by have:=b.2.1;omega))]
 .rw[aG c,decide_eq_false (λb=>c b.1)]
def jo(a:ak)(p:Int):Int:=match a.ai[p.toNat]? with |some b=>b.eU |none=>0
def fy(a:ak)(r:aZ)(b:Bool):Int:=if b then -(jo a r.To -jo a r.an) else jo a r.To -jo a r.an
def wt(b:ak)(r:aZ)(a:Bool)(c d e:Int):Int:=
 if r.eN=true\/r.jy=false then -1 else(10*r.aj3+(if r.aj3<10*fy b r a then c else if r.aj3< -10*fy b r a then d else e) -1)/ (if r.aj3<10*fy b r a then c else if r.aj3< -10*fy b r a then d else e)
def Ph{a:ak}(g:cP a){i:Nat}{r:aZ}(k:a.af[i]?=c6 r)(b:Bool)(p:kD)(f:(1<=p.up/\p.up<=100)/\(1<=p.down/\p.down<=100)/\1<=p.level/\p.level<=100):
 xu LC a (i:Int) b p=c6 (wt a r b p.up p.down p.level):=by
 obtain⟨⟨l,F,A,H,B⟩,⟨G,I,D,E⟩,_⟩:=g.2.2.2 r (fC k);unfold xu;rw[bn,k,aa];unfold wt;have u:(bif r.eN then c6 true else c6 (!r.jy))=c6 (c5 (r.eN=true\/r.jy=false)):=by cases r.eN <;> cases r.jy <;> rfl
 rw[u,aa]
 by_cases e:r.eN=true\/r.jy=false
 .rw[aC e,if_pos e]
 rw[aG e,if_neg e];have z:aj a.ai r.To=c6 (a.ai[r.To.toNat]'(by omega)):=qC A (by omega);have w:aj a.ai r.an=c6 (a.ai[r.an.toNat]'(by omega)):=qC l (by omega);have j:jo a r.To=(a.ai[r.To.toNat]'(by omega)).eU:=by unfold jo;rw[dk (by omega)]
 have h:jo a r.an=(a.ai[r.an.toNat]'(by omega)).eU:=by unfold jo;rw[dk (by omega)]
 have q:=g.2.2.1 _ (j5 (show r.To.toNat<a.ai.length by omega));have o:=g.2.2.1 _ (j5 (show r.an.toNat<a.ai.length by omega));rw[z,aa,w,aa, <-j, <-h];rw[<-j] at q;rw[<-h] at o;have m:(bif b then c6 (c3 c4 (0 -c3 c4 (jo a r.To -jo a r.an))) else c6 (c3 c4 (jo a r.To -jo a r.an)))=c6 (fy a r b):=by
  unfold fy;rw[aJ (n:=jo a r.To -jo a r.an),aJ (n:=0 - (jo a r.To -jo a r.an))];cases b
  .rfl
  .simp only[cond_true,if_true];congr 1;omega
 have C: -20000<=fy a r b/\fy a r b<=20000:=by unfold fy;split <;> omega
 rw[m,aa,aJ (n:=10*fy a r b),aJ (n:=-10*fy a r b)];have y:(bif c5 (r.aj3<10*fy a r b) then c6 p.up else(bif c5 (r.aj3< -10*fy a r b) then c6 p.down else c6 p.level).bind λt=>c6 t)=c6 (if r.aj3<10*fy a r b then p.up else if r.aj3< -10*fy a r b then p.down else p.level):=by
  by_cases c:r.aj3<10*fy a r b
  .rw[aC c,if_pos c]
  .rw[aG c,if_neg c]
   by_cases d:r.aj3< -10*fy a r b
   .rw[aC d,if_pos d];rfl
   .rw[aG d,if_neg d];rfl
 rw[y,aa];have x:1<=(if r.aj3<10*fy a r b then p.up else if r.aj3< -10*fy a r b then p.down else p.level)/\(if r.aj3<10*fy a r b then p.up else if r.aj3< -10*fy a r b then p.down else p.level)<=100:=by
  split
  .exact f.1
  .split
   .exact f.2.1
   .exact f.2.2
 generalize (if r.aj3<10*fy a r b then p.up else if r.aj3< -10*fy a r b then p.down else p.level)=v at x⊢;rw[aJ (n:=10*r.aj3),aJ (n:=10*r.aj3+v),aJ (n:=10*r.aj3+v -1),Ek (by omega),aa];have s:(10*r.aj3+v -1).tdiv v=(10*r.aj3+v -1)/v:=Int.tdiv_eq_ediv_of_nonneg (by omega);have h0:0<=(10*r.aj3+v -1)/v:=Int.ediv_nonneg (by omega) (by omega);have c:(10*r.aj3+v -1)/v<=10*r.aj3+v -1:=r5 _ (by omega);rw[s,aJ]
def aoC{a:ak}{r:aZ}{b:Bool}{c d e:Int}(i:1<=r.aj3/\r.aj3<=100000)(f:(1<=c/\c<=100)/\(1<=d/\d<=100)/\1<=e/\e<=100):wt a r b c d e= -1\/(1<=wt a r b c d e/\wt a r b c d e<=1000099):=by
 unfold wt
 split
 .exact .inl rfl
 .right
  have g:1<=(if r.aj3<10*fy a r b then c else if r.aj3< -10*fy a r b then d else e)/\(if r.aj3<10*fy a r b then c else if r.aj3< -10*fy a r b then d else e)<=100:=by
   split
   .exact f.1
   .split
    .exact f.2.1
    .exact f.2.2
  generalize (if r.aj3<10*fy a r b then c else if r.aj3< -10*fy a r b then d else e)=v at g⊢;have h:(10*r.aj3+v -1)/v<=10*r.aj3+v -1:=r5 _ (by omega);refine⟨?_,by omega⟩
  refine Int.le_ediv_of_mul_le (by omega) ?_
  omega
def wT(a:ak)(i:Int)(b:Bool)(c d e:Int):Int:=if cP a/\0<=i then(match a.af[i.toNat]? with |some r=>wt a r b c d e |none=>-1) else -1
def rF(a:ak)(i:Int)(b:Bool){u d l:Int}(f:(1<=u/\u<=100)/\(1<=d/\d<=100)/\1<=l/\l<=100):wT a i b u d l= -1\/(1<=wT a i b u d l/\wT a i b u d l<=1000099):=by
 unfold wT
 split
 .rename_i c
  split
  .rename_i r e;have:=(c.1.2.2.2 r (fC e)).2.1;exact aoC ⟨this.1,this.2.1⟩ f
  .exact .inl rfl
 .exact .inl rfl
def Oz(a:ak)(i:Int):((ij LC a).bind λb=>bif (!b) then c6 true else bif c5 (i<0) then c6 true else c6 (c5 ((a.af.length:Int)<=i)))=c6 (c5 (¬cP a\/i<0\/(a.af.length:Int)<=i)):=by
 rw[ko,aa,fh (ew rfl)]
def Cv(c:ak)(i:Int)(b:Bool):rO LC c i b=c6 (wT c i b 6 9 12):=by
 unfold rO;rw[Oz,aa];unfold wT
 by_cases a:¬cP c\/i<0\/(c.af.length:Int)<=i
 .rw[aC a]
  split
  .rename_i d;have j:(c.af.length:Int)<=i:=by
    rcases a with a |a |a
    .exact absurd d.1 a
    .omega
    .exact a
   rw[hQ (by omega)]
  .rfl
 .rw[aG a];have e:cP c:=gb λh=>a (.inl h)
  have f:i.toNat<c.af.length:=by
   have:¬(c.af.length:Int)<=i:=λd=>a (.inr (.inr d))
   have:¬i<0:=λd=>a (.inr (.inl d))
   omega
  have h0:¬i<0:=λd=>a (.inr (.inl d))
  rw[if_pos ⟨e,by omega⟩,dk f];unfold FX G5;have g:i=((i.toNat:Nat):Int):=by omega
  rw[aa]
  conv=>lhs;rw[g]
  rw[Ph e (dk f) b _ (by decide)]
  rfl
def AF(c:ak)(i:Int)(b:Bool):nK LC c i b=c6 (wT c i b 2 3 4):=by
 unfold nK;rw[Oz,aa];unfold wT
 by_cases a:¬cP c\/i<0\/(c.af.length:Int)<=i
 .rw[aC a]
  split
  .rename_i d;have j:(c.af.length:Int)<=i:=by
    rcases a with a |a |a
    .exact absurd d.1 a
    .omega
    .exact a
   rw[hQ (by omega)]
  .rfl
 .rw[aG a];have e:cP c:=gb λh=>a (.inl h)
  have f:i.toNat<c.af.length:=by
   have:¬(c.af.length:Int)<=i:=λd=>a (.inr (.inr d))
   have:¬i<0:=λd=>a (.inr (.inl d))
   omega
  have h0:¬i<0:=λd=>a (.inr (.inl d))
  rw[if_pos ⟨e,by omega⟩,dk f];unfold Fx;have g:i=((i.toNat:Nat):Int):=by omega
  rw[aa]
  conv=>lhs;rw[g]
  rw[Ph e (dk f) b _ (by decide)]
  rfl
def mQ(a:ak)(i p:Int):Int:=
 if 0<=i then(match a.af[i.toNat]? with |some r=>if p=r.an then wT a i false 6 9 12 else if p=r.To then wT a i true 6 9 12 else -1 |none=>-1) else -1
def Tt(a:ak)(i p:Int)(f:a.af.length<=4611686018427387904):yM LC a i p=c6 (mQ a i p):=by
 unfold yM mQ;rw[aJ,cF,aa,de]
 by_cases c:0<=i/\i<=(a.af.length:Int) -1
 .have e:i.toNat<a.af.length:=by omega
  have g:aj a.af i=c6 a.af[i.toNat]:=qC c.1 (by omega);rw[aC c,g,aa,aa,if_pos c.1,dk e];dsimp only
  by_cases b:p=a.af[i.toNat].an
  .rw[aC b,if_pos b,Cv,aa]
  .rw[aG b,if_neg b]
   by_cases d:p=a.af[i.toNat].To
   .rw[aC d,if_pos d,Cv,aa]
   .rw[aG d,if_neg d]
 .rw[aG c]
  by_cases h0:0<=i
  .rw[if_pos h0,hQ (by omega)]
  .rw[if_neg h0]
def sq(b:ak)(a:bC):Prop:=(0<=a.abG/\a.abG<=(b.ai.length:Int) -1)/\(if a.akw= -1 then a.ami=0 else 0<=mQ b a.akw a.abG/\1<=a.ami/\a.ami<=2147483648)
instance (a:ak) (b:bC):Decidable (sq a b):=by unfold sq;infer_instance
def Vs{c:ak}(a:bC)(d:cP c):BS LC c a=c6 (c5 (sq c a)):=by
 have e:=d.1;have f:=d.2.1;unfold BS sq;rw[aJ,cF,aa,de,Tt _ _ _ (by omega),aa,cF,aa,fm (p:=0<=mQ c a.akw a.abG) rfl]
 by_cases b:a.akw= -1
 .simp only[if_pos b];rw[aC b];exact fm rfl
 .simp only[if_neg b];rw[aG b];exact fm rfl
def sj(a:aB)(i:Nat):Prop:=∃r c b d,a.aQ[i]?=c6 r/\a.cn[i]?=c6 c/\a.cf[i]?=c6 b/\a.bp[i]?=c6 d/\(-1<=c/\c<=65535)/\(-1<=b/\b<=a.aa0)/\(c= -1↔b= -1)/\d.length=a.aN.length/\∀e,e∈d->0<=e/\e<=r.dY
def fw(a:aB):Prop:=uG a.ao a.aQ/\(1<=a.aN.length/\a.aN.length<=12)/\a.aw.length=a.aN.length/\lz a.aw/\(0<=a.aa0/\a.aa0<=2147483648)/\a.cn.length=a.aQ.length/\a.cf.length=a.aQ.length/\a.bp.length=a.aQ.length/\
 (∀i,i<a.aQ.length->sj a i)/\∀b,b∈a.aN->sq a.ao b
noncomputable instance (a:aB) (i:Nat):Decidable (sj a i):=ma _
noncomputable instance (a:aB):Decidable (fw a):=ma _
def abJ{l:List Int}{b:aB}{i:Nat}{r:aS}(d:b.aQ[i]?=c6 r)(e:Fit l):BW LC l b (i:Int)=c6 (l.any λa=>!c5 (0<=a/\a<=r.dY)):=by
 unfold BW Iq;have:=fF (l:=l) (P:=λa=>Ao LC a b (i:Int)) (p:=λa=>!c5 (0<=a/\a<=r.dY)) (f:=λc=>Kl LC l b (i:Int) c) e (λa g=>by
  unfold Ao;rw[bn,d,aa,cF,aa]) (λc=>rfl)
 rw[show(LC.loop (λc=>Kl LC l b (i:Int) c) 0).bind _=_ from this,aa,gm]
def ajZ{l:List bC}{a:aB}(d:cP a.ao)(e:Fit l):zH LC l a=c6 (l.any λg=>!c5 (sq a.ao g)):=by
 unfold zH Gd;have:=fF (l:=l) (P:=λb=>DB LC b a) (p:=λb=>!c5 (sq a.ao b)) (f:=λc=>Gl LC l a c) e (λb h=>by
  unfold DB;rw[Vs _ d,aa]) (λc=>rfl)
 rw[show(LC.loop (λc=>Gl LC l a c) 0).bind _=_ from this,aa,gm]
def HA{c:Type}{p:c->Prop}[DecidablePred p]{b:List c}:(b.any λa=>!c5 (p a))=c5 (¬∀a,a∈b->p a):=by
 rw[<-Bool.not_not (b.any _),ot,decide_not]
def xf(c:aB)(H:∀r,r∈c.aQ->Fit r.ai):pV LC c=c6 (c5 (fw c)):=by
 unfold pV;rw[Pm _ _ H,aa,cF,aa]
 by_cases g:uG c.ao c.aQ
 rotate_left
 .rw[decide_eq_false g];simp only[o9,cond_true,aa];rw[decide_eq_false (λa=>g a.1)]
 by_cases o:1<=(c.aN.length:Int)/\(c.aN.length:Int)<=12
 rotate_left
 .rw[decide_eq_true g,decide_eq_false o];simp only[o9,p0,cond_true,cond_false,aa];rw[decide_eq_false (λa=>o (by have:=a.2.1;omega))]
 by_cases A:(c.aw.length:Int)=(c.aN.length:Int)
 rotate_left
 .rw[decide_eq_true g,decide_eq_true o];simp only[p0,cond_false];rw[aC A,aa];simp only[cond_true];rw[decide_eq_false (λa=>A (by have:=a.2.2.1;omega))]
 rw[KN (by show c.aw.length<=1000000;omega),aa,cF,aa,ew (ew rfl),fh rfl,fh rfl,ew rfl,fh rfl,fh rfl,aa]
 by_cases w:lz c.aw/\(0<=c.aa0/\c.aa0<=2147483648)/\(c.cn.length:Int)=c.aQ.length/\(c.cf.length:Int)=c.aQ.length/\(c.bp.length:Int)=c.aQ.length
 rotate_left
 .rw[aC (by
   refine .inr (.inr (.inr (gb λe=>w ?_)))
   simp only[not_or,hD] at e;exact⟨e.1,e.2.1,e.2.2.1,e.2.2.2.1,e.2.2.2.2⟩)]
  rw[decide_eq_false (λa=>w (by obtain⟨_,_,_,t,s,G,E,F,_⟩:=a;exact⟨t,s,by omega,by omega,by omega⟩))]
 obtain⟨t,s,G,E,F⟩:=w;rw[aG (by
  intro a;rcases a with a |a |a |a |a |a |a |a
  .exact a g
  .exact a o
  .exact a A
  .exact a t
  .exact a s
  .exact a G
  .exact a E
  .exact a F)]
 have O:=g.2.1;have J:bO (λx=>xm LC c x) 0=c6 (if ∀i,i<c.aQ.length->(λi:Nat=>c5 (¬sj c i)) i=false then .inr () else .inl ()):=by
  refine oD _ _ () (λi l=>?_) ?_
  .obtain⟨r,y⟩:∃r,c.aQ[i]?=c6 r:=⟨_,dk l⟩;obtain⟨d,B⟩:∃d,c.cn[i]?=c6 d:=⟨_,dk (by omega)⟩;obtain⟨b,z⟩:∃b,c.cf[i]?=c6 b:=⟨_,dk (by omega)⟩;obtain⟨f,C⟩:∃f,c.bp[i]?=c6 f:=⟨_,dk (by omega)⟩;have j:sj c i↔((-1<=d/\d<=65535)/\(-1<=b/\b<=c.aa0)/\(d= -1↔b= -1)/\f.length=c.aN.length/\∀h,h∈f->0<=h/\h<=r.dY):=by
    constructor
    .rintro⟨L,N,P,M,v,m,u,n,D⟩;rw[y] at v;rw[B] at m;rw[z] at u;rw[C] at n;injection v with v;injection m with m;injection u with u;injection n with n
     subst v m u n;exact D
    .exact λa=>⟨r,d,b,f,y,B,z,C,a⟩
   unfold xm;rw[aC,bn,B,aa,cF,aa,bn,z,aa,cF,aa,aa,aa,bn,C,aa,aa];have D:(bif (c5 (d= -1) != c5 (b= -1)) then c6 true else c6 (c5 ((f.length:Int)≠(c.aN.length:Int))))=c6 (c5 (¬(d= -1↔b= -1)\/(f.length:Int)≠(c.aN.length:Int))):=by
    by_cases K:d= -1 <;> by_cases k:b= -1 <;> simp[K,k]
   rw[D,fh rfl,fh rfl,aa,aJ]
   by_cases q:(-1<=d/\d<=65535)/\(-1<=b/\b<=c.aa0)/\(d= -1↔b= -1)/\f.length=c.aN.length
   .rw[aG (by
     rintro(a |a |a |a)
     .exact a q.1
     .exact a q.2.1
     .exact a q.2.2.1
     .exact a (by have:=q.2.2.2;omega)),abJ y (by have:=q.2.2.2;show f.length<=_;omega),aa,HA]
    by_cases k:∀h,h∈f->0<=h/\h<=r.dY
    .rw[decide_eq_false (λa=>a k),decide_eq_false (λa=>a (j.2 ⟨q.1,q.2.1,q.2.2.1,q.2.2.2,k⟩))];rfl
    .rw[decide_eq_true k,decide_eq_true (show ¬sj c i from λa=>k (j.1 a).2.2.2.2)];rfl
   .rw[aC (by
     refine gb λe=>q ?_
     simp only[not_or,hD] at e;exact⟨e.1,e.2.1,e.2.2.1,by have:=e.2.2.2;omega⟩),decide_eq_true (show ¬sj c i from λa=>q ⟨(j.1 a).1,(j.1 a).2.1,(j.1 a).2.2.1,(j.1 a).2.2.2.1⟩)]
    rfl
  .unfold xm;rw[aG]
 rw[show LC.loop (λx=>xm LC c x) 0=_ from J,aa]
 by_cases p:∀i,i<c.aQ.length->sj c i
 .rw[if_pos (λi l=>decide_eq_false (λa=>a (p i l))),yv,ajZ g.1 (by show c.aN.length<=_;omega),aa,ot]
  congr 1
  exact decide_eq_decide.2 ⟨λa=>⟨g,by omega,by omega,t,s,by omega,by omega,by omega,p,a⟩,λa=>a.2.2.2.2.2.2.2.2.2⟩
 .rw[if_neg (λI=>p λi l=>by have:=of_decide_eq_false (I i l);exact j6 this),Sum.elim_inl,decide_eq_false (λa=>p a.2.2.2.2.2.2.2.2.1)]
end Go.X.T
