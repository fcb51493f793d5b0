/- For TopWhole, part 5. -/
import Derived.Test.YtfljhldgncdifaaGreatWD
import Derived.Lib.AppendZerosOnto
import Derived.Lib.AppendZeros
import Derived.Lib.Walk
import Derived.Laws.Externs
import Derived.Laws.NewBlocks
import Derived.Deep.RegionLaw
import Derived.Shelf.Sort.Plain
import Derived.Shelf.Slices.In.SortNone
import Derived.Ground.Names2Prog
import Derived.Lib.Overlaps
import Derived.WalkKit
import Derived.Test.YtfljhldgncdifaaGreatProg
set_option linter.defProp false
set_option linter.unusedVariables false
set_option linter.unusedSimpArgs false
set_option maxHeartbeats 2000000
set_option maxRecDepth 100000
set_option maxHeartbeats 4000000
set_option maxHeartbeats 0
set_option maxRecDepth 1000000
open Go.IntKind renaming wrap → c3, i64 → c4, wrap_i64 → h8, signed → u0, wrap → yl, bits → yn, u64 → E3, u8 → Kr
open Decidable renaming decide → c5, byContradiction → gb, not_not → hD
open Option renaming some → c6, none → c7, bind_some → ef, bind_eq_some_iff → m1, map → tt
open Go.Proofs.Tryz renaming prog → dd, func147 → ee, func86 → ez, underlying53 → hB, func143 → j3, f163 → kc, f171 → m3, func46 → o6, func340 → pc, func244 → q2, func217 → q6, func221 → q7, func153 → q8, func160 → qa, func116 → qb, underlying3 → qq, f143 → r3, func44 → s5, func49 → s6, f34 → tx, ntmps340 → vl, ntmps244 → wa, func145 → x9, func274 → xv, func273 → xx, func100 → y0, func300 → y1, func248 → y2, func228 → y3, func240 → y4, func284 → y5, func175 → y6, func299 → y7, func301 → y8, func256 → y9, func166 → ya, func113 → yk, func45 → yy, func78 → z7, func34 → z8, func84 → A3, func73 → A4
open List renaming getElem?_eq_getElem → dk, length_take → dt, getElem?_eq_some_iff → e4, length_drop → e5, getElem?_append_right → e6, length_append → ea, getElem?_append_left → ev, mem_singleton → eH, mem_of_getElem? → fe, getElem?_take → gv, getElem?_take_of_lt → h5, length_map → hq, mem_cons → hI, eq_nil_of_length_eq_zero → hM, getElem?_drop → hP, getElem?_eq_none → hQ, getElem?_map → hS, mem_of_mem_take → ie, mem_iff_getElem → ih, mem_map → j1, not_mem_nil → j4, getElem_mem → j5, pairwise_cons → j8, size_toArray → k0, take_append_drop → k8, mem_of_mem_drop → km, append_nil → l0, mem_append → l1, append_assoc → l3, length_cons → m4, drop_eq_nil_of_le → mb, take_of_length_le → n1, length → o3, map → o4, getElem?_range → oi, Pairwise → oj, take_left' → sa, length_nil → ta, take_take → tj, take → x0, drop → x1, append → z6
open Nat renaming le_refl → dv, zero_le → ei, beq → ey, mul_le_mul_right → hY, zero_add → j2, min_eq_left → j7, add_mul → l4, ble_eq_true_of_le → ng, min_def → o2, eq_zero_or_pos → p0, le_trans → q4, sub_self → q5, one_pos → r5, mul_one → rb, strongRecOn → sp, mul_le_mul → vd, ble → x2, le_of_eq → x6
open Go.Builtin renaming zeroCells → dT, copy_ → h7, firstCells → p6, append_ → s8
open Array renaming length_toList → e0, getElem?_toList → eE, getD_eq_getD_getElem? → ft, getElem?_setIfInBounds_self_of_lt → gx, getElem?_eq_getElem → h9, size_append → j9, getElem?_modify → k7, getElem?_push → o9
open Go.Result renaming andThen_ok → ec, andThen → k6, ok → wb
open Int renaming le_refl → ej, le_trans → hz, mul_le_mul_of_nonneg_right → kd, toNat_natCast → la, ediv_le_self → r4
open Go.Sem renaming run_bind → eo, run_pure → h6
open Go.Value renaming agg → ga, int → hK, slice → s3
open Go.World renaming cell?_setCells_out → gy, alloc_heap_new → hU, cell?_setCells_in → m2, putObj_heap_other → m5, frozen?_setCells → mx, cell?_alloc_past → my, frozen? → vw, setCell → w3, cell? → z1
open Go.RowKit.Below renaming heap_alloc → hL
open Go.Instr renaming checkKey → hX, findNow → kh, findKey → m0, lookup → ma, mapUpdate → s7
open Classical renaming byContradiction → j6, propDecidable → m6
open Go.Sort renaming putCells → kl, putRow → o1, ahead → p4, onCells → x3
open Go.Addr renaming add_lit → l2
open Sum renaming inr → n0, inl → o8, elim_inr → yv
open Go.Lib renaming wpList_append_run → n2
open Bool renaming not_false → o7, not_true → oq, false_eq_true → oS, eq_iff_iff → sT
open Go.Region renaming wanted → oo
open Go.Fence renaming wide → p7
open Go.Act renaming eval → q3, put → x5
open Go.Extern.SlicesOverlaps renaming overlaps → r0
open Option.some renaming inj → sn
open Go.Oper renaming wp → tc
namespace Go.X.T
open Go Go.Aml Go.Bml Go.X Go.RowKit Go.Proofs
def YQ(a:World)(e c:Obj):(a.alloc e).putObj a.heap.size c=a.alloc c:=by
 unfold World.putObj World.alloc;have:(a.heap.push e).setIfInBounds a.heap.size c=a.heap.push c:=by
  apply Array.ext_getElem?
  intro i;rw[Array.getElem?_setIfInBounds,o9,o9]
  by_cases b:a.heap.size=i
  .subst b;simp
  .rw[if_neg b,if_neg (λd=>b d.symm),if_neg (λd=>b d.symm)]
 rw[this]
def LK(a:World)(b:Obj):(a.alloc b).heap[a.heap.size]?=c6 b:=hU a b
def PG{d:Program}(b:World)(a:Array MapEntry)(i:Nat):(getObj b.heap.size).run d (b.alloc (.map a i))= .ok (.map a i) (b.alloc (.map a i)):=by
 have c:=LK b (.map a i);simp only[getObj,Sem.run,c]
def ag2{g:Program}(a:World)(b d:Array MapEntry)(i c:Nat):(setObj a.heap.size (.map d c)).run g (a.alloc (.map b i))= .ok () (a.alloc (.map d c)):=by
 have e:=LK a (.map b i);have f:=YQ a (.map b i) (.map d c);simp only[setObj,Sem.run,e];exact congrArg (wb ()) f
def aaO{P:Program}{w0:World}{t kt et:TypeId}{es:Array MapEntry}{i:Nat}{k:Int}{v:Value}(e:P.underlying t=c6 (.map kt et))(a:P.underlying kt=c6 (.int .i64))(b:kh (.int .i64) (.int .i64 k) es.toList 0=c6 c7):
 (s7 t (.map (c6 w0.heap.size)) (.int .i64 k) v).run P (w0.alloc (.map es i))= .ok () (w0.alloc (.map (es.push ⟨.int .i64 k,v,i⟩) (i+1))):=by
 have d:(hX false (9999+1) kt (.int .i64 k)).run P (w0.alloc (.map es i))= .ok () (w0.alloc (.map es i)):=by
  unfold hX;simp only[eo,run_underlying a,ec,h6]
 have c:(m0 kt (.int .i64 k) es.toList).run P (w0.alloc (.map es i))= .ok c7 (w0.alloc (.map es i)):=by
  unfold m0;simp only[eo,run_underlying a,ec,b,h6]
 unfold s7;simp only[eo,run_underlying e,ec,PG];have f:(hX false 10000 kt (.int .i64 k)).run P (w0.alloc (.map es i))= .ok () (w0.alloc (.map es i)):=d;rw[f];simp only[ec,c,eo,ag2]
def PB(z:Value):Option (Nat×Value)->Value
 |some p=>p.2
 |none=>z
def anN{P:Program}{w0:World}{t kt et:TypeId}{es:Array MapEntry}{i:Nat}{k:Int}{r:Option (Nat×Value)}{z:Value}(f:P.underlying t=c6 (.map kt et))(a:P.underlying kt=c6 (.int .i64))(g:dV P et=c6 z)(c:kh (.int .i64) (.int .i64 k) es.toList 0=c6 r):
 (ma t (.map (c6 w0.heap.size)) (.int .i64 k) false).run P (w0.alloc (.map es i))= .ok (PB z r) (w0.alloc (.map es i)):=by
 have e:∀b,(hX b 10000 kt (.int .i64 k)).run P (w0.alloc (.map es i))= .ok () (w0.alloc (.map es i)):=λb=>by
  show(hX b (9999+1) kt (.int .i64 k)).run P _=_
  unfold hX;simp only[eo,run_underlying a,ec,h6]
 have d:(m0 kt (.int .i64 k) es.toList).run P (w0.alloc (.map es i))= .ok r (w0.alloc (.map es i)):=by
  unfold m0;simp only[eo,run_underlying a,ec,c,h6]
 unfold ma;simp only[eo,run_underlying f,ec,PG,h6,e,d];cases r with
 |none=>simp only[eo,Ey g,ec,h6,oS,if_false];rfl
 |some p=>simp only[eo,ec,h6,oS,if_false];rfl
def nv:Nat->Array MapEntry
 |0=>#[]
 |i+1=>(nv i).push ⟨.int .i64 ((i:Int)+1),.func (.func (103+i)) #[] #[],i⟩
def uj{c:Program}{e:Array Oper}{d:Exit->Act->World->Prop}{a:Oper}{g:List Oper}{b:Act}{h f:World}{v:Value}(l:a.guard=c7)(i:(execOp b.eval a).run c h= .ok (.value v) f)(j:wpList c e d g (b.put a.dst v) f):wpList c e d (a::g) b h:=
 wpList_plain l λm k=>by
  unfold tc;rw[i];exact k _ _ j
def lr{c:Program}{e:Array Oper}{d:Exit->Act->World->Prop}{a:Oper}{g:List Oper}{b:Act}{h f:World}(l:a.guard=c7)(i:(execOp b.eval a).run c h= .ok .skip f)(j:wpList c e d g (b.put a.dst undef) f):wpList c e d (a::g) b h:=
 wpList_plain l λm k=>by
  unfold tc;rw[i];exact k _ _ j
def kZ{a:Act}{w0:World}{k:Int}{f:Nat}{h:TypeId}{b:String}{j:Array Edge}(i:Nat)(g:a.eval (.tmp 3)= .map (c6 w0.heap.size))(c:k=(i:Int)+1:=by rfl)(d:f=103+i:=by rfl)(m:kh (.int .i64) (.int .i64 ((i:Int)+1)) (nv i).toList 0=c6 c7:=by rfl):
 (execOp a.eval ⟨c7,.insert 209 (.tmp 3) (.const (.int .i64 k)) (.func f),h,b,j,c7⟩).run dd (w0.alloc (.map (nv i) i))= .ok .skip (w0.alloc (.map (nv (i+1)) (i+1))):=by
 subst c;subst d;have e:a.eval (.const (.int .i64 ((i:Int)+1)))= .int .i64 ((i:Int)+1):=rfl;have l:a.eval (.func (103+i))= .func (.func (103+i)) #[] #[]:=rfl;have:=aaO (P:=dd) (w0:=w0) (t:=209) (kt:=3) (et:=134) (es:=nv i) (i:=i) (k:=(i:Int)+1) (v:=.func (.func (103+i)) #[] #[]) (by kernel_rfl) (by kernel_rfl) m;simp only[execOp,g,e,l,eo,this,ec,h6]
 rfl
def afd{b:Act}{d a:World}{c:Int}{v:Value}{j:TypeId}{e:String}{i:Array Edge}(g:b.eval (.tmp 4)= .map (c6 d.heap.size))(h:b.eval (.tmp 5)= .int .i64 c)(f:(ma 209 (.map (c6 d.heap.size)) (.int .i64 c) false).run dd a= .ok v a):
 (execOp b.eval ⟨c6 6,.lookup 209 (.tmp 4) (.tmp 5) false,j,e,i,c7⟩).run dd a= .ok (.value v) a:=by
 simp only[execOp,g,h];simp[f]
def apG(a:Int):∃r,kh (.int .i64) (.int .i64 a) (nv 13).toList 0=c6 r/\PB .nilFunc r=(match lK a with |none=>.nilFunc |some f=>.func (.func f) #[] #[]):=by
 by_cases e:1<=a/\a<=13
 .have:a=1\/a=2\/a=3\/a=4\/a=5\/a=6\/a=7\/a=8\/a=9\/a=10\/a=11\/a=12\/a=13:=by omega
  rcases this with rfl |rfl |rfl |rfl |rfl |rfl |rfl |rfl |rfl |rfl |rfl |rfl |rfl <;> exact⟨_,rfl,rfl⟩
 .have g:∀d:Int,1<=d->d<=13->(a==d)=false:=λd c b=>by
   rw[beq_eq_false_iff_ne];intro h;exact e ⟨by omega,by omega⟩
  refine⟨c7,?_,?_⟩
  .simp[nv,kh,Instr.sameNow,g]
  .have:lK a=c7:=by
    unfold lK
    by_cases c:1<=a
    .have b:¬a<=13:=λb=>e ⟨c,b⟩
     rw[decide_eq_true c,decide_eq_false b]
     rfl
    .rw[decide_eq_false c]
     rfl
   rw[this]
   rfl
def amx{a:Act}{e b:World}{d:Int}{v:Value}{l p:TypeId}{h g:String}{n o:Array Edge}{q:Array Oper}{c:Ending->World->Prop}(j:a.eval (.tmp 4)= .map (c6 e.heap.size))(k:a.eval (.tmp 5)= .int .i64 d)(t:a.tmps.size=7)(f:a.defers=[])
 (r:(ma 209 (.map (c6 e.heap.size)) (.int .i64 d) false).run dd b= .ok v b) (s:c (.returned v) b):
 wpList dd q (Exit.then (Code.ret.wp dd (bodyPost dd Tryz.f45 c)) (bodyPost dd Tryz.f45 c)) [⟨c6 6,.lookup 209 (.tmp 4) (.tmp 5) false,l,h,n,c7⟩,⟨c6 2,.assign (.tmp 6),p,g,o,c7⟩] a b:=by
 refine uj rfl (afd j k r) ?_
 have i:(a.put (c6 6) v).eval (.tmp 6)=v:=by
  show(a.tmps.setIfInBounds 6 v).getD 6 undef=v
  rw[ft,gx (by omega)]
  rfl
 refine uj (v:=v) rfl (by
  show wb (Next.value ((a.put (c6 6) v).eval (.tmp 6))) b=_
  rw[i]) ?_
 refine wpList_nil (wp_ret ⟨f,v,?_,s⟩)
 rw[results_tmp rfl];have m:(((a.put (c6 6) v).put (c6 2) v).tmps).getD 2 undef=v:=by
  show((a.tmps.setIfInBounds 6 v).setIfInBounds 2 v).getD 2 undef=v
  rw[ft,gx (by simp;omega)]
  rfl
 exact congrArg (λz=>wb z b) m
def K88(j:Lp):FT (FZ j):=by
 refine⟨pA yy rfl rfl,λa l e g w vs s h z=>?_⟩
 have e:c6 (lK a)=c6 l:=e;injection e with e
 match vs,s with
 |[y],_=>
 have h0:=z 0;have n:y= .int .i64 a:=VR.fQ (g:=g) (w:=w) h0;subst n;refine calls_of_wp yy rfl ?_
 refine wp_seq (wp_region_lit (uj rfl rfl ?_))
 show Code.wp _ _ _ _ _
 refine wp_seq (wp_region_lit (uj rfl rfl ?_))
 refine lr rfl (kZ 0 rfl) ?_
 refine lr rfl (kZ 1 rfl) ?_
 refine lr rfl (kZ 2 rfl) ?_
 refine lr rfl (kZ 3 rfl) ?_
 refine lr rfl (kZ 4 rfl) ?_
 refine lr rfl (kZ 5 rfl) ?_
 refine lr rfl (kZ 6 rfl) ?_
 refine lr rfl (kZ 7 rfl) ?_
 refine lr rfl (kZ 8 rfl) ?_
 refine lr rfl (kZ 9 rfl) ?_
 refine lr rfl (kZ 10 rfl) ?_
 refine lr rfl (kZ 11 rfl) ?_
 refine lr rfl (kZ 12 rfl) ?_
 refine uj rfl rfl (uj rfl rfl ?_)
 obtain⟨r,x,o⟩:=apG a;have q:dV dd 134=c6 .nilFunc:=by kernel_rfl
 have m:=anN (P:=dd) (w0:=w) (t:=209) (kt:=3) (et:=134) (es:=nv 13) (i:=13) (k:=a) (by kernel_rfl) (by kernel_rfl) q x;rw[o] at m;refine amx rfl rfl rfl rfl m ?_
 have c:Below w.heap.size w (w.alloc (.map (nv 13) 13)):=(Below.refl _ w).alloc (dv _) _;have A:(cz BT (FZ j).par a).H=[]:=rfl;have u:(cz BT (FZ j).az l)=⟨[(0,.jC l)],[]⟩:=rfl;rw[A] at h⊢;rw[u];obtain⟨v,p⟩:=GStep.lF (w':=w.alloc (.map (nv 13) 13)) (GStep.refl 0 g (av BT []) w) h c.os c.tape c.output c.size (λb d=>c.block b (h.fb b d)) (λr b B d=>c.block b (h.qD d)) (λb d=>c.block b d);refine⟨_,g,rfl,p,v,?_⟩
 subst e;show VR g (av BT []) _ (pv BT (.jC (lK a))) _
 cases lK a with
 |none=>exact .aW .dB
 |some f=>exact .aW (.fn f [] [] [] [] rfl (by simp) rfl (by simp))
def aiC(j:Program)(f:FuncId)(g h i:Nat):Prop:=
 ∀(a:World) (b:Nat),b*i<=140737488355328->b<=140737488355328->Calls j f #[.slice c7 0 0,.int .i64 b] a λe d=>(e= .returned (.slice c7 0 0)/\d=a)\/∃c cells,e= .returned (.slice (c6 ⟨a.heap.size,0,c7⟩) 0 c)/\cells.size=c*h/\c<=maxLen/\d=a.drew.alloc (.cells cells g)
section
open Go.RowKit
def acK:(dd.info? 3).map (λi=>(i.zero,i.size,i.bytes))=c6 (c6 (hK .i64 0),1,8):=by kernel_rfl
def aaj(w:World):Calls dd 340 #[.slice c7 0 0,.int .i64 0] w λe w'=>e= .returned (.slice c7 0 0)/\w'=w:=by
 go_enter pc,vl
 go_wp2
 go_ret
 exact⟨rfl,rfl⟩
def ak2(w:World)(n:Nat)(h0:0<n)(hb:n*8<=140737488355328)(hb2:n<=140737488355328):Calls dd 340 #[.slice c7 0 0,.int .i64 n] w λe w'=>e= .returned (.slice (c6 ⟨w.heap.size,0,c7⟩) 0 (grownCap w n 0 3))/\w'=w.drew.alloc (.cells (dT ((hK .i64 0):Value).cells n++dT ((hK .i64 0):Value).cells (grownCap w n 0 3 -n)) 3):=by
 obtain⟨i0,hi0,hz0,hzs,hzb⟩:=info_parts acK;have hrz:∀ty,(s8 #[22,3] ty #[.slice c7 0 0,.int .i64 (n:Int)]).run dd w=_:=λty=>
  Lib.run_append_nil_zeros w 22 3 ty 3 i0 _ .i64 .i64 Tryz.underlying22 qq hi0 hz0 n h0 (by omega) (by omega) (by rw[hzb];omega)
 have hG:=grownCap_ge w n 0 3;have hG63:grownCap w n 0 3<=9223372036854775807:=grownCap_le_maxLen w n 0 3 (by unfold maxLen;omega);have hp:(0:Int)<(n:Int):=by omega
 generalize grownCap w n 0 3=G at hrz hG hG63⊢;have hG0:¬(G=0):=by omega
 go_enter pc,vl
 go_wp2_with (at_builtin;refine n2 _ rfl _ _ _ _ rfl _ _ rfl rfl _ _ (hrz _) ?_)
 go_ret
 exact⟨rfl,rfl⟩
def V0:aiC dd 340 3 1 8:=by
 intro b a g h;rcases p0 a with rfl |h0
 .exact(aaj b).mono λc d e=>.inl e
 .refine(ak2 b a h0 g h).mono ?_
  rintro c d ⟨rfl,rfl⟩;refine .inr ⟨_,_,rfl,?_,grownCap_le_maxLen b a 0 3 (by unfold maxLen;omega),rfl⟩
  have i:=grownCap_ge b a 0 3;have f:((hK .i64 0):Value).cells.size=1:=by decide
  simp only[j9,size_zeroCells,f];omega
def anw{g:Gh}{c:World}(l:bF g [] c)(f:Nat)(cells:Array Value)(h:Nat)(v:cells.size=h*1)(o:h<=maxLen):
 Bml.GStep 0 g [] c ⟨g.F,λr=>if r=0 then c6 (c.heap.size,h) else c7⟩ [⟨f,1,[],0⟩] (c.alloc (.cells cells f))/\bF ⟨g.F,λr=>if r=0 then c6 (c.heap.size,h) else c7⟩ [⟨f,1,[],0⟩] (c.alloc (.cells cells f)):=by
 refine⟨⟨rfl,rfl,rfl,by simp,λ_ a=>a,λb a=>hL c _ b (l.fb b a),λb a _=>hL c _ b a,λb a=>.inl a,λr b n a=>?_,λr m x d=>?_⟩,⟨λb a=>?_,λr p b C1 C2 k j=>?_,λr b n a=>?_,λr m d=>?_⟩⟩
 .dsimp only at a
  by_cases e:r=0
  .rw[if_pos e] at a;injection a with a
   injection a with a
   exact .inl (by omega)
  .rw[if_neg e] at a;cases a
 .omega
 .have:=l.fb b a;simp;omega
 .dsimp only at k j
  by_cases e:r=0
  .by_cases q:p=0
   .omega
   .rw[if_neg q] at j;cases j
  .rw[if_neg e] at k;cases k
 .dsimp only at a
  by_cases e:r=0
  .subst e;exact r5
  .rw[if_neg e] at a;cases a
 .match r,d with
  |0,d=>
   have d:c6 (⟨f,1,[],0⟩:aO)=c6 m:=d;injection d with d
   subst d;refine⟨r5,λi e t=>by simp at t,?_⟩
   simp only[if_true];exact⟨λs=>Nat.lt_irrefl _ (l.fb _ s),cells,hU c _,v,o,ei _,λi w y u=>by simp[abk] at u⟩
def aeg{by_:Nat}{n:Int}{y:List Int}(a:Ct by_ n=c6 y):∃d:Nat,n=(d:Int)/\d*by_<=140737488355328/\y=[]:=by
 unfold Ct at a;cases c:c5 ((0:Int)<=n) with
 |false=>rw[c] at a;cases a
 |true=>
  rw[c] at a;have h0:=of_decide_eq_true c;obtain⟨i,f,b⟩:=m1.1 a;obtain⟨g,e,h⟩:=SF f;injection b with b
  exact⟨n.toNat,by omega,e,b.symm⟩
def abI(c:Lp):FT (J7 c):=by
 refine⟨pA pc rfl rfl,λa y r g w vs s e f=>?_⟩
 obtain⟨n,v,p,j⟩:=aeg (by_:=8) (n:=a) (y:=y) r;have B:cz BT (J7 c).par a=⟨[(0,.bg),(1,.int .i64 a)],[]⟩:=rfl;rw[B] at e f⊢
 match vs,s with
 |[k,A],_=>
 have l:k= .slice c7 0 0:=VR.pF (g:=g) (w:=w) (H:=[]) (f 0);have x:A= .int .i64 a:=VR.fQ (g:=g) (w:=w) (H:=[]) (f 1);subst l x;have t:(cz BT (J7 c).az y)=⟨[(0,.fl 0 0)],[⟨0,0,.aap 3 y⟩]⟩:=rfl;rw[t];have i:=V0 w n p (by omega);rw[<-v] at i;refine i.mono ?_
 rintro E D (⟨rfl,rfl⟩ |⟨h,cells,rfl,C,o,rfl⟩)
 .obtain⟨d,b⟩:=e.T6 3 1 (by omega);subst j;refine⟨_,_,rfl,b,d.less (ei _),.fl 0 0 ⟨3,1,[],0⟩ _ rfl (dv _) rfl λ_=>⟨by simp,?_⟩⟩
  have:=Gh.kg g 0 c7;rw[show(av BT ([]:List (Ob BT.D))).length=0 from rfl,this];exact⟨rfl,rfl,c7,rfl⟩
 .obtain⟨u,q⟩:=Ez (m:=0) e;subst j;obtain⟨d,b⟩:=anw q 3 cells h C o;refine⟨_,_,rfl,b,u.trans d,.fl 0 0 ⟨3,1,[],0⟩ _ rfl (dv _) rfl λ_=>⟨by simp,?_⟩⟩
  exact⟨h,_,rfl,ei _,λz=>absurd rfl z,λ_=>⟨rfl,rfl⟩⟩
end
end Go.X.T
namespace Go.X.T
open Go Go.Aml Go.Bml Go.X Go.RowKit Go.Proofs
def FC(a:Int):∀c,(mM a c).Perm (a::c)
 |[]=>.refl _
 |b::c=>by
  unfold mM;cases c5 (a<=b) with
  |true=>exact .refl _
  |false=>exact((FC a c).cons b).trans (.swap a b c)
def Ji:∀a,(dQ a).Perm a
 |[]=>.refl _
 |b::a=>(FC b (dQ a)).trans ((Ji a).cons b)
def L7(f:Int):∀e,oj (λa g=>a<=g) e->oj (λa g=>a<=g) (mM f e)
 |[],_=>by simp[mM]
 |b::e,d=>by
  unfold mM;rw[j8] at d;cases i:c5 (f<=b) with
  |true=>
   have h:=of_decide_eq_true i;refine j8.2 ⟨λa c=>?_,j8.2 d⟩
   rcases hI.1 c with rfl |c
   .exact h
   .exact hz h (d.1 a c)
  |false=>
   have h:=of_decide_eq_false i;refine j8.2 ⟨λa c=>?_,L7 f e d.2⟩
   rcases hI.1 ((FC f e).mem_iff.1 c) with rfl |c
   .omega
   .exact d.1 a c
def Qe:∀a,oj (λd b=>d<=b) (dQ a)
 |[]=>.nil
 |c::a=>L7 c _ (Qe a)
def apt(e:List Int):(e.mergeSort λc a=>c5 (c<=a))=dQ e:=by
 refine List.Perm.eq_of_pairwise (le:=λc a=>c<=a) (λh b _ _ g f=>Int.le_antisymm g f) ?_ (Qe e) ((List.mergeSort_perm _ _).trans (Ji e).symm)
 refine(List.pairwise_mergeSort (le:=λc a=>c5 (c<=a)) (λh b i g f=>?_) (λh b=>?_) e).imp λd=>of_decide_eq_true d
 .exact decide_eq_true (hz (of_decide_eq_true g) (of_decide_eq_true f))
 .rcases Int.le_total h b with d |d
  .simp[d]
  .simp[d]
def ahq{l y:List Int}(a:rC l=c6 y):l.length<=140737488355328/\y=dQ l:=by
 unfold rC at a;cases b:x2 l.length 140737488355328 with
 |false=>rw[b] at a;cases a
 |true=>
  rw[b] at a;injection a with a
  exact⟨Nat.le_of_ble_eq_true b,a.symm⟩
def HB(a:List Int):(dQ a).length=a.length:=(Ji a).length_eq
def au1:Go.Shelf.Ren:=⟨λ|189=>225 |125=>278 |257=>277 |128=>319 |129=>320 |294=>310 |295=>311 |296=>312 |297=>313 |298=>314 |299=>315 |216=>316 |300=>317 |301=>318 |328=>331 |329=>332 |330=>333 |331=>334 |332=>335 |215=>307 |343=>341 |a=>a,λ|28=>22 |3=>3 |46=>181 |0=>0 |51=>347 |53=>179 |4=>4 |183=>379 |182=>378 |131=>323 |5=>5 |9=>9 |218=>390 |222=>304 |228=>398 |229=>298 |a=>a,λa=>a⟩
open Go.Proofs.Tryz in
def as3:Go.Proofs.Lays.n189 dd au1:=⟨by kernel_rfl,func278.trans (congrArg c6 (by kernel_rfl)),func319.trans (congrArg c6 (by kernel_rfl)),func320.trans (congrArg c6 (by kernel_rfl)),func225.trans (congrArg c6 (by kernel_rfl)),func307.trans (congrArg c6 (by kernel_rfl)),func316.trans (congrArg c6 (by kernel_rfl)),func277.trans (congrArg c6 (by kernel_rfl)),func310.trans (congrArg c6 (by kernel_rfl)),func311.trans (congrArg c6 (by kernel_rfl)),func312.trans (congrArg c6 (by kernel_rfl)),func313.trans (congrArg c6 (by kernel_rfl)),func314.trans (congrArg c6 (by kernel_rfl)),func315.trans (congrArg c6 (by kernel_rfl)),func317.trans (congrArg c6 (by kernel_rfl)),func318.trans (congrArg c6 (by kernel_rfl)),func331.trans (congrArg c6 (by kernel_rfl)),func332.trans (congrArg c6 (by kernel_rfl)),func333.trans (congrArg c6 (by kernel_rfl)),func334.trans (congrArg c6 (by kernel_rfl)),func335.trans (congrArg c6 (by kernel_rfl)),func341.trans (congrArg c6 (by kernel_rfl)),underlying0,isAgg0,sizeOf0,zeroValue0,underlying3,isAgg3,sizeOf3,zeroValue3,underlying4,isAgg4,sizeOf4,zeroValue4,underlying5,isAgg5,sizeOf5,zeroValue5,underlying9,isAgg9,sizeOf9,zeroValue9,underlying22,isAgg22,sizeOf22,zeroValue22,underlying181,isAgg181,sizeOf181,zeroValue181,underlying347,isAgg347,sizeOf347,zeroValue347,underlying179,isAgg179,sizeOf179,zeroValue179,underlying323,isAgg323,sizeOf323,zeroValue323,underlying378,isAgg378,sizeOf378,zeroValue378,underlying379,isAgg379,sizeOf379,zeroValue379,underlying390,isAgg390,sizeOf390,zeroValue390,underlying304,isAgg304,sizeOf304,zeroValue304,underlying398,isAgg398,sizeOf398,zeroValue398,underlying298,isAgg298,sizeOf298,zeroValue298⟩
def ajH{g:Gh}{c:World}{a:List Int}{b k n:Nat}{s:Array Obj}(B:bF g [⟨3,1,a.map (PV.int .i64),0⟩] c)(m:g.β 0=c6 (b,k)){w':World}(l:w'=Sort.grow (o1 (hK .i64) (p4 c n) b 0 (dQ a).toArray) s):
 ∃y,Bml.GStep 1 g [⟨3,1,a.map (PV.int .i64),0⟩] c y [⟨3,1,(dQ a).map (PV.int .i64),0⟩] w'/\bF y [⟨3,1,(dQ a).map (PV.int .i64),0⟩] w':=by
 have v:=(B.obj 0 _ rfl).mem;rw[m] at v;obtain⟨O,cells,D,x,J,z,R⟩:=v;have E:b<c.heap.size:=nN D;rw[hq] at z;have C:(o1 (hK .i64) (p4 c n) b 0 (dQ a).toArray).heap=c.heap.modify b (x3 (kl (hK .i64) 0 (dQ a).toArray)):=rfl;have A:(o1 (hK .i64) (p4 c n) b 0 (dQ a).toArray).heap.size=c.heap.size:=by rw[C];simp
 have w:∀j,j<c.heap.size->w'.heap[j]?=(c.heap.modify b (x3 (kl (hK .i64) 0 (dQ a).toArray)))[j]? :=λj q=>by
  rw[l,Sort.heap_grow_old _ s (by rw[A];exact q),C]
 have K:=bF.set (r:=0) (o':=⟨3,1,(dQ a).map (PV.int .i64),0⟩) (w':=w') (p:=c6 (b,k)) B rfl (by rw[l];rfl) (by rw[l];rfl) (by rw[l];rfl)
  (by rw[l];show c.heap.size<=((o1 (hK .i64) (p4 c n) b 0 (dQ a).toArray).heap++s).size;rw[j9,A];omega)
  (λj q F=>by
   rw[w j q,k7];rw[if_neg (λo=>F k (by rw[<-o];exact m))])
  (dv _) (λ_=>⟨rfl,by simp[HB],m.symm⟩) (λQ N u=>by injection u with u;injection u with h1 h2;subst h1;exact .inl ⟨k,m⟩) r5
  (λi o d=>by
   obtain⟨e,_,rfl⟩:=j1.1 (fe d)
   rfl) ?_
 .exact⟨_,K⟩
 .refine⟨kl (hK .i64) 0 (dQ a).toArray cells,?_,?_,J,by simpa[HB] using z,λi G M h=>?_⟩
  .rw[w b E,k7,if_pos rfl,D]
   rfl
  .unfold kl;rw[Array.size_mapIdx,x]
  .obtain⟨o,d,L⟩:=gw h;obtain⟨e,f,rfl⟩:∃e,(dQ a)[i]?=c6 e/\PV.int .i64 e=o:=by
    rw[hS] at d;cases f:(dQ a)[i]? with
    |none=>rw[f] at d;cases d
    |some e=>rw[f] at d;injection d with d;exact⟨e,rfl,d⟩
   match G,L with
   |0,_=>
    have h:M=PV.int .i64 e:=by
     unfold abk at h;rw[d] at h;injection h with h
     exact h.symm
    subst h;have t:i<(dQ a).length:=(e4.1 f).1;have H:i<cells.size:=by
     have P:cells.size=k*1:=x;rw[HB] at t;omega
    refine⟨.int .i64 e,?_,rfl,.aW (.int _ _)⟩
    unfold kl;rw[Array.getElem?_mapIdx,rb,Nat.add_zero,h9 H];simp only[Option.map_some,ei,j2,true_and,k0,t,if_true,Nat.sub_zero];have I:(dQ a).toArray[i]! =e:=by
     rw[e4] at f;obtain⟨_,f⟩:=f;simp[t,f]
    rw[I]
def ak4(a:List Int){g:Gh}{c:World}{n:Value}(N:a.length<=140737488355328)(o:bF g [⟨3,1,a.map (PV.int .i64),0⟩] c)(h0:VR g [⟨3,1,a.map (PV.int .i64),0⟩] c (.fl 0 0) n):
 Calls dd 225 #[n] c λf d=>f= .returned (.tuple #[])/\∃i,Bml.GStep 1 g [⟨3,1,a.map (PV.int .i64),0⟩] c i [⟨3,1,(dQ a).map (PV.int .i64),0⟩] d/\bF i [⟨3,1,(dQ a).map (PV.int .i64),0⟩] d:=by
 have A:SL g ⟨3,1,a.map (PV.int .i64),0⟩ 0 0 a.length n:=by
  cases h0 with
  |aW q=>cases q
  |fl _ _ w _ j S J p=>
   have j:c6 (⟨3,1,a.map (PV.int .i64),0⟩:aO)=c6 w:=j;injection j with j
   subst j;have:=p rfl;have f:(⟨3,1,a.map (PV.int .i64),0⟩:aO).es.length=a.length:=hq _
   rwa [f] at this
 obtain⟨F,m⟩:=A;have v:∀(e:Option Addr) (cap:Nat),a.length=0->Calls dd 225 #[.slice e 0 cap] c λf d=>(f= .returned (.tuple #[])/\∃i,Bml.GStep 1 g [⟨3,1,a.map (PV.int .i64),0⟩] c i [⟨3,1,(dQ a).map (PV.int .i64),0⟩] d/\bF i [⟨3,1,(dQ a).map (PV.int .i64),0⟩] d):=λe cap q=>by
  have p:a=[]:=hM q;subst p;refine(Any.slices_Sort_int_none as3 e cap c).mono ?_
  rintro f d ⟨rfl,rfl⟩;exact⟨rfl,g,Bml.GStep.refl _ _ _ _,o⟩
 cases k:g.β 0 with
 |none=>
  rw[k] at m;obtain⟨_,l,e,rfl⟩:=m;exact v e 0 l
 |some y=>
  obtain⟨b,H⟩:=y;rw[k] at m;obtain⟨cap,e,rfl,L,T,D⟩:=m;rcases p0 a.length with l |K
  .rw[l];exact v e cap l
  .obtain rfl:=(D rfl).1;have t:=(o.obj 0 _ rfl).mem;rw[k] at t;obtain⟨G,cells,s,M,Q,O,x⟩:=t;have B:Sort.Holds (hK .i64) c b 0 a.toArray:=λh r=>by
    rw[k0] at r;have E:abk (a.map (PV.int .i64)) h 0=c6 (.int .i64 a[h]):=by
     unfold abk;rw[hS,dk r]
     rfl
    obtain⟨R,u1,u2,u3⟩:=x h 0 _ E;have C:=VR.fQ u3;subst C;refine⟨?_,?_⟩
    .have z:a.toArray[h]! =a[h]:=by simp[r]
     rw[z,j2];unfold z1;rw[s];simpa using u1
    .unfold vw;rw[s];simp
   refine(Any.slices_Sort_int as3 b 0 cap a c B (nN s) (by omega)).mono ?_
   rintro f d ⟨rfl,P,I,u⟩;rw[apt] at u;exact⟨rfl,ajH o k u⟩
def D5(b:Lp):FT (AW b):=by
 refine⟨pA Tryz.func225 rfl rfl,λa y m g v vs n c d=>?_⟩
 obtain⟨k,o⟩:=ahq (l:=a) (y:=y) m;have h:cz BT (AW b).par a=⟨[(0,.fl 0 0)],[⟨0,0,.aap 3 a⟩]⟩:=rfl;have p:cz BT (AW b).az y=⟨[],[⟨0,0,.aap 3 y⟩]⟩:=rfl;rw[h] at c d⊢;rw[p];subst o
 match vs,n with
 |[r],_=>
 refine(ak4 a k c (d 0)).mono ?_
 rintro u s ⟨rfl,j,f,e⟩;exact⟨_,j,rfl,e,f,.bu [] [] rfl λi t a q=>by simp at q⟩
end Go.X.T
namespace Go.Bml
open Go Go.RowKit
section
variable {P:Program}
def Ee(w:World)(o s y elem:TypeId)(h b d k p:Nat)(e:Addr)(m x j:Nat)(c:List Value)
 (u:P.underlying o=c6 (.slice elem)) (n:cH P elem=c6 h) (B:Nat.min m k=j) (A:c.length=j*h)
 (D:∀a v,c[a]?=c6 v->w.cell? (e.add a)=c6 v) (C:∀a,a<c.length->(w.cell? ⟨b,d+a,c7⟩).isSome=true) (t:∀a,a<c.length->w.frozen? ⟨b,d+a,c7⟩=false) (r:∀v∈c,v.oneCell'=true):
 (h7 #[o,s] y #[.slice (c6 ⟨b,d,c7⟩) k p,.slice (c6 e) m x]).run P w= .ok (goInt j) (w.setCells b d c):=by
 have l:=run_loadCells_list (P:=P) w e c D;have q:=run_storeCells_cells (P:=P) b d c 0 w (by simpa using C) (by simpa using t) r;rw[A] at l;cases f:P.info? elem with
 |none=>simp[cH,f] at n
 |some i=>
  have z:i.size=h:=by simpa[cH,f] using n
  simp[h7,run_underlying u,Builtin.lenOf,p6,sizeOf,typeInfo,f,z,B,l,q]
def MW(b:Nat)(vs:List Value)(a:Nat)(w:World)(f:∀d,d<vs.length->(w.cell? ⟨b,a+d,c7⟩).isSome=true)(c:Nat)(e:(w.cell? ⟨b,c,c7⟩).isSome=true):((w.setCells b a vs).cell? ⟨b,c,c7⟩).isSome=true:=by
 by_cases h:a<=c/\c<a+vs.length
 .have:=m2 b vs a w f (c -a) (by omega);rw[show a+(c -a)=c by omega] at this;rw[this];rfl
 .rw[gy b vs a w ⟨b,c,c7⟩ (λ_ _=>by show c<a\/a+vs.length<=c;omega)];exact e
def akt{w:World}{b o:Nat}{v:Value}{cells:Array Value}{c:TypeId}{a:Nat×Nat}(e:w.heap[b]?=c6 (.cells cells c a)):
 ∃d,(w.setCell ⟨b,o,c7⟩ v).heap[b]?=c6 (.cells d c a)/\d.size=cells.size:=by
 refine⟨cells.setIfInBounds o v,?_,by simp⟩
 unfold w3;dsimp only;rw[k7,if_pos rfl,e]
 rfl
def P2{b:Nat}{c:TypeId}{e:Nat×Nat}:∀(vs:List Value) (o:Nat) (w:World) (cells:Array Value),w.heap[b]?=c6 (.cells cells c e)->
 ∃d,(w.setCells b o vs).heap[b]?=c6 (.cells d c e)/\d.size=cells.size
 |[],_,_,cells,a=>⟨cells,a,rfl⟩
 |v::r,o,w,cells,a=>by
  obtain⟨l,j,h⟩:=akt (o:=o) (v:=v) a;obtain⟨f,i,k⟩:=P2 r (o+1) _ l j;exact⟨f,i,k.trans h⟩
def MQ{b:Nat}:∀(vs:List Value) (c:Nat) (w:World) (a:Nat),a≠b->(w.setCells b c vs).heap[a]?=w.heap[a]?
 |[],_,_,_,_=>rfl
 |v::r,c,w,a,d=>by
  rw[World.setCells,MQ r (c+1) _ a d];exact Below.heap_setCell w ⟨b,c,c7⟩ v a (by simpa using d)
def QW(b:Nat):∀(vs:List Value) (a:Nat) (w:World),(w.setCells b a vs).os=w.os/\(w.setCells b a vs).tape=w.tape/\(w.setCells b a vs).output=w.output/\(w.setCells b a vs).heap.size=w.heap.size
 |[],_,_=>⟨rfl,rfl,rfl,rfl⟩
 |v::r,a,w=>by
  obtain⟨e,c,f,d⟩:=QW b r (a+1) (w.setCell ⟨b,a,c7⟩ v);exact⟨e,c,f,d.trans (by simp[w3])⟩
def Yq{w:World}{b a:Nat}{e vs:List Value}(i:∀c d,e[c]?=c6 d->w.cell? ⟨b,c,c7⟩=c6 d)(n:a<=e.length)(m:∀c,c<vs.length->(w.cell? ⟨b,a+c,c7⟩).isSome=true):
 ∀c d,(e.take a++vs++e.drop (a+vs.length))[c]?=c6 d->(w.setCells b a vs).cell? ⟨b,c,c7⟩=c6 d:=by
 intro c d f;have j:(e.take a).length=a:=by simp;omega
 by_cases h:c<a
 .rw[l3,ev (by omega),h5 h] at f;rw[gy b vs a w _ (λ_ _=>.inl h)];exact i c d f
 .by_cases o:c<a+vs.length
  .rw[ev (by simp;omega),e6 (by omega),j] at f;obtain⟨k,rfl⟩:=e4.1 f;have:=m2 b vs a w m (c -a) k;rw[show a+(c -a)=c by omega] at this;exact this
  .have l:(e.take a++vs).length=a+vs.length:=by rw[ea,j]
   rw[e6 (by omega),l,hP,show a+vs.length+(c - (a+vs.length))=c by omega] at f;rw[gy b vs a w _ (λ_ _=>.inr (by show a+vs.length<=c;omega))];exact i c d f
def oe{w:World}{b a:Nat}{cells:Array Value}{d:TypeId}{e:Nat×Nat}(c:w.heap[b]?=c6 (.cells cells d e)):w.cell? ⟨b,a,c7⟩=cells[a]? :=by
 unfold z1;rw[c]
 rfl
def FM{w:World}{b a:Nat}{cells:Array Value}{d:TypeId}(c:w.heap[b]?=c6 (.cells cells d (0,0))):w.frozen? ⟨b,a,c7⟩=false:=by
 unfold vw;rw[c];simp
def ON{w:World}{b:Nat}{cells:Array Value}{a:TypeId}(c:w.heap[b]?=c6 (.cells cells a (0,0))):w.shape? b=c6 (a,cells.size):=by
 unfold World.shape?;rw[c]
structure nq (E k:Nat) (w w':World) (b C B C':Nat) (us:List Value):Prop where
 os:w'.os=w.os
 tape:w'.tape=w.tape
 output:w'.output=w.output
 size:w.heap.size<=w'.heap.size
 E9:∀x,x<w.heap.size->x≠b->w'.heap[x]?=w.heap[x]?
 place:(B=b/\C'=C)\/w.heap.size<=B
 block:∃cells,w'.heap[B]?=c6 (.cells cells E (0,0))/\cells.size=C'*k
 room:C'<=maxLen
 fits:us.length<=C'*k
 holds:∀j u,us[j]?=c6 u->w'.cell? ⟨B,j,c7⟩=c6 u
def nq.set{E k:Nat}{w a:World}{b C B d o:Nat}{c vs:List Value}(h:nq E k w a b C B d c)(t:o<=c.length)(K:o+vs.length<=d*k)(A:(c.take o++vs++c.drop (o+vs.length)).length<=d*k):
 nq E k w (a.setCells B o vs) b C B d (c.take o++vs++c.drop (o+vs.length)):=by
 obtain⟨cells,l,J⟩:=h.block;have m:∀e,e<vs.length->(a.cell? ⟨B,o+e,c7⟩).isSome=true:=λe L=>by
  rw[oe l,h9 (by omega)]
  rfl
 obtain⟨s,F,I,G⟩:=QW B vs o a;obtain⟨n,u,y⟩:=P2 vs o a cells l;refine⟨s.trans h.os,F.trans h.tape,I.trans h.output,by rw[G];exact h.size,λx D j=>?_,h.place,⟨n,u,y.trans J⟩,h.room,A,Yq h.holds t m⟩
 rw[MQ vs o a x (by rcases h.place with⟨p,_⟩ |p;rw[p];exact j;omega)];exact h.E9 x D j
def nq.drew{E k:Nat}{w a:World}{b C B c:Nat}{d:List Value}(h:nq E k w a b C B c d):nq E k w a.drew b C B c d:=⟨h.os,h.tape,h.output,h.size,h.E9,h.place,h.block,h.room,h.fits,h.holds⟩
def Xa{e d:Nat}{w:World}{b a m:Nat}{cells:Array Value}(f:w.heap[b]?=c6 (.cells cells e (0,0)))(i:cells.size=a*d)(h:a<=maxLen)(j:m<=a*d):nq e d w w b a b a (cells.toList.take m):=by
 refine⟨rfl,rfl,rfl,dv _,λ_ _ _=>rfl,.inl ⟨rfl,rfl⟩,⟨cells,f,i⟩,h,by rw[dt];omega,λl k c=>?_⟩
 rw[oe f, <-eE];rw[gv] at c
 split at c
 .exact c
 .cases c
def ak9{E d:Nat}{w:World}{b C a m:Nat}{row:Array Value}(h:row.size=a*d)(f:a<=maxLen)(j:m<=a*d):nq E d w (w.alloc (.cells row E)) b C w.heap.size a (row.toList.take m):=by
 refine⟨rfl,rfl,rfl,by simp,λe i _=>hL w _ e i,.inr (dv _),⟨row,heap_alloc_new w _,h⟩,f,by rw[dt];omega,λl k c=>?_⟩
 rw[oe (heap_alloc_new w _), <-eE];rw[gv] at c
 split at c
 .exact c
 .cases c
def ac9{f:Type}{b vs:List f}{a c:Nat}(h:a+c<=b.length)(d:vs.length=c):
 (b.take (a+c)++b.drop a++b.drop (a+c+(b.drop a).length)).take a++vs++(b.take (a+c)++b.drop a++b.drop (a+c+(b.drop a).length)).drop (a+vs.length)=b.take a++vs++b.drop a:=by
 have h0:b.drop (a+c+(b.drop a).length)=[]:=mb (by rw[e5];omega);have e:(b.take (a+c)).length=a+c:=by rw[dt];omega
 rw[h0,l0,d,List.take_append_of_le_length (by omega),tj,j7 (by omega),List.drop_left' e]
def anz{h:Type}{b c vs:List h}{a d:Nat}(j:a<=c.length)(f:vs.length=d)(k:b.length=c.length+d)(i:b.take a=c.take a):
 (b.take a++vs++b.drop (a+vs.length)).take (a+d)++c.drop a++(b.take a++vs++b.drop (a+vs.length)).drop (a+d+(c.drop a).length)=c.take a++vs++c.drop a:=by
 have e:(b.take a++vs).length=a+d:=by rw[ea,dt,f];omega
 have h0:(b.take a++vs++b.drop (a+vs.length)).drop (a+d+(c.drop a).length)=[]:=mb (by rw[ea,e,e5,e5];omega);rw[h0,l0,sa e,i]
def No(P:Program)(f:FuncId)(l a p:Nat):Prop:=
 ∀(w:World) (b c d i k e:Nat) (cells h:Array Value),b≠k->w.heap[b]?=c6 (.cells cells l (0,0))->cells.size=d*a->w.heap[k]?=c6 (.cells h l (0,0))->h.size=e*a->1<=e->i<c->c<=d->d<=maxLen->e<=maxLen->(c+1)*p<=140737488355328->(c+1)*a<=140737488355328->
  (∀j∈cells.toList.take (c*a),j.oneCell'=true)->(∀j∈h.toList.take a,j.oneCell'=true)->
  Calls P f #[.slice (c6 ⟨b,0,c7⟩) c d,.int .i64 i,.slice (c6 ⟨k,0,c7⟩) 1 e] w λq o=>∃n m,q= .returned (.slice (c6 ⟨n,0,c7⟩) (c+1) m)/\
   nq l a w o b d n m ((cells.toList.take (c*a)).take (i*a)++h.toList.take a++(cells.toList.take (c*a)).drop (i*a))
end
section
variable {g:Gh}{H:List aO}{w:World}
def gI.take{sz:Nat}{es:List PV}{j:List Value}(h:gI g H w sz es j)(l:∀e,e∈es->e.cells.length=sz)(m:Nat)(d:m<=es.length):gI g H w sz (es.take m) (j.take (m*sz)):=by
 refine⟨?_,λi k c a=>?_⟩
 .rw[dt,dt,h.1,j7 d,j7 (hY _ d)]
 .obtain⟨e,he,x⟩:=gw a;have hi:=(e4.1 he).1;rw[dt] at hi;have hi:i<m/\i<es.length:=by omega
  have s:abk es i k=c6 c:=by
   unfold abk at a⊢
   rwa [h5 hi.1] at a
  rw[h5 hi.1] at he;have y:=l e (fe he);obtain⟨n,t,o,u⟩:=h.2 i k c s;refine⟨n,?_,o,u⟩
  have:(i+1)*sz<=m*sz:=hY _ hi.1;rw[l4,Nat.one_mul] at this;rw[h5 (by omega)];exact t
def gI.drop{sz:Nat}{es:List PV}{a:List Value}(h:gI g H w sz es a)(m:Nat):gI g H w sz (es.drop m) (a.drop (m*sz)):=by
 refine⟨?_,λi d c e=>?_⟩
 .rw[e5,e5,h.1,Nat.sub_mul]
 .have l:abk es (m+i) d=c6 c:=by
   unfold abk at e⊢
   rwa [hP] at e
  obtain⟨j,n,k,o⟩:=h.2 _ d c l;refine⟨j,?_,k,o⟩
  rw[hP, <-Nat.add_assoc, <-l4];exact n
def gI.aX{sz:Nat}{es n:List PV}{t vs:List Value}(h:gI g H w sz es t)(s:gI g H w sz n vs)(u:∀e,e∈es->e.cells.length=sz):gI g H w sz (es++n) (t++vs):=by
 refine⟨by rw[ea,ea,h.1,s.1,l4],λi a c j=>?_⟩
 by_cases hi:i<es.length
 .have m:abk es i a=c6 c:=by
   unfold abk at j⊢
   rwa [ev hi] at j
  obtain⟨k,d,l,o⟩:=h.2 i a c m;exact⟨k,by rw[ev (e4.1 d).1];exact d,l,o⟩
 .have m:abk n (i -es.length) a=c6 c:=by
   unfold abk at j⊢
   rwa [e6 (by omega)] at j
  obtain⟨k,d,l,o⟩:=s.2 _ a c m;refine⟨k,?_,l,o⟩
  have e:i*sz=es.length*sz+(i -es.length)*sz:=by rw[<-l4];congr 1;omega
  rw[e6 (by rw[h.1,e];omega),h.1,e,show es.length*sz+(i -es.length)*sz+a -es.length*sz=(i -es.length)*sz+a by omega];exact d
def qT.row{r b C:Nat}{a:aO}(E:bF g H w)(B:H[r]?=c6 a)(o:g.β r=c6 (b,C)):
 ∃cells,w.heap[b]?=c6 (.cells cells a.ty (0,0))/\cells.size=C*a.sz/\C<=maxLen/\a.es.length<=C/\gI g H w a.sz a.es (cells.toList.take (a.es.length*a.sz))/\∀d∈cells.toList.take (a.es.length*a.sz),d.oneCell'=true:=by
 obtain⟨a1,m,l⟩:=E.obj r a B;rw[o] at l;obtain⟨_,cells,u,j,D,k,x⟩:=l;have A:(cells.toList.take (a.es.length*a.sz)).length=a.es.length*a.sz:=by
  rw[dt,e0,j,j7 (hY _ k)]
 have h:gI g H w a.sz a.es (cells.toList.take (a.es.length*a.sz)):=by
  refine⟨A,λi s c n=>?_⟩
  obtain⟨d,t,F,y⟩:=x i s c n;refine⟨d,?_,F,y⟩
  obtain⟨e,he,I⟩:=gw n;have G:=m i e he;have hi:=(e4.1 he).1;have:(i+1)*a.sz<=a.es.length*a.sz:=hY _ hi;rw[l4,Nat.one_mul] at this;rw[h5 (by omega),eE];exact t
 exact⟨cells,u,j,D,k,h,h.one a1 m⟩
end
def Yz{P:Program}(w:World){b:Oper}{a:Act}{f:Act->World->Prop}{n:Exit->Act->World->Prop}(c e:Operand)(j k:TypeId)
 (m:b.op= .call {callee:=.builtin .copy,args:=#[c,e],argTypes:=#[j,k]}) (v d:Value) (l:a.eval c=v) (q:a.eval e=d) {i:Value} {h:World}
 (p:(h7 #[j,k] b.type #[v,d]).run P w= .ok i h) (o:f (a.put b.dst i) h):b.wp P a w f n:=by
 unfold tc execOp;simp only[m,resolve,invoke,builtin,eo,h6,ec,List.map_toArray,List.map_cons,List.map_nil,l,q,p];exact o
def Kj{P:Program}(w:World){ops:Array Oper}{l:List Oper}{a:Oper}{b:Act}{i:Exit->Act->World->Prop}(n:a.guard=c7)(c e:Operand)(f h:TypeId)
 (o:a.op= .call {callee:=.builtin .copy,args:=#[c,e],argTypes:=#[f,h]}) (v d:Value) (m:b.eval c=v) (s:b.eval e=d) {k:Value} {j:World}
 (q:(h7 #[f,h] a.type #[v,d]).run P w= .ok k j) (p:wpList P ops i l (b.put a.dst k) j):wpList P ops i (a::l) b w:=
 wpList_plain n λ_ r=>Yz w c e f h o v d m s q (r _ _ p)
def Mz{P:Program}{ops:Array Oper}{a:Oper}{b:Act}{w:World}{c:Act->World->Prop}{m:Exit->Act->World->Prop}{r:Prop}
 (n:a.guard=c7) (i f:Operand) (j h:TypeId) (o:a.op=Op.call {callee:=Callee.builtin Builtin.copy,args:=#[i,f],argTypes:=#[j,h]})
 (v k:Value) (l:b.eval i=v) (t:b.eval f=k) {e:Value} {d:World} (s:(h7 #[j,h] a.type #[v,k]).run P w= .ok e d) (p:c (b.put a.dst e) d):
 if oo a (yielded ops b.tmps)=true then tc P a b w c m else r:=by
 have q:oo a (yielded ops b.tmps)=true:=by simp[oo,n]
 rw[if_pos q];unfold tc;simp[execOp,o,resolve,invoke,builtin,l,t,s,k6];exact p
def Xg{g:Gh}{h:List aO}{w m:World}{q b l j f k c v:Nat}{I d:List PV}{u:List Value}(K:bF g h w)(o:h[q]?=c6 ⟨k,c,I,v⟩)(n:g.β q=c6 (b,l))(C:0<c)
 (e:nq k c w m b l j f u) (Q:gI g h w c d u) (F:∀a,a∈d->a.cells.length=c) (s:d.length<=f):
 GStep h.length g h w (g.push q (c6 (j,f))) (h.set q ⟨k,c,d,v+1⟩) m/\bF (g.push q (c6 (j,f))) (h.set q ⟨k,c,d,v+1⟩) m/\
  SL (g.push q (c6 (j,f))) ⟨k,c,d,v+1⟩ q 0 d.length (.slice (c6 ⟨j,0,c7⟩) d.length f):=by
 have S:q<h.length:=(e4.1 o).1;obtain⟨cells,x,N⟩:=e.block;have t:=K.set (r:=q) (o':=⟨k,c,d,v+1⟩) (p:=c6 (j,f)) o e.os e.tape e.output e.size
  (λB J y=>e.E9 B J (λa=>y l (by rw[a];exact n))) (Nat.le_succ v) (λa=>absurd a (by show v+1≠v;omega))
  (λU C1 a=>by
   injection a with a
   injection a with e1 e2
   rcases e.place with⟨G,T⟩ |p
   .exact .inl ⟨l,by rw[<-e1,G];exact n⟩
   .exact .inr (by omega))
  C (λi a M=>F a (fe M))
  ⟨cells,x,N,e.room,s,λi z O A=>by
   obtain⟨L,D,R,E⟩:=Q.2 i z O A;have:=e.holds _ _ D;rw[oe x] at this;exact⟨L,this,R,E⟩⟩
 refine⟨t.1,t.2,by simp,?_⟩
 rw[Gh.kg];exact⟨f,_,rfl,s,λ_=>by simp,λ_=>⟨rfl,rfl⟩⟩
def Nu{g:Gh}{j:List aO}{w:World}{q v:Nat}{a:aO}{f:Value}(h:VR g j w (.fl q v) f)(m:j[q]?=c6 a)(r:a.aF=v)(h0:0<a.es.length):
 ∃b e,g.β q=c6 (b,e)/\f= .slice (c6 ⟨b,0,c7⟩) a.es.length e:=by
 have o:SL g a q 0 a.es.length f:=by
  cases h with
  |aW h=>cases h
  |fl _ _ x _ c u k p=>
   rw[m] at c;injection c with c
   subst c;exact p r.symm
 obtain⟨k,d⟩:=o;cases i:g.β q with
 |none=>rw[i] at d;omega
 |some l=>
  obtain⟨b,e⟩:=l;rw[i] at d;obtain⟨cap,t,s,_,_,n⟩:=d;obtain⟨rfl,rfl⟩:=n rfl;exact⟨b,cap,rfl,s⟩
def aeQ{P:Program}{f:FuncId}{c a F:Nat}(X:No P f c a F)(D:0<a){g:Gh}{w:World}{w0 w1:Nat}{es:List PV}{e:PV}{i:Nat}(ac:i<es.length)
 (j:bF g [⟨c,a,es,w0⟩,⟨c,a,[e],w1⟩] w) (ag:(es.length+1)*F<=140737488355328) (ab:(es.length+1)*a<=140737488355328) {t M:Value} (ah:VR g [⟨c,a,es,w0⟩,⟨c,a,[e],w1⟩] w (.fl 0 w0) t) (Z:VR g [⟨c,a,es,w0⟩,⟨c,a,[e],w1⟩] w (.fl 1 w1) M):
 Calls P f #[t,.int .i64 i,M] w λG l=>∃v p,G= .returned v/\bF p [⟨c,a,es.take i++[e]++es.drop i,w0+1⟩,⟨c,a,[e],w1⟩] l/\GStep 2 g [⟨c,a,es,w0⟩,⟨c,a,[e],w1⟩] w p [⟨c,a,es.take i++[e]++es.drop i,w0+1⟩,⟨c,a,[e],w1⟩] l/\
  VR p [⟨c,a,es.take i++[e]++es.drop i,w0+1⟩,⟨c,a,[e],w1⟩] l (.fl 0 (w0+1)) v:=by
 have h0:([⟨c,a,es,w0⟩,⟨c,a,[e],w1⟩]:List aO)[0]?=c6 ⟨c,a,es,w0⟩:=rfl;have o:([⟨c,a,es,w0⟩,⟨c,a,[e],w1⟩]:List aO)[1]?=c6 ⟨c,a,[e],w1⟩:=rfl;obtain⟨b,B,n,rfl⟩:=Nu ah h0 rfl (by show 0<es.length;omega);obtain⟨V,C,z,rfl⟩:=Nu Z o rfl (by show 0<[e].length;simp);obtain⟨cells,I,J,L,S,r,R⟩:=qT.row j h0 n;obtain⟨K,E,u,x,N,s,q⟩:=qT.row j o z;dsimp only at I J L S r R E u x N s q;rw[show[e].length*a=a by simp] at s q;have k:∀h,h∈es->h.cells.length=a:=λh d=>by
  obtain⟨af,U,rfl⟩:=List.getElem_of_mem d;exact(j.obj 0 _ h0).width af _ (dk U)
 have A:e.cells.length=a:=(j.obj 1 _ o).width 0 _ rfl;refine(X w b es.length B i V C cells K (λae=>absurd (j.inj 0 1 b B C n (by rw[ae];exact z)) (by decide)) I J E u (by simpa using N) ac S L x ag ab R q).mono ?_
 rintro G l ⟨ai,T,rfl,Q⟩;have y:gI g [⟨c,a,es,w0⟩,⟨c,a,[e],w1⟩] w a (es.take i++[e]++es.drop i) ((cells.toList.take (es.length*a)).take (i*a)++K.toList.take a++(cells.toList.take (es.length*a)).drop (i*a)):=by
  refine((r.take k i (by omega)).aX s (λh d=>k h (ie d))).aX (r.drop i) (λh d=>?_)
  rcases l1.1 d with d |d
  .exact k h (ie d)
  .rw[eH.1 d];exact A
 have m:(es.take i++[e]++es.drop i).length=es.length+1:=by simp;omega
 have Y:es.length+1<=T:=by
  have:=Q.fits;rw[y.1,m] at this;exact Nat.le_of_mul_le_mul_right this D
 have ad:∀h,h∈es.take i++[e]++es.drop i->h.cells.length=a:=λh d=>by
  rcases l1.1 d with d |d
  .rcases l1.1 d with d |d
   .exact k h (ie d)
   .rw[eH.1 d];exact A
  .exact k h (km d)
 obtain⟨aa,W,O⟩:=Xg j h0 n D Q y ad (by rw[m];exact Y);refine⟨_,_,rfl,W,aa,.fl 0 (w0+1) ⟨c,a,es.take i++[e]++es.drop i,w0+1⟩ _ rfl (dv _) rfl λ_=>?_⟩
 rw[m] at O;rw[m];exact O
end Go.Bml
namespace Go.X.T
open Go Go.Aml Go.Bml Go.RowKit Go.Proofs
section
open Go.RowKit
def ai7(w:World)(b n C i vb vC:Nat)(cells vcells:Array Value)(hne:b≠vb)(h1:w.heap[b]?=c6 (.cells cells 75 (0,0)))(h2:cells.size=C*9)(h3:w.heap[vb]?=c6 (.cells vcells 75 (0,0)))(h4:vcells.size=vC*9)(hv1:1<=vC)(hi:i<n)(hC:C<=maxLen)
 (hroom:n+1<=C) (c1:∀u∈cells.toList.take (n*9),u.oneCell'=true) (c2:∀u∈vcells.toList.take 9,u.oneCell'=true):
 Calls dd 244 #[.slice (c6 ⟨b,0,c7⟩) n C,.int .i64 i,.slice (c6 ⟨vb,0,c7⟩) 1 vC] w λe w'=>e= .returned (.slice (c6 ⟨b,0,c7⟩) (n+1) C)/\
  w'=(w.drew.setCells b (((i+1)*9)) ((cells.toList.take (n*9)).drop ((i*9)))).setCells b ((i*9)) (vcells.toList.take 9):=by
 have hC63:C<=9223372036854775807:=hC;obtain⟨cs,hcs⟩:∃cs,cs=cells.toList.take (n*9):=⟨_,rfl⟩;obtain⟨vs,hvs⟩:∃vs,vs=vcells.toList.take 9:=⟨_,rfl⟩;have hcl:cs.length=n*9:=by rw[hcs,dt,e0,h2];omega
 have hvl:vs.length=9:=by rw[hvs,dt,e0,h4];omega
 have eZ:∀j v,cs[j]?=c6 v->w.cell? ⟨b,j,c7⟩=c6 v:=λj v hj=>by
  rw[oe h1, <-eE];rw[hcs,gv] at hj
  split at hj
  .exact hj
  .cases hj
 have hrv:∀j v,vs[j]?=c6 v->w.cell? ⟨vb,j,c7⟩=c6 v:=λj v hj=>by
  rw[oe h3, <-eE];rw[hvs,gv] at hj
  split at hj
  .exact hj
  .cases hj
 have hsp:∀j,j<(n+1)*9->(w.cell? ⟨b,j,c7⟩).isSome=true:=λj hj=>by
  rw[oe h1,h9 (by omega)];rfl
 have hfz:∀j,w.frozen? ⟨b,j,c7⟩=false:=λj=>FM h1
 rw[<-hcs] at c1⊢;rw[<-hvs] at c2⊢;have hz2:¬((i:Int)=(n:Int)):=by omega
 have hov:∀lb cb,(callFunc 297 #[.slice (c6 ⟨vb,0,c7⟩) 1 vC,.slice (c6 ⟨b,(i+1)*9,c7⟩) lb cb]).run dd w= .ok (.value (.bool false)) w:=λlb cb=>by
  rw[run_callFunc_extern Tryz.func297 (by kernel_rfl) (by kernel_rfl) (by kernel_rfl) (e:=r0 #[53,53] #[4]) (by kernel_rfl),
   Lib.run_overlaps_apart w 53 4 75 hB 9 Tryz.sizeOf75 ⟨vb,0,c7⟩ ⟨b,(i+1)*9,c7⟩ 1 vC lb cb (λh=>hne h.symm) 75 75 _ _ (ON h3) (ON h1) (by omega) (FM h3) (FM h3)]
  rfl
 have hdl:(cs.drop ((i*9))).length=(n -i)*9:=by rw[e5,hcl];omega
 have mixed:dd.follows .mixedOrders=true:=by kernel_rfl
 have hw1:c3 c4 ((i:Int)+1)=(i:Int)+1:=by rw[h8];omega
 have hw2:c3 c4 ((n:Int)+1)=(n:Int)+1:=by rw[h8];omega
 have hb1:(0:Int)<=(i:Int)+1:=by omega
 have hin:i<=n:=by omega
 have htn:((i:Int)+1).toNat=i+1:=by omega
 have htn2:((n:Int)+1).toNat=n+1:=by omega
 have hb2:¬(C=i+1):=by omega
 have hb3:(i:Int)<=(n:Int)+1:=by omega
 have hb4:¬(C=i):=by omega
 have hb5:¬((C:Int)<(n:Int)+1):=by omega
 have hcp1:∀ty dc sc,(h7 #[53,53] ty #[.slice (c6 ⟨b,(i+1)*9,c7⟩) (n -i) dc,.slice (c6 ⟨b,i*9,c7⟩) (n+1 -i) sc]).run dd w.drew= .ok (goInt (n -i:Nat)) (w.drew.setCells b (((i+1)*9)) (cs.drop ((i*9)))):=λty dc sc=>
  Ee w.drew _ _ ty 75 9 b (((i+1)*9)) (n -i) dc ⟨b,i*9,c7⟩ (n+1 -i) sc (n -i) (cs.drop ((i*9))) hB rfl (by simp only[o2];split <;> omega) hdl
   (λj v hj=>by rw[l2];exact eZ ((i*9)+j) v (by rwa [hP] at hj))
   (λj hj=>hsp _ (by rw[hdl] at hj;omega)) (λj hj=>hfz _) (λv hv=>c1 v (km hv))
 obtain⟨W1,hW1⟩:∃W1,W1=w.drew.setCells b (((i+1)*9)) (cs.drop ((i*9))):=⟨_,rfl⟩;have hsp1:∀k,k<(n+1)*9->(W1.cell? ⟨b,k,c7⟩).isSome=true:=λk hk=>by
  rw[hW1];exact MW b (cs.drop ((i*9))) (((i+1)*9)) w.drew (λj hj=>hsp _ (by rw[hdl] at hj;omega)) k (hsp k hk)
 have hcp2:∀(W:World),(∀x,W.cell? x=W1.cell? x)->(∀x,W.frozen? x=W1.frozen? x)->∀ty dc,(h7 #[53,53] ty #[.slice (c6 ⟨b,i*9,c7⟩) (n+1 -i) dc,.slice (c6 ⟨vb,0,c7⟩) 1 vC]).run dd W= .ok (goInt (1:Nat)) (W.setCells b ((i*9)) vs):=λW hWc hWf ty dc=>
  Ee W _ _ ty 75 9 b ((i*9)) (n+1 -i) dc ⟨vb,0,c7⟩ 1 vC 1 vs hB rfl (by simp only[o2];split <;> omega) (by rw[hvl])
   (λj v hj=>by
    rw[l2,hWc,hW1,gy b _ _ _ _ (λh _=>absurd h.symm hne),j2];exact hrv j v hj)
   (λj hj=>by rw[hWc];exact hsp1 _ (by omega)) (λj hj=>by rw[hWf,hW1,mx];exact hfz _) c2
 rw[<-hW1] at hcp1;clear hcs hvs
 go_enter q2,wa
 go_wp2_with (simp only[hov])
 go_region_law (refine Mz rfl _ _ 53 53 rfl _ _ (by simp[q3,x5]) (by simp[q3,x5]) (hcp1 _ _ _) ?_)
 go_wp2_with (at_builtin;refine Kj _ rfl _ _ 53 53 rfl _ _ rfl rfl (hcp2 _ (λ_=>rfl) (λ_=>rfl) _ _) ?_)
 go_ret
 first |exact⟨rfl,rfl⟩ |exact⟨rfl,by rw[hW1]⟩
def ac5:(dd.info? 75).map (λi=>(i.zero,i.size,i.bytes))=c6 (c6 (ga #[.int .i64 0,.int .i64 0,.int .i64 0,.int .i64 0,.int .i64 0,.bool false,.bool false,.int .i64 0,.int .i64 0]),9,64):=by kernel_rfl
def ah2(w:World)(b n C i vb vC:Nat)(cells vcells:Array Value)(h1:w.heap[b]?=c6 (.cells cells 75 (0,0)))(h2:cells.size=C*9)(h3:w.heap[vb]?=c6 (.cells vcells 75 (0,0)))(h4:vcells.size=vC*9)(hv1:1<=vC)(hi:i<n)(hC:C<=maxLen)
 (hnc:n<=C) (hroom:C<n+1) (hbig:(n+1)*64<=140737488355328) (c1:∀u∈cells.toList.take (n*9),u.oneCell'=true) (c2:∀u∈vcells.toList.take 9,u.oneCell'=true):
 Calls dd 244 #[.slice (c6 ⟨b,0,c7⟩) n C,.int .i64 i,.slice (c6 ⟨vb,0,c7⟩) 1 vC] w λe w'=>e= .returned (.slice (c6 ⟨w.heap.size,0,c7⟩) (n+1) (grownCap w (n+1) C 75))/\
  w'=(((w.alloc (.cells (((cells.toList.take (n*9)).take (i*9)).toArray++dT ((ga #[.int .i64 0,.int .i64 0,.int .i64 0,.int .i64 0,.int .i64 0,.bool false,.bool false,.int .i64 0,.int .i64 0]):Value).cells (n+1 -i)++dT ((ga #[.int .i64 0,.int .i64 0,.int .i64 0,.int .i64 0,.int .i64 0,.bool false,.bool false,.int .i64 0,.int .i64 0]):Value).cells (grownCap w (n+1) C 75 - (n+1))) 75)).drew.setCells w.heap.size (i*9) (vcells.toList.take 9)).drew).setCells w.heap.size ((i+1)*9) ((cells.toList.take (n*9)).drop (i*9)):=by
 have hC63:C<=9223372036854775807:=hC;obtain⟨cs,hcs⟩:∃cs,cs=cells.toList.take (n*9):=⟨_,rfl⟩;obtain⟨vs,hvs⟩:∃vs,vs=vcells.toList.take 9:=⟨_,rfl⟩;have hcl:cs.length=n*9:=by rw[hcs,dt,e0,h2];omega
 have hvl:vs.length=9:=by rw[hvs,dt,e0,h4];omega
 have eZ:∀j v,cs[j]?=c6 v->w.cell? ⟨b,j,c7⟩=c6 v:=λj v hj=>by
  rw[oe h1, <-eE];rw[hcs,gv] at hj
  split at hj
  .exact hj
  .cases hj
 have hrv:∀j v,vs[j]?=c6 v->w.cell? ⟨vb,j,c7⟩=c6 v:=λj v hj=>by
  rw[oe h3, <-eE];rw[hvs,gv] at hj
  split at hj
  .exact hj
  .cases hj
 rw[<-hcs] at c1⊢;rw[<-hvs] at c2⊢;obtain⟨i0,hi0,hz0,hzs,hzb⟩:=info_parts ac5;have hz2:¬((i:Int)=(n:Int)):=by omega
 have hz3:(C:Int)<(n:Int)+1:=by omega
 have hbw:b<w.heap.size:=nN h1;have hvw:vb<w.heap.size:=nN h3;have hkk:(n:Int)+1 - (i:Int)=((n+1 -i:Nat):Int):=by omega
 have hik:i+(n+1 -i)=n+1:=by omega
 have hold:(p6 i0.size i (.slice (c6 ⟨b,0,c7⟩) i C)).run dd w.drew= .ok (cs.take (i*9)).toArray w.drew:=by
  rw[hzs];exact run_firstCells_some w.drew 9 i ⟨b,0,c7⟩ i C (cs.take (i*9)) (by rw[dt];omega) (λj v hj=>by
   rw[l2,j2];rw[gv] at hj
   split at hj
   .exact eZ j v hj
   .cases hj)
 have hrz:∀ty,(s8 #[53,3] ty #[.slice (c6 ⟨b,0,c7⟩) i C,.int .i64 ((n:Int)+1 - (i:Int))]).run dd w=
  .ok (.slice (c6 ⟨w.heap.size,0,c7⟩) (n+1) (grownCap w (n+1) C 75)) (w.drew.alloc (.cells ((cs.take (i*9)).toArray++dT ((ga #[.int .i64 0,.int .i64 0,.int .i64 0,.int .i64 0,.int .i64 0,.bool false,.bool false,.int .i64 0,.int .i64 0]):Value).cells (n+1 -i)++dT ((ga #[.int .i64 0,.int .i64 0,.int .i64 0,.int .i64 0,.int .i64 0,.bool false,.bool false,.int .i64 0,.int .i64 0]):Value).cells (grownCap w (n+1) C 75 - (n+1))) 75)):=λty=>by
  have h:=Lib.run_append_grow_zeros w 53 3 ty 75 i0 _ .i64 .i64 hB qq hi0 hz0 (c6 ⟨b,0,c7⟩) i C (cs.take (i*9)) hold (n+1 -i) (by omega) (by omega) (by omega) (by omega) (by rw[hzb];omega) (by rw[hzb,hik];exact growslice_fits hroom hbig);rw[hik] at h;rw[hkk];exact h
 obtain⟨G,hG⟩:∃G,G=grownCap w (n+1) C 75:=⟨_,rfl⟩;obtain⟨ROW,hROW⟩:∃ROW:Array Value,ROW=(cs.take (i*9)).toArray++dT ((ga #[.int .i64 0,.int .i64 0,.int .i64 0,.int .i64 0,.int .i64 0,.bool false,.bool false,.int .i64 0,.int .i64 0]):Value).cells (n+1 -i)++dT ((ga #[.int .i64 0,.int .i64 0,.int .i64 0,.int .i64 0,.int .i64 0,.bool false,.bool false,.int .i64 0,.int .i64 0]):Value).cells (G - (n+1)):=⟨_,rfl⟩;rw[<-hG] at hrz⊢;rw[<-hROW] at hrz⊢;have hzc:((ga #[.int .i64 0,.int .i64 0,.int .i64 0,.int .i64 0,.int .i64 0,.bool false,.bool false,.int .i64 0,.int .i64 0]):Value).cells.size=9:=by decide
 have hRl:(n+1)*9<=ROW.size:=by
  rw[hROW];simp only[j9,size_zeroCells,hzc,k0,dt,hcl];omega
 obtain⟨W1,hW1⟩:∃W1,W1=w.drew.alloc (.cells ROW 75):=⟨_,rfl⟩;rw[<-hW1] at hrz;have hN:∀j,j<(n+1)*9->(W1.cell? ⟨w.heap.size,j,c7⟩).isSome=true:=λj hj=>by
  rw[hW1,World.cell?_alloc_at (w:=w.drew) ROW _ w.heap.size j rfl,h9 (by omega)];rfl
 have hNf:∀j,W1.frozen? ⟨w.heap.size,j,c7⟩=false:=λj=>by rw[hW1];exact World.frozen?_alloc_at (w:=w.drew) ROW _ w.heap.size j rfl
 have hOb:∀j v,w.cell? ⟨b,j,c7⟩=c6 v->W1.cell? ⟨b,j,c7⟩=c6 v:=λj v h=>by rw[hW1,my (w:=w.drew) _ b j hbw];exact h
 have hOv:∀j v,w.cell? ⟨vb,j,c7⟩=c6 v->W1.cell? ⟨vb,j,c7⟩=c6 v:=λj v h=>by rw[hW1,my (w:=w.drew) _ vb j hvw];exact h
 have hcpA:∀(W:World),(∀x,W.cell? x=W1.cell? x)->(∀x,W.frozen? x=W1.frozen? x)->∀ty dc,(h7 #[53,53] ty #[.slice (c6 ⟨w.heap.size,i*9,c7⟩) (n+1 -i) dc,.slice (c6 ⟨vb,0,c7⟩) 1 vC]).run dd W= .ok (goInt (1:Nat)) (W.setCells w.heap.size (i*9) vs):=λW hWc hWf ty dc=>
  Ee W _ _ ty 75 9 w.heap.size (i*9) (n+1 -i) dc ⟨vb,0,c7⟩ 1 vC 1 vs hB rfl (by simp only[o2];split <;> omega) (by rw[hvl])
   (λj v hj=>by rw[l2,hWc,j2];exact hOv _ v (hrv j v hj))
   (λj hj=>by rw[hWc];exact hN _ (by omega)) (λj hj=>by rw[hWf];exact hNf _) c2
 have hGn:n+1<=G:=by rw[hG];exact grownCap_ge w _ _ _
 have hG63:G<=9223372036854775807:=by
  have:=grownCap_le_maxLen w (n+1) C 75 (by unfold maxLen;omega);rw[<-hG] at this;unfold maxLen at this;omega
 have hGi:¬(G=i):=by omega
 have hGim:¬(G=i+1):=by omega
 have hci:¬(C=i):=by omega
 have hbN:b≠w.heap.size:=by omega
 have hdl:(cs.drop (i*9)).length=(n -i)*9:=by rw[e5,hcl];omega
 have hcpB:∀(W:World),(∀x,W.cell? x=(W1.setCells w.heap.size (i*9) vs).cell? x)->(∀x,W.frozen? x=(W1.setCells w.heap.size (i*9) vs).frozen? x)->∀ty dc sc,(h7 #[53,53] ty #[.slice (c6 ⟨w.heap.size,(i+1)*9,c7⟩) (n -i) dc,.slice (c6 ⟨b,i*9,c7⟩) (n -i) sc]).run dd W= .ok (goInt (n -i:Nat)) (W.setCells w.heap.size ((i+1)*9) (cs.drop (i*9))):=λW hWc hWf ty dc sc=>
  Ee W _ _ ty 75 9 w.heap.size ((i+1)*9) (n -i) dc ⟨b,i*9,c7⟩ (n -i) sc (n -i) (cs.drop (i*9)) hB rfl (by simp only[o2];split <;> omega) hdl
   (λj v hj=>by
    rw[l2,hWc,gy _ _ _ _ _ (λh _=>absurd h hbN)];exact hOb _ v (eZ ((i*9)+j) v (by rwa [hP] at hj)))
   (λj hj=>by rw[hWc];exact MW w.heap.size vs (i*9) W1 (λt ht=>hN _ (by omega)) _ (hN _ (by rw[hdl] at hj;omega)))
   (λj hj=>by rw[hWf,mx];exact hNf _) (λv hv=>c1 v (km hv))
 subst hW1;have hE1:∀x,((w.alloc (.cells ROW 75)).drew).cell? x=(w.drew.alloc (.cells ROW 75)).cell? x:=λx=>rfl
 have hE2:∀x,((w.alloc (.cells ROW 75)).drew).frozen? x=(w.drew.alloc (.cells ROW 75)).frozen? x:=λx=>rfl
 have hF1:∀x,(((w.alloc (.cells ROW 75)).drew.setCells w.heap.size (i*9) vs).drew).cell? x=((w.drew.alloc (.cells ROW 75)).setCells w.heap.size (i*9) vs).cell? x:=λx=>rfl
 have hF2:∀x,(((w.alloc (.cells ROW 75)).drew.setCells w.heap.size (i*9) vs).drew).frozen? x=((w.drew.alloc (.cells ROW 75)).setCells w.heap.size (i*9) vs).frozen? x:=λx=>rfl
 have mixed:dd.follows .mixedOrders=true:=by kernel_rfl
 have hw1:c3 c4 ((i:Int)+1)=(i:Int)+1:=by rw[h8];omega
 have hw2:c3 c4 ((n:Int)+1)=(n:Int)+1:=by rw[h8];omega
 have hw3:c3 c4 ((n:Int)+1 - (i:Int))=(n:Int)+1 - (i:Int):=by rw[h8];omega
 have hb1:(0:Int)<=(i:Int)+1:=by omega
 have hin:i<=n:=by omega
 have htn:((i:Int)+1).toNat=i+1:=by omega
 have hb3:(i:Int)<=(n:Int):=by omega
 clear hkk hik hold hROW hG hRl hcs hvs
 go_enter q2,wa
 go_wp2_with (first
  |(at_builtin;refine n2 _ rfl _ _ _ _ rfl _ _ rfl rfl _ _ (hrz _) ?_)
  |(at_builtin;refine Kj _ rfl _ _ 53 53 rfl _ _ rfl rfl (hcpA _ hE1 hE2 _ _) ?_)
  |(at_builtin;refine Kj _ rfl _ _ 53 53 rfl _ _ rfl rfl (hcpB _ (λ_=>rfl) (λ_=>rfl) _ _ _) ?_))
 go_region_law (refine Mz rfl _ _ 53 53 rfl (.slice (c6 ⟨w.heap.size,(i+1)*9,c7⟩) (n -i) (G - (i+1))) (.slice (c6 ⟨b,i*9,c7⟩) (n -i) (C -i)) (by simp[q3,x5]) (by simp[q3,x5]) (hcpB _ hF1 hF2 3 (G - (i+1)) (C -i)) ?_)
 go_wp2
 go_ret
 exact⟨rfl,rfl⟩
def aot:No dd 244 75 9 64:=by
 intro w b a C i u r cells e D p g z n B A J k Q G N x y;have P:(cells.toList.take (a*9)).length=a*9:=by rw[dt,e0,g];omega
 have q:(e.toList.take 9).length=9:=by rw[dt,e0,n];omega
 by_cases H:a+1<=C
 .refine(ai7 w b a C i u r cells e D p g z n B A k H x y).mono ?_
  rintro M F ⟨rfl,rfl⟩;refine⟨b,C,rfl,?_⟩
  have h:=(Xa (m:=a*9) p g k (by omega)).drew;have l:=h.set (o:=i*9+9) (vs:=(cells.toList.take (a*9)).drop (i*9)) (by omega) (by rw[e5];omega) (by simp only[ea,dt,e5,e0];omega);have c:=l.set (o:=i*9) (vs:=e.toList.take 9) (by simp only[ea,dt,e5,e0];omega) (by omega) (by simp only[ea,dt,e5,e0];omega);rw[ac9 (by omega) q] at c;have f:((i+1)*9)=i*9+9:=by omega
  have j:(i*9)=i*9:=by omega
  first
   |(rw[f,j];exact c)
   |(rw[f];exact c)
   |simpa only[rb] using c
 .refine(ah2 w b a C i u r cells e p g z n B A k J (by omega) G x y).mono ?_
  rintro M F ⟨rfl,rfl⟩;refine⟨_,_,rfl,?_⟩
  have K:=grownCap_ge w (a+1) C 75;have v:=grownCap_le_maxLen w (a+1) C 75 (by unfold maxLen;omega);generalize grownCap w (a+1) C 75=d at K v⊢;have L:((ga #[.int .i64 0,.int .i64 0,.int .i64 0,.int .i64 0,.int .i64 0,.bool false,.bool false,.int .i64 0,.int .i64 0]):Value).cells.size=9:=by decide
  have s:((((cells.toList.take (a*9)).take (i*9)).toArray++dT ((ga #[.int .i64 0,.int .i64 0,.int .i64 0,.int .i64 0,.int .i64 0,.bool false,.bool false,.int .i64 0,.int .i64 0]):Value).cells (a+1 -i)++dT ((ga #[.int .i64 0,.int .i64 0,.int .i64 0,.int .i64 0,.int .i64 0,.bool false,.bool false,.int .i64 0,.int .i64 0]):Value).cells (d - (a+1)))).size=d*9:=by
   simp only[j9,size_zeroCells,L,k0,dt,e0];omega
  have h:=(ak9 (w:=w) (b:=b) (C:=C) (m:=(a+1)*9) (E:=75) s v (by omega)).drew;have I:(((((cells.toList.take (a*9)).take (i*9)).toArray++dT ((ga #[.int .i64 0,.int .i64 0,.int .i64 0,.int .i64 0,.int .i64 0,.bool false,.bool false,.int .i64 0,.int .i64 0]):Value).cells (a+1 -i)++dT ((ga #[.int .i64 0,.int .i64 0,.int .i64 0,.int .i64 0,.int .i64 0,.bool false,.bool false,.int .i64 0,.int .i64 0]):Value).cells (d - (a+1)))).toList.take ((a+1)*9)).length=(a+1)*9:=by
   rw[dt,e0,s];omega
  have t:(((((cells.toList.take (a*9)).take (i*9)).toArray++dT ((ga #[.int .i64 0,.int .i64 0,.int .i64 0,.int .i64 0,.int .i64 0,.bool false,.bool false,.int .i64 0,.int .i64 0]):Value).cells (a+1 -i)++dT ((ga #[.int .i64 0,.int .i64 0,.int .i64 0,.int .i64 0,.int .i64 0,.bool false,.bool false,.int .i64 0,.int .i64 0]):Value).cells (d - (a+1)))).toList.take ((a+1)*9)).take (i*9)=(cells.toList.take (a*9)).take (i*9):=by
   rw[tj,j7 (by omega)];simp only[Array.toList_append,l3];exact sa (by rw[dt];omega)
  generalize (((((cells.toList.take (a*9)).take (i*9)).toArray++dT ((ga #[.int .i64 0,.int .i64 0,.int .i64 0,.int .i64 0,.int .i64 0,.bool false,.bool false,.int .i64 0,.int .i64 0]):Value).cells (a+1 -i)++dT ((ga #[.int .i64 0,.int .i64 0,.int .i64 0,.int .i64 0,.int .i64 0,.bool false,.bool false,.int .i64 0,.int .i64 0]):Value).cells (d - (a+1)))).toList.take ((a+1)*9))=O at h I t;have l:=(h.set (o:=(i*9)) (vs:=e.toList.take 9) (by omega) (by omega) (by simp only[ea,dt,e5];omega)).drew;have c:=l.set (o:=(i*9)+9) (vs:=(cells.toList.take (a*9)).drop (i*9)) (by simp only[ea,dt,e5,e0];omega) (by rw[e5];omega) (by simp only[ea,dt,e5,e0];omega);rw[anz (by omega) q (by omega) t] at c;have f:((i+1)*9)=(i*9)+9:=by omega
  have j:i*9=(i*9):=by omega
  first
   |(rw[f,j];exact c)
   |(rw[f];exact c)
   |simpa only[rb] using c
end
end Go.X.T
namespace Go.X.T
open Go Go.Aml Go.Bml Go.X Go.RowKit Go.Proofs
def FI(e:Nat){d:Type}(a c:List d)(b:Int):Option (List d):=
 (eG a b (a.length:Int)).bind λ_=>bif c5 ((c.length:Int)=0) then c6 a else bif c5 (b=(a.length:Int)) then(bj e a c).bind λr=>c6 r else c7
def AU(b:Lp):aq BT:=⟨244,3,0,(wW b).par,(wW b).az,λa=>FI 64 a.1 a.2.1 a.2.2⟩
def Yp(a:Lp)(b:bi BT.D (AU a).par.bX):gl a BT dd [] (AU a) [.tmp 6] ((Tryz.f244.body).getD .skip) [] b=(AU a).F b:=by kernel_rfl
def OA(a:Lp):FT (AU a):=FA (hs:=[]) mixed dM f0 q2 rfl rfl rfl rfl (by kernel_rfl) rfl rfl (Yp a)
def aix{d:Type}{e:Nat}{l:List d}{i:Int}{xs y:List d}(a:B2 e l i xs=c6 y):∃(c:d) (b:Nat),xs=[c]/\i=(b:Int)/\b<=l.length/\(l.length+1)*e<=140737488355328/\y=l.take b++[c]++l.drop b:=by
 unfold B2 at a
 split at a
 .rename_i j;obtain⟨m,k,h⟩:=j;obtain⟨r,g,a⟩:=m1.1 a;injection a with a
  obtain⟨f,_⟩:=AN g
  match xs,h with
  |[c],_=>exact⟨c,i.toNat,rfl,by omega,by omega,by simpa using f,a.symm⟩
 .cases a
def afY{c e:Type}(f:c->e)(b:List c)(d:c)(a:Nat):(b.map f).take a++[f d]++(b.map f).drop a=(b.take a++[d]++b.drop a).map f:=by simp[List.map_take,List.map_drop]
def adX{c:Type}(a:List c)(b:c):a.take a.length++[b]++a.drop a.length=z6 a [b]:=by simp
def aiO{d:Type}{c:Nat}{a:List d}{b:d}(e:(a.length+1)*c<=140737488355328):FI c a [b] (a.length:Int)=c6 (a++[b]):=by
 unfold FI;have g:eG a (a.length:Int) (a.length:Int)=c6 []:=by
  unfold eG;simp
 have f:bj c a [b]=c6 (a++[b]):=by
  unfold bj;simp[e]
 rw[g];simp[f]
def ail(c:Lp):FT (wW c):=by
 refine⟨(OA c).Q6,λf y s g w vs t n d=>?_⟩
 obtain⟨e,b,r,x,m,j,u⟩:=aix (l:=f.1) (xs:=f.2.1) (i:=f.2.2) (y:=y) s;obtain⟨a,Q,S⟩:=f;dsimp only at r x m j u s;subst r x u
 by_cases A:b<o3 a
 .have M:cz BT (wW c).par (a,[e],(b:Int))=⟨[(0,.fl 0 0),(1,.int .i64 (b:Int)),(2,.fl 1 0)],[⟨0,0,.aap 75 a⟩,⟨0,0,.aap 75 [e]⟩]⟩:=rfl
  erw [M] at n d⊢
  match vs,t with
  |[O,K,T],_=>
  have I:K= .int .i64 (b:Int):=VR.fQ (g:=g) (w:=w) (d 1);subst I;have k:(o4 (BT.ty 75).enc a).length=o3 a:=hq _;have N:=aeQ aot (by decide) (g:=g) (w:=w) (w0:=0) (w1:=0) (es:=o4 (BT.ty 75).enc a) (e:=(BT.ty 75).enc e) (i:=b) (Nat.lt_of_lt_of_eq A k.symm) n (q4 (x6 (congrArg (λz=>(z+1)*64) k)) j) (q4 (x6 (congrArg (λz=>(z+1)*_) k)) (by omega)) (d 0) (d 2);refine N.mono ?_
  rintro R B ⟨v,D,rfl,o,p,q⟩;have J:(o4 (BT.ty 75).enc a).take b++[(BT.ty 75).enc e]++(o4 (BT.ty 75).enc a).drop b=o4 (BT.ty 75).enc (x0 b a++[e]++x1 b a):=afY _ a e b;rw[J] at o p q;have E:take BT 0 (wW c).az ⟨[(0,.fl 0 1)],[⟨1,1,.aap 75 (x0 b a++[e]++x1 b a)⟩,⟨0,0,.aap 75 [e]⟩]⟩ c6=c6 (x0 b a++[e]++x1 b a):=rfl;obtain⟨P,h,H,F,L,G⟩:=EK dM E (g:=D) (w:=B) o;injection h with h
  subst h;exact⟨v,H,rfl,F,(p.less (ei _)).trans L,G 0 v q⟩
 .have m:b=o3 a:=by omega
  subst m;have C:=adX a e
  erw [C]
  exact(OA c).calls (a,[e],(o3 a:Int)) (z6 a [e]) (aiO j) g w vs t n d
def QD0:bY:=⟨[(0,[4],.aap 3 22),(0,[6],.aap 3 22),(0,[7],.aap 3 22)],[(0,.g [.v 27,.v 28,.v 3,.v 31,.r 0,.v 32,.r 1,.r 2,.ns])]⟩
def YL:bY:=⟨[(0,[4],.aap 3 22),(0,[6],.aap 3 22),(0,[7],.aap 3 22),(0,[8],.refs 22 [4]),(0,[8,0],.aap 3 22)],[(0,.g [.v 27,.v 28,.v 3,.v 31,.r 0,.v 32,.r 1,.r 2,.r 3])]⟩
def V1:bY:=⟨[(0,[4],.aap 3 22),(0,[6],.aap 3 22),(0,[7],.aap 3 22),(0,[8],.refs 22 [4,5]),(0,[8,0],.aap 3 22),(0,[8,1],.aap 3 22)],[(0,.g [.v 27,.v 28,.v 3,.v 31,.r 0,.v 32,.r 1,.r 2,.r 3])]⟩
def QD3:bY:=⟨[(0,[4],.aap 3 22),(0,[6],.aap 3 22),(0,[7],.aap 3 22),(0,[8],.refs 22 [4,5,6]),(0,[8,0],.aap 3 22),(0,[8,1],.aap 3 22),(0,[8,2],.aap 3 22)],[(0,.g [.v 27,.v 28,.v 3,.v 31,.r 0,.v 32,.r 1,.r 2,.r 3])]⟩
def pW(a:Lp):aq BT:=⟨143,1,0,⟨[],[(0,.v 35)]⟩,QD0,λb=>we a b⟩
def tR(a:Lp):aq BT:=⟨143,1,0,⟨[],[(0,.v 35)]⟩,YL,λb=>uR a b⟩
def qd(a:Lp):aq BT:=⟨143,1,0,⟨[],[(0,.v 35)]⟩,V1,λb=>pO a b⟩
def nX(a:Lp):aq BT:=⟨143,1,0,⟨[],[(0,.v 35)]⟩,QD3,λb=>nM a b⟩
def HD:List (Nat×Hn):=[(506,⟨[],[(2,⟨[(2,true,.box 35 [.v 27,.v 28,.v 3,.v 31,.r 3,.v 32,.v 22,.v 22,.v 33])],[],[]⟩)],c6 ⟨[(2,true,.box 35 [.v 27,.v 28,.v 3,.v 31,.r 3,.r 4,.v 22,.v 22,.v 33])],[(100002,[5],.aap 120 32)],[(31,.v 3)]⟩⟩),(64818,⟨[2],[],c7⟩),(64819,⟨[3],[],c7⟩),(4090,⟨[4],[],c7⟩)]
def GD(a:Lp):List (aq BT):=[RL a,Mq a,Pv a,OB a,PI a]
def gd(a:Lp):∀b,b∈GD a->FT b:=fc (oh a) (fc (sP a) (fc (Md a) (fc (oH a) (fc (iY a) f0))))
def RD0(a:Lp)(e:ak)(d:Int)(p:List bC)(b:List Int)(f:List aS)(c g:List Int):gl a BT dd (GD a) (pW a) [.cell 2 35] ((r3.body).getD .skip) HD (aB.mk e d p b f c g [])=we a (aB.mk e d p b f c g []):=by kernel_rfl
def Vm(a:Lp)(f:ak)(e:Int)(p:List bC)(c:List Int)(g:List aS)(b h d:List Int):gl a BT dd (GD a) (tR a) [.cell 2 35] ((r3.body).getD .skip) HD (aB.mk f e p c g b h [d])=uR a (aB.mk f e p c g b h [d]):=by kernel_rfl
def RD2(a:Lp)(f:ak)(e:Int)(p:List bC)(c:List Int)(h:List aS)(b i d g:List Int):gl a BT dd (GD a) (qd a) [.cell 2 35] ((r3.body).getD .skip) HD (aB.mk f e p c h b i [d,g])=pO a (aB.mk f e p c h b i [d,g]):=by kernel_rfl
def YZ(a:Lp)(g:ak)(f:Int)(p:List bC)(c:List Int)(i:List aS)(b j e h d:List Int):gl a BT dd (GD a) (nX a) [.cell 2 35] ((r3.body).getD .skip) HD (aB.mk g f p c i b j [e,h,d])=nM a (aB.mk g f p c i b j [e,h,d]):=by kernel_rfl
def HC(b:Lp):FT (pW b):=EB mixed dM (gd b) (hs:=HD) (rs:=[.cell 2 35]) j3 rfl rfl rfl rfl (by kernel_rfl) rfl rfl λd k a=>by
 obtain⟨h,g,p,e,i,f,j,c⟩:=d
 match c,a with
 |[],a=>exact(RD0 b h g p e i f j).trans a
 |_::_,a=>cases a
def SP(b:Lp):FT (tR b):=EB mixed dM (gd b) (hs:=HD) (rs:=[.cell 2 35]) j3 rfl rfl rfl rfl (by kernel_rfl) rfl rfl λd l a=>by
 obtain⟨i,h,p,e,j,f,k,c⟩:=d
 match c,a with
 |[g],a=>exact(Vm b i h p e j f k g).trans a
 |[],a=>cases a
 |_::_::_,a=>cases a
def GB(b:Lp):FT (qd b):=EB mixed dM (gd b) (hs:=HD) (rs:=[.cell 2 35]) j3 rfl rfl rfl rfl (by kernel_rfl) rfl rfl λd m a=>by
 obtain⟨i,h,p,e,k,f,l,c⟩:=d
 match c,a with
 |[g,j],a=>exact(RD2 b i h p e k f l g j).trans a
 |[],a=>cases a
 |[_],a=>cases a
 |_::_::_::_,a=>cases a
def EH(b:Lp):FT (nX b):=EB mixed dM (gd b) (hs:=HD) (rs:=[.cell 2 35]) j3 rfl rfl rfl rfl (by kernel_rfl) rfl rfl λd n a=>by
 obtain⟨j,i,p,e,l,f,m,c⟩:=d
 match c,a with
 |[g,k,h],a=>exact(YZ b j i p e l f m g k h).trans a
 |[],a=>cases a
 |[_],a=>cases a
 |[_,_],a=>cases a
 |_::_::_::_::_,a=>cases a
def HS:List (Nat×Hn):=[(506,⟨[4],[],c7⟩)]
def RS0(a:Lp)(g:ak)(e:Int)(p:List bC)(d:List Int)(h:List aS)(c i:List Int)(b f:Int):gl a BT dd [pW a,lT a] (mG a) [.cell 6 35,.tmp 7] ((m3.body).getD .skip) HS (aB.mk g e p d h c i [],b,f)=oX a (aB.mk g e p d h c i []) b f:=by kernel_rfl
def Yt(a:Lp)(h:ak)(f:Int)(p:List bC)(d:List Int)(i:List aS)(c j:List Int)(e:List Int)(b g:Int):gl a BT dd [tR a,lT a] (mG a) [.cell 6 35,.tmp 7] ((m3.body).getD .skip) HS (aB.mk h f p d i c j [e],b,g)=oX a (aB.mk h f p d i c j [e]) b g:=by kernel_rfl
def RS2(a:Lp)(h:ak)(f:Int)(p:List bC)(d:List Int)(j:List aS)(c k:List Int)(e i:List Int)(b g:Int):gl a BT dd [qd a,lT a] (mG a) [.cell 6 35,.tmp 7] ((m3.body).getD .skip) HS (aB.mk h f p d j c k [e,i],b,g)=oX a (aB.mk h f p d j c k [e,i]) b g:=by kernel_rfl
def RS3(a:Lp)(i:ak)(g:Int)(p:List bC)(d:List Int)(k:List aS)(c l:List Int)(f j e:List Int)(b h:Int):gl a BT dd [nX a,lT a] (mG a) [.cell 6 35,.tmp 7] ((m3.body).getD .skip) HS (aB.mk i g p d k c l [f,j,e],b,h)=oX a (aB.mk i g p d k c l [f,j,e]) b h:=by kernel_rfl
def RS4(a:Lp)(k:ak)(h:Int)(p:List bC)(d:List Int)(m:List aS)(e n:List Int)(g l f i:List Int)(b:List (List Int))(c j:Int):gl a BT dd [pW a,lT a] (mG a) [.cell 6 35,.tmp 7] ((m3.body).getD .skip) HS (aB.mk k h p d m e n (g::l::f::i::b),c,j)=oX a (aB.mk k h p d m e n (g::l::f::i::b)) c j:=by kernel_rfl
def KS(a:Lp)(k:FT (lT a)):FT (mG a):=by
 have v:∀(n:bi BT.D (mG a).par.bX) (r:bi BT.D (mG a).az.bX),(mG a).F n=c6 r->∃s:List (aq BT),(∀t,t∈s->FT t)/\gl a BT dd s (mG a) [.cell 6 35,.tmp 7] ((m3.body).getD .skip) HS n=c6 r:=by
  intro n r b;obtain⟨⟨i,l,p,g,e,h,m,o⟩,f,d⟩:=n
  match o,b with
  |[],b=>exact⟨[pW a,lT a],fc (HC a) (fc k f0),(RS0 a i l p g e h m f d).trans b⟩
  |[c],b=>exact⟨[tR a,lT a],fc (SP a) (fc k f0),(Yt a i l p g e h m c f d).trans b⟩
  |[c,j],b=>exact⟨[qd a,lT a],fc (GB a) (fc k f0),(RS2 a i l p g e h m c j f d).trans b⟩
  |[c,j,q],b=>exact⟨[nX a,lT a],fc (EH a) (fc k f0),(RS3 a i l p g e h m c j q f d).trans b⟩
  |c::j::q::u::o,b=>exact⟨[pW a,lT a],fc (HC a) (fc k f0),(RS4 a i l p g e h m c j q u o f d).trans b⟩
 exact aed mixed dM (hs:=HS) (rs:=[.cell 6 35,.tmp 7]) Tryz.func171 rfl rfl rfl rfl (by kernel_rfl) rfl rfl v
def qZ:List (Nat×Hn):=[(60,⟨[],[(0,⟨[],[],[(57,.v 4)]⟩)],c7⟩),(508,⟨[],[(0,⟨[],[],[(80,.v 4)]⟩)],c7⟩),(509,⟨[],[(0,⟨[],[],[(13,.v 3)]⟩)],c7⟩),(16771484,⟨[],[(0,⟨[],[],[(145,.v 4)]⟩)],c7⟩)]
def GL(a:Lp)(b:aq BT):List (aq BT):=[b,Kf a,C5 a,Fz a,AW a]
def M7:List (Nat×Hn):=qZ++[(16378,⟨[],[(3,⟨[(8,true,.box 101 [.v 3,.v 3,.v 3,.r 9])],[(100008,[3],.aap 3 22)],[]⟩)],c6 ⟨[(8,true,.box 101 [.v 3,.v 3,.v 3,.r 9])],[(100008,[3],.aap 3 22)],[(110,.v 3)]⟩⟩)]
def WN(a:Lp)(g:ak)(e:Int)(p:List bC)(d:List Int)(h:List aS)(c i:List Int)(f b:Int):gl a BT dd (GL a (pW a)) (nD a) [.cell 8 35,.cell 9 101,.tmp 10] ((kc.body).getD .skip) M7 (aB.mk g e p d h c i [],(0:Int),f,b)=jO a (aB.mk g e p d h c i []) 0 f b:=by kernel_rfl
def Od:List (Nat×Hn):=qZ++[(16378,⟨[],[(1,⟨[(1,true,.box 35 [.v 27,.v 28,.v 3,.v 31,.v 22,.v 32,.v 22,.v 22,.v 33]),(2,true,.box 101 [.v 3,.v 3,.v 3,.v 22]),(8,false,.dead),(10,false,.dead)],[],[(10,.v 67)]⟩),(3,⟨[(8,true,.aap 3 22),(10,true,.box 101 [.v 3,.v 3,.v 3,.r 11])],[(100010,[3],.aap 3 22)],[]⟩)],c6 ⟨[(8,true,.aap 3 22),(10,true,.box 101 [.v 3,.v 3,.v 3,.r 11])],[(100010,[3],.aap 3 22)],[(110,.v 3)]⟩⟩)]
def ahC(a:Lp)(h:ak)(f:Int)(p:List bC)(d:List Int)(i:List aS)(c j:List Int)(e:List Int)(g b:Int):gl a BT dd (GL a (tR a)) (nD a) [.cell 8 35,.cell 9 101,.tmp 10] ((kc.body).getD .skip) Od (aB.mk h f p d i c j [e],(0:Int),g,b)=jO a (aB.mk h f p d i c j [e]) 0 g b:=by kernel_rfl
def Po:List (Nat×Hn):=qZ++[(16378,⟨[],[(1,⟨[(1,true,.box 35 [.v 27,.v 28,.v 3,.v 31,.v 22,.v 32,.v 22,.v 22,.v 33]),(2,true,.box 101 [.v 3,.v 3,.v 3,.v 22]),(8,false,.dead),(11,false,.dead)],[],[(10,.v 67)]⟩),(3,⟨[(8,true,.aap 3 22),(11,true,.box 101 [.v 3,.v 3,.v 3,.r 12])],[(100011,[3],.aap 3 22)],[]⟩)],c6 ⟨[(8,true,.aap 3 22),(11,true,.box 101 [.v 3,.v 3,.v 3,.r 12])],[(100011,[3],.aap 3 22)],[(110,.v 3)]⟩⟩)]
def akd(a:Lp)(h:ak)(f:Int)(p:List bC)(d:List Int)(j:List aS)(c k:List Int)(e i:List Int)(g b:Int):gl a BT dd (GL a (qd a)) (nD a) [.cell 8 35,.cell 9 101,.tmp 10] ((kc.body).getD .skip) Po (aB.mk h f p d j c k [e,i],(0:Int),g,b)=jO a (aB.mk h f p d j c k [e,i]) 0 g b:=by kernel_rfl
def Qs:List (Nat×Hn):=qZ++[(16378,⟨[],[(1,⟨[(1,true,.box 35 [.v 27,.v 28,.v 3,.v 31,.v 22,.v 32,.v 22,.v 22,.v 33]),(2,true,.box 101 [.v 3,.v 3,.v 3,.v 22]),(9,false,.dead),(11,false,.dead)],[],[(10,.v 67)]⟩),(3,⟨[(9,true,.aap 3 22),(11,true,.box 101 [.v 3,.v 3,.v 3,.r 12])],[(100011,[3],.aap 3 22)],[]⟩)],c6 ⟨[(9,true,.aap 3 22),(11,true,.box 101 [.v 3,.v 3,.v 3,.r 12])],[(100011,[3],.aap 3 22)],[(110,.v 3)]⟩⟩)]
def am3(a:Lp)(h:ak)(f:Int)(p:List bC)(d:List Int)(j:List aS)(c k:List Int)(e i:List Int)(g b:Int):gl a BT dd (GL a (qd a)) (nD a) [.cell 8 35,.cell 9 101,.tmp 10] ((kc.body).getD .skip) Qs (aB.mk h f p d j c k [e,i],(1:Int),g,b)=jO a (aB.mk h f p d j c k [e,i]) 1 g b:=by kernel_rfl
def LP:List (Nat×Hn):=qZ++[(16378,⟨[],[(1,⟨[(1,true,.box 35 [.v 27,.v 28,.v 3,.v 31,.v 22,.v 32,.v 22,.v 22,.v 33]),(2,true,.box 101 [.v 3,.v 3,.v 3,.v 22]),(8,false,.dead),(12,false,.dead)],[],[(10,.v 67)]⟩),(3,⟨[(8,true,.aap 3 22),(12,true,.box 101 [.v 3,.v 3,.v 3,.r 13])],[(100012,[3],.aap 3 22)],[]⟩)],c6 ⟨[(8,true,.aap 3 22),(12,true,.box 101 [.v 3,.v 3,.v 3,.r 13])],[(100012,[3],.aap 3 22)],[(110,.v 3)]⟩⟩)]
def apY(a:Lp)(i:ak)(g:Int)(p:List bC)(d:List Int)(k:List aS)(c l:List Int)(f j e:List Int)(h b:Int):gl a BT dd (GL a (nX a)) (nD a) [.cell 8 35,.cell 9 101,.tmp 10] ((kc.body).getD .skip) LP (aB.mk i g p d k c l [f,j,e],(0:Int),h,b)=jO a (aB.mk i g p d k c l [f,j,e]) 0 h b:=by kernel_rfl
def MX:List (Nat×Hn):=qZ++[(16378,⟨[],[(1,⟨[(1,true,.box 35 [.v 27,.v 28,.v 3,.v 31,.v 22,.v 32,.v 22,.v 22,.v 33]),(2,true,.box 101 [.v 3,.v 3,.v 3,.v 22]),(9,false,.dead),(12,false,.dead)],[],[(10,.v 67)]⟩),(3,⟨[(9,true,.aap 3 22),(12,true,.box 101 [.v 3,.v 3,.v 3,.r 13])],[(100012,[3],.aap 3 22)],[]⟩)],c6 ⟨[(9,true,.aap 3 22),(12,true,.box 101 [.v 3,.v 3,.v 3,.r 13])],[(100012,[3],.aap 3 22)],[(110,.v 3)]⟩⟩)]
def Wn(a:Lp)(i:ak)(g:Int)(p:List bC)(d:List Int)(k:List aS)(c l:List Int)(f j e:List Int)(h b:Int):gl a BT dd (GL a (nX a)) (nD a) [.cell 8 35,.cell 9 101,.tmp 10] ((kc.body).getD .skip) MX (aB.mk i g p d k c l [f,j,e],(1:Int),h,b)=jO a (aB.mk i g p d k c l [f,j,e]) 1 h b:=by kernel_rfl
def N5:List (Nat×Hn):=qZ++[(16378,⟨[],[(1,⟨[(1,true,.box 35 [.v 27,.v 28,.v 3,.v 31,.v 22,.v 32,.v 22,.v 22,.v 33]),(2,true,.box 101 [.v 3,.v 3,.v 3,.v 22]),(10,false,.dead),(12,false,.dead)],[],[(10,.v 67)]⟩),(3,⟨[(10,true,.aap 3 22),(12,true,.box 101 [.v 3,.v 3,.v 3,.r 13])],[(100012,[3],.aap 3 22)],[]⟩)],c6 ⟨[(10,true,.aap 3 22),(12,true,.box 101 [.v 3,.v 3,.v 3,.r 13])],[(100012,[3],.aap 3 22)],[(110,.v 3)]⟩⟩)]
def ZS(a:Lp)(i:ak)(g:Int)(p:List bC)(d:List Int)(k:List aS)(c l:List Int)(f j e:List Int)(h b:Int):gl a BT dd (GL a (nX a)) (nD a) [.cell 8 35,.cell 9 101,.tmp 10] ((kc.body).getD .skip) N5 (aB.mk i g p d k c l [f,j,e],(2:Int),h,b)=jO a (aB.mk i g p d k c l [f,j,e]) 2 h b:=by kernel_rfl
def ae3(a:Lp)(D:FT (Kf a))(C:FT (C5 a))(E:FT (Fz a)):FT (nD a):=by
 have h:∀r,FT r->∀z,z∈GL a r->FT z:=λr v=>fc v (fc D (fc C (fc E (fc (D5 a) f0))))
 have G:∀(x b:Int) (d:Option (aB×aT×Int)),x≠b->(bif c5 (x=b) then d else c7)=c7:=λx b d v=>by rw[decide_eq_false v];rfl
 have A:∀(l:ak) (m:Int) (p:List bC) (j:List Int) (g:List aS) (k n:List Int) (s:List (List Int)) (i f e:Int) (u:aB×aT×Int),jO a (aB.mk l m p j g k n s) i f e=c6 u->
  ∃(h:List (aq BT)) (B:List (Nat×Hn)),(∀r,r∈h->FT r)/\gl a BT dd h (nD a) [.cell 8 35,.cell 9 101,.tmp 10] ((kc.body).getD .skip) B (aB.mk l m p j g k n s,i,f,e)=c6 u:=by
  intro l m p j g k n s i f e u c
  match s,c with
  |[],c=>
   by_cases h0:(i:Int)=0
   .subst h0;exact⟨GL a (pW a),M7,h _ (HC a),(WN a l m p j g k n f e).trans c⟩
   .unfold jO at c;simp only[decide_eq_false h0,cond_false] at c;cases c
  |[o],c=>
   by_cases h0:(i:Int)=0
   .subst h0;exact⟨GL a (tR a),Od,h _ (SP a),(ahC a l m p j g k n o f e).trans c⟩
   .unfold jO at c;simp only[decide_eq_false h0,cond_false] at c;cases c
  |[o,q],c=>
   by_cases h0:(i:Int)=0
   .subst h0;exact⟨GL a (qd a),Po,h _ (GB a),(akd a l m p j g k n o q f e).trans c⟩
   by_cases t:(i:Int)=1
   .subst t;exact⟨GL a (qd a),Qs,h _ (GB a),(am3 a l m p j g k n o q f e).trans c⟩
   .unfold jO at c;simp only[decide_eq_false h0,decide_eq_false t,cond_false] at c;cases c
  |[o,q,w],c=>
   by_cases h0:(i:Int)=0
   .subst h0;exact⟨GL a (nX a),LP,h _ (EH a),(apY a l m p j g k n o q w f e).trans c⟩
   by_cases t:(i:Int)=1
   .subst t;exact⟨GL a (nX a),MX,h _ (EH a),(Wn a l m p j g k n o q w f e).trans c⟩
   by_cases y:(i:Int)=2
   .subst y;exact⟨GL a (nX a),N5,h _ (EH a),(ZS a l m p j g k n o q w f e).trans c⟩
   .unfold jO at c;simp only[decide_eq_false h0,decide_eq_false t,decide_eq_false y,cond_false] at c;cases c
  |o::q::w::F::s,c=>
   cases c
 exact afO mixed dM (rs:=[.cell 8 35,.cell 9 101,.tmp 10]) Tryz.func163 rfl rfl rfl rfl (by kernel_rfl) rfl rfl λd u v=>A d.1.ao d.1.aa0 d.1.aN d.1.aw d.1.aQ d.1.cn d.1.cf d.1.bp d.2.1 d.2.2.1 d.2.2.2 u v
end Go.X.T
namespace Go.X
open Go Go.Aml Go.Bml Go.RowKit
section
variable {P:Program}{B:Tb}{R:Type}{r:R}
def Pu(I:P.follows .mixedOrders=true)(N:cU P B){U:Lp}{J:List (aq B)}(L:∀M,M∈J->Fits P B M){t m K:Nat}{O:Code}{z:Exit->Act->World->Prop}{w:Nat->St B.D->Option R}:
 ∀(q:List (Code×List (Nat×Hn))) (b:St B.D),AS U B P J m q w b=c6 r->RB t q=true->m<=b.H.length->∀(g:Gh) (i:Act) (d:World),Rel g t (aU B b.E) (av B b.H) i d->
  (∀f s c a,w 0 f=c6 r->m<=f.H.length->Rel s t (aU B f.E) (av B f.H) c a->Bml.GStep m g (av B b.H) d s (av B f.H) a->O.wpIn p7 K P z c a)->
  (∀h c a,h≠ .normal->eI t m g (av B b.H) d (qP B w r) h c a->z h c a)->(IX q O).wpIn p7 K P z i d
 |[],b,F,_,u,g,i,d,A,E,_=>E b g i d F u A (Bml.GStep.refl _ _ _ _)
 |p::q,b,F,Q,u,g,i,d,A,E,y=>by
  obtain⟨Z,S⟩:=fu Q;refine wpIn_seq (wpIn_wide.2 (gO I N L p.1 1 _ _ _ F Z u g i d A _ λh G v k=>?_))
  cases h with
  |normal=>
   obtain⟨_,_,n,⟨o,D,e,rfl,rfl⟩,l,j⟩:=k;have V:=q4 u D.len;exact Pu I N L q o e S V n G v l (λf s c a T aa X ac=>E f s c a T aa X (j.trans ac)) λh c a ab W=>y h c a ab (eI.trans j W)
  |ret=>
   obtain⟨H,H1,n,⟨o,D,e,x,C⟩,l,j⟩:=k;exact y .ret G v (by simp) ⟨H,H1,n,⟨o,e,x,C⟩,l,j⟩
  |exit Y=>
   obtain⟨H,H1,n,⟨o,D,e,x,C⟩,l,j⟩:=k;exact y (.exit Y) G v (by simp) ⟨H,H1,n,⟨o,e,x,C⟩,l,j⟩
  |goto _=>obtain⟨_,_,_,e,_⟩:=k;exact e.elim
  |panic _=>exact k.elim
  |outgrown=>exact k.elim
def afv(E:P.follows .mixedOrders=true)(X:cU P B){x:List (aq B)}(U:∀k,k∈x->Fits P B k){l m n q C:Nat}{I:List Nat}{d:List Oper}{b:St B.D}{z:St B.D->Option R}{g:Gh}{p:Act}{h:World}{Q:Exit->Act->World->Prop}
 (S:Rel g q (aU B b.E) (av B b.H) p h) (F:ops B P x I d (λH b=>bif m7 0 d then bif n4 d [] 0 (nf H []) then z b else c7 else c7) 0 d [] b=c6 r)
 (Z:∀c,c∈d->fL q c.dst=true) (V:∀c,c∈d->∀k,c.op≠ .defer k) (G:∀s y t A,z s=c6 r->Rel A q (aU B s.E) (av B s.H) y t->Bml.GStep m g (av B b.H) h A (av B s.H) t->Q .normal y t):
 (Code.region C d.toArray true).wpIn (p7.inRound l) n P Q p h:=by
 obtain⟨ab,j,T,e⟩:=qg X U F;rw[l0] at e;obtain⟨J,e⟩:=a8 e;obtain⟨w,e⟩:=a8 e;rw[J8,l0,List.reverse_reverse] at w;have W:=LB (nn:=m) (Q:=λo u v=>o= .normal/\u=aU B j.E/\v=av B j.H) T J w Z ⟨rfl,rfl,rfl⟩ g p h S (eI q m g (av B b.H) h λo u v=>o= .normal/\u=aU B j.E/\v=av B j.H) (λ_ _ _ a=>a);have O:=Ck (l:=l) (n:=n) (λp h a=>a) (λi c D=>V c (by
  rw[List.getElem?_toArray] at D;exact fe D)) _ _ _ _ W
 refine wpIn_mono (wpIn_region_any E O) ?_
 intro o K M f;cases o with
 |normal=>
  obtain⟨aa,H3,N,⟨_,rfl,rfl⟩,L,Y⟩:=f;exact G j K M N e L Y
 |exit C=>obtain⟨_,_,_,⟨a,_⟩,_⟩:=f;cases a
 |ret=>obtain⟨_,_,_,⟨a,_⟩,_⟩:=f;cases a
 |goto l=>obtain⟨_,_,_,⟨a,_⟩,_⟩:=f;cases a
 |panic k=>exact f.elim
 |outgrown=>exact f.elim
end
end Go.X
namespace Go.X.T
open Go Go.Aml Go.Bml Go.X Go.RowKit Go.Proofs
def tU(c:Lp){R:Type}(d:aT×Int->Option R)(i:Int->Int->Int->List Int->Int->Option R)(a:fa):Option R:=
 bif c5 (a.abv≠9) then d (aT.mk 0 0 0 [],5) else
 (cp c a.kO 0 31).bind λk=>
 bif (!k) then d (aT.mk 0 0 0 [],40) else
 (bif c5 (((a.Data).length:Int)<9) then c6 true else(aj a.Data 8).bind λb=>c6 (c5 (((a.Data).length:Int)≠c3 c4 (9+c3 c4 (2*c3 c4 b))))).bind λbad=>
 bif bad then d (aT.mk 0 0 0 [],6) else
 (eG a.Data 0 2).bind λf=>(jQ c f).bind λl=>
 (eG a.Data 2 8).bind λj=>(jQ c j).bind λh=>
 (eG a.Data 9 ((a.Data).length:Int)).bind λg=>(vE c g 2).bind λe=>
 i a.kO (c3 c4 l) (c3 c4 h) e.1 e.2
def fK{f c:Type}{b:Option f}{e:f->Option c}{r:c}(d:b.bind e=c6 r):∃a,b=c6 a/\e a=c6 r:=by
 cases b with
 |none=>cases d
 |some a=>exact⟨a,rfl,d⟩
def aoS{h:Lp}{R:Type}{i:aT×Int->R}{l:Int->Int->Int->List Int->Int->Option (aT×Int)}{V:Int->Int->Int->List Int->Int->Option R}{d:fa}{r:aT×Int}(a:tU h c6 l d=c6 r):tU h (λj=>c6 (i j)) V d=c6 (i r)\/∃c e f o m,tU h (λj=>c6 (i j)) V d=V c e f o m/\l c e f o m=c6 r:=by
 unfold tU at a⊢;cases n:c5 (d.abv≠9) with
 |true=>rw[n] at a;exact .inl (congrArg (tt i) a)
 |false=>
  rw[n] at a;rw[cond_false] at a⊢;obtain⟨c,w,a⟩:=fK a;rw[w];show(bif !c then _ else _)=_\/_
  cases g:(!c) with
  |true=>rw[g] at a;exact .inl (congrArg (tt i) a)
  |false=>
   rw[g] at a;rw[cond_false] at a⊢;obtain⟨b,s,a⟩:=fK a;rw[s];show(bif b then _ else _)=_\/_
   cases b with
   |true=>exact .inl (congrArg (tt i) a)
   |false=>
    rw[cond_false] at a⊢;obtain⟨z,p,a⟩:=fK a;obtain⟨e,f0,a⟩:=fK a;obtain⟨y,v,a⟩:=fK a;obtain⟨f,q,a⟩:=fK a;obtain⟨x,t,a⟩:=fK a;obtain⟨k,u,a⟩:=fK a;refine .inr ⟨d.kO,c3 c4 e,c3 c4 f,k.1,k.2,?_,a⟩
    rw[p];simp only[ef,f0,v,q,t,u,g,cond_false]
def JA(a:Lp):∀(h d:List (List Int)) (b:List Int),gW a (h++d) b=(gW a h b).bind (gW a d)
 |[],d,b=>rfl
 |g::f,d,b=>by
  show((jQ a g).bind λc=>(bj 8 b [c3 c4 c]).bind λe=>gW a (f++d) e)=((jQ a g).bind λc=>(bj 8 b [c3 c4 c]).bind λe=>gW a f e).bind _
  cases jQ a g with
  |none=>rfl
  |some c=>
   show((bj 8 b [c3 c4 c]).bind λe=>gW a (f++d) e)=((bj 8 b [c3 c4 c]).bind λe=>gW a f e).bind _
   cases bj 8 b [c3 c4 c] with
   |none=>rfl
   |some i=>exact JA a f d i
def aiZ{c:Lp}{a:List (List Int)}{f:List Int}(d:gW c a []=c6 f)(b:Nat):∃e,gW c (a.take b) []=c6 e/\gW c (a.drop b) e=c6 f:=by
 rw[<-k8 b a,JA] at d;exact fK d
def Ue{e:Lp}{c:List (List Int)}{b:Nat}{f h g:List Int}(l:c[b]?=c6 f)(i:gW e (c.take b) []=c6 h)(a:gW e (c.take (b+1)) []=c6 g):((jQ e f).bind λd=>bj 8 h [c3 c4 d])=c6 g:=by
 have k:c.take (b+1)=c.take b++[f]:=by rw[List.take_add_one,l];rfl
 rw[k,JA,i] at a;have a:((jQ e f).bind λd=>(bj 8 h [c3 c4 d]).bind λn=>c6 n)=c6 g:=a;obtain⟨d,m,a⟩:=fK a;obtain⟨o,j,a⟩:=fK a;rw[m];exact j.trans a
def Su:∀(e:List Int) (c:Nat),e.length=c*2->(lj e).length=c/\∀a,a<c->∃f b,(lj e)[a]?=c6 [f,b]/\e[a*2]?=c6 f/\e[a*2+1]?=c6 b
 |[],c,d=>by
  have:c=0:=by simp at d;omega
  subst this;exact⟨rfl,λa h=>absurd h (by omega)⟩
 |[f],c,d=>by simp at d;omega
 |f::b::i,c,d=>by
  obtain⟨g,rfl⟩:∃g,c=g+1:=⟨c -1,by simp at d;omega⟩;obtain⟨o,n⟩:=Su i g (by simp at d;omega);refine⟨by show(lj i).length+1=_;rw[o],λa h=>?_⟩
  cases a with
  |zero=>exact⟨f,b,rfl,rfl,rfl⟩
  |succ a=>
   obtain⟨k,j,l,p,m⟩:=n a (by omega);refine⟨k,j,l,?_,?_⟩
   .rw[show(a+1)*2=a*2+1+1 by omega];exact p
   .rw[show(a+1)*2+1=a*2+1+1+1 by omega];exact m
def W4{i:Lp}{e f d h:Int}{c:List Int}{r:aT×Int}(a:rA i e f d c h=c6 r):h=2/\∃l b v,c.length=l*2/\gW i (lj c) []=c6 b/\lQ i (aT.mk e f d b)=c6 v/\r=bif (!v) then(aT.mk 0 0 0 [],6) else(aT.mk e f d b,0):=by
 unfold rA at a
 by_cases g:h=2
 rotate_left
 .rw[decide_eq_false g] at a;cases a
 rw[decide_eq_true g,cond_true] at a
 by_cases j:c.length%2=0
 rotate_left
 .rw[decide_eq_false j] at a;cases a
 rw[decide_eq_true j,cond_true] at a;obtain⟨b,m,a⟩:=fK a;obtain⟨v,k,a⟩:=fK a;refine⟨g,c.length/2,b,v,by omega,m,k,?_⟩
 cases v
 .have a:c6 (aT.mk 0 0 0 [],(6:Int))=c6 r:=a;injection a with a
  exact a.symm
 .have a:c6 (aT.mk e f d b,(0:Int))=c6 r:=a;injection a with a
  exact a.symm
end Go.X.T
namespace Go.X.T
open Go Go.Aml Go.Bml Go.X Go.RowKit Go.Proofs
def iq:Code->Code | .seq b _=>b |a=>a
def eM:Code->Code | .seq _ b=>b |a=>a
def V3:Code->Code | .block _ (.rangeFunc _ _ _ (.block _ b))=>b |a=>a
def cas:Code->Code | .block _ (.rangeFunc _ _ b _)=>b |a=>a
def tS:Code->List Oper | .region _ a _=>a.toList |_=>[]
noncomputable def tq:Code:=(tx.body).getD .skip
noncomputable def xl:Code:=eM (eM (eM (eM (eM tq))))
noncomputable def DQ:Code:=iq (iq xl)
noncomputable def Dj:Code:=eM (iq xl)
noncomputable def sk:Code:=eM xl
noncomputable def D2:List (Code×List (Nat×Hn)):=[(iq tq,[]),(iq (eM tq),[]),(iq (eM (eM tq)),[]),(iq (eM (eM (eM tq))),[(2,⟨[],[(0,⟨[],[],[(31,.v 4)]⟩)],c7⟩)]),(iq (eM (eM (eM (eM tq)))),[])]
def LH:tx.body=c6 (IX D2 xl):=by kernel_rfl
def iV(a:Lp):List (aq BT):=[C5 a,JX a,Ks a,H7 a]
def sO(d:Nat)(a:fa)(b:List Int)(h i f g:Int)(e:TV BT.D)(c:List (Ob BT.D)):List (Ob BT.D):=[⟨1,1,.box 97 [.int .i64 a.kO,.int .i64 a.abv,.row 5 a.Data]⟩,⟨1,1,.box 101 [.int .i64 0,.int .i64 0,.int .i64 0,.bg]⟩,⟨d,1,.box 101 [.int .i64 h,.int .i64 i,.int .i64 f,e]⟩,⟨0,1,.box 95 [.row 5 b]⟩,⟨0,1,.box 3 [.int .i64 g]⟩]++c
def fO(c:Nat)(a:fa)(f g e:Int)(d:TV BT.D)(b:List (Ob BT.D)):List (Ob BT.D):=[⟨1,1,.box 97 [.int .i64 a.kO,.int .i64 a.abv,.row 5 a.Data]⟩,⟨1,1,.box 101 [.int .i64 0,.int .i64 0,.int .i64 0,.bg]⟩,⟨c,1,.box 101 [.int .i64 f,.int .i64 g,.int .i64 e,d]⟩]++b
noncomputable def PT(b:Lp):Nat->St BT.D->Option (bi BT.D (kq b).az.bX⊕(List (Ob BT.D)×TV BT.D×TV BT.D×TV BT.D)):=λc a=>
 bif ey c 0 then exec b BT dd (iV b) 0 [] DQ 1 (λc a=>bif ey c 0 then c6 (n0 (a.H,lk a.E 49,lk a.E 4,lk a.E 2)) else c7) a
 else bif x2 c 1 then(nh BT dd a 0 [.cell 2 101,.tmp 3] [] λe=>take BT 0 (kq b).az ⟨e,a.H⟩ c6).bind λd=>c6 (o8 d) else c7
def SR(a:Lp)(b:fa):AS a BT dd (iV a) 0 D2 (PT a) (cz BT (kq a).par b)=tU a (λd=>c6 (o8 d)) (λg h e c f=>c6 (n0 (sO 2 b c g h e f .bg [],.fn 139 [] [.ptr 3 1 0 0,.ptr 4 1 0 0],.ptr 2 1 0 0,.ptr 1 1 0 0))) b:=by kernel_rfl
noncomputable def lv:List Oper:=tS (V3 Dj)
noncomputable def sv:List Oper:=tS (cas Dj)
def Yw:Dj= .block 0 (.rangeFunc (.tmp 49) #[50] (.region 9 sv.toArray false) (.block 1 (.region 10 lv.toArray true))):=by kernel_rfl
def sD(a:List Int):En BT.D:=[(50,.row 5 a),(4,.ptr 2 1 0 0)]
def ru(a:List Int):En BT.D:=[(5,.row 5 a),(50,.row 5 a),(4,.ptr 2 1 0 0)]
def rdA(a:fa)(d:List Int)(e f c:Int)(b:TV BT.D):ops BT dd [] [] sv (λ_ g=>c6 g) 0 sv [] ⟨sD d,fO 2 a e f c b []⟩=c6 ⟨ru d,fO 2 a e f c b []⟩:=by kernel_rfl
def aer(a:fa)(e:List Int)(f g d:Int)(c:TV BT.D)(b:List Int):ops BT dd [] [] sv (λ_ h=>c6 h) 0 sv [] ⟨sD e,fO 2 a f g d c [⟨1,1,.aap 3 b⟩]⟩=c6 ⟨ru e,fO 2 a f g d c [⟨1,1,.aap 3 b⟩]⟩:=by kernel_rfl
def ajg(d:Lp)(a:fa)(e:List Int)(f g c:Int):ops BT dd (iV d) [] lv (λj h=>bif m7 0 lv then bif n4 lv [] 0 (nf j []) then c6 h.H else c7 else c7) 0 lv [] ⟨ru e,fO 2 a f g c .bg []⟩=(jQ d e).bind λb=>(bj 8 [] [c3 c4 b]).bind λi=>c6 (fO 3 a f g c (.fl 4 1) [⟨1,1,.aap 3 [c3 c4 b]⟩,⟨1,1,.aap 3 i⟩]):=by kernel_rfl
def ahg(e:Lp)(a:fa)(f:List Int)(g h d:Int)(c:List Int):ops BT dd (iV e) [] lv (λk i=>bif m7 0 lv then bif n4 lv [] 0 (nf k []) then c6 i.H else c7 else c7) 0 lv [] ⟨ru f,fO 2 a g h d (.fl 3 1) [⟨1,1,.aap 3 c⟩]⟩=(jQ e f).bind λb=>(bj 8 c [c3 c4 b]).bind λj=>c6 (fO 3 a g h d (.fl 3 2) [⟨2,2,.aap 3 j⟩,⟨1,1,.aap 3 [c3 c4 b]⟩]):=by kernel_rfl
def NX(q:Nat):Nat->Option Nat
 |0=>c6 0
 |1=>c6 1
 |2=>c6 2
 |3=>c6 q
 |_=>c7
def Fj{q i r:Nat}(a:NX q i=c6 r):(i<3/\r=i)\/(i=3/\r=q):=by
 match i,a with
 |0,a=>injection a with a;exact .inl ⟨by omega,a.symm⟩
 |1,a=>injection a with a;exact .inl ⟨by omega,a.symm⟩
 |2,a=>injection a with a;exact .inl ⟨by omega,a.symm⟩
 |3,a=>injection a with a;exact .inr ⟨rfl,a.symm⟩
def wQ{g:Gh}{l:World}{f y:List aO}{j:Nat->Option Nat}{u:Nat->Prop}(x:bF g f l){i b:Nat}{a:aO}(n:f[i]?=c6 a)(v:∀d,d∈a.es->cE 0 d)(p:j b=c6 i):0<a.sz/\(∀(i:Nat) (d:PV),a.es[i]?=c6 d->d.cells.length=a.sz)/\(j b=c7->a.es=[])/\
 ∀r,j b=c6 r->∃c,f[r]?=c6 c/\a.ty=c.ty/\a.sz=c.sz/\a.es.length=c.es.length/\∀i b e,abk a.es i b=c6 e->∃q,abk c.es i b=c6 q/\∀k,VR g f l q k->VR (dj g j u) y l e k:=by
 have m:=x.obj i a n;refine⟨m.pos,m.width,(λo=>by rw[p] at o;cases o),λr h=>?_⟩
 rw[p] at h;injection h with h
 subst h;refine⟨a,n,rfl,rfl,rfl,λi b e s=>⟨e,s,λk w=>?_⟩⟩
 exact .aW ((w.dH (nR v s)).mono (λ_ t=>.inl t) λ_ _=>rfl)
def Yy{g:Gh}{s:World}{A0 A1:aO}{H:List aO}{c0 c1 c2:PV}{t tr sz q v:Nat}{es:List PV}
 (h0:H[0]?=c6 A0) (n:H[1]?=c6 A1) (x:H[2]?=c6 ⟨t,4,[.agg [c0,c1,c2,.fl q v]],1⟩) (w:H[q]?=c6 ⟨tr,sz,es,v⟩) (M:3<=q)
 (f0:∀j,j∈A0.es->cE 0 j) (E:∀j,j∈A1.es->cE 0 j) (F:∀j,j∈es->cE 0 j) (fc:cE 0 c0/\cE 0 c1/\cE 0 c2) (p:bF g H s):
 ∃B,bF B [A0,A1,⟨t,4,[.agg [c0,c1,c2,.fl 3 1]],1⟩,⟨tr,sz,es,1⟩] s/\Bml.GStep 3 g H s B [A0,A1,⟨t,4,[.agg [c0,c1,c2,.fl 3 1]],1⟩,⟨tr,sz,es,1⟩] s:=by
 refine⟨dj g (NX q) (λ_=>False),bF.re p (λ_ f=>f.elim) (λi O r f D=>?_) (λi r f=>?_) (λi o a=>?_),GStep.re λi C I c=>?_⟩
 .rcases Fj f with⟨u,b⟩ |⟨u,b⟩ <;> rcases Fj D with⟨L,G⟩ |⟨L,G⟩ <;> omega
 .show i<4
  rcases Fj f with⟨u,b⟩ |⟨u,b⟩ <;> omega
 .match i,a with
  |0,a=>have a:c6 A0=c6 o:=a;injection a with a;subst a;exact wQ p h0 f0 rfl
  |1,a=>have a:c6 A1=c6 o:=a;injection a with a;subst a;exact wQ p n E rfl
  |3,a=>
   have a:c6 (⟨tr,sz,es,1⟩:aO)=c6 o:=a;injection a with a
   subst a;have A:=p.obj q _ w;refine⟨A.pos,A.width,(λf=>by cases f),λr e=>?_⟩
   have e:c6 q=c6 r:=e;injection e with e
   subst e;refine⟨_,w,rfl,rfl,rfl,λi z y d=>⟨y,d,λm k=>?_⟩⟩
   exact .aW ((k.dH (nR F d)).mono (λ_ l=>.inl l) λ_ _=>rfl)
  |2,a=>
   have a:c6 (⟨t,4,[.agg [c0,c1,c2,.fl 3 1]],1⟩:aO)=c6 o:=a;injection a with a
   subst a;refine⟨by show 0<4;omega,λi j h=>?_,(λf=>by cases f),λr e=>?_⟩
   .match i,h with
    |0,h=>injection h with h;subst h;rfl
   .have e:c6 2=c6 r:=e;injection e with e
    subst e;refine⟨_,x,rfl,rfl,rfl,λi z y d=>?_⟩
    obtain⟨j,h,K⟩:=gw d
    match i,h with
    |0,h=>
     injection h with h
     subst h
     match z,K with
     |0,_=>injection d with d;subst d;exact⟨c0,rfl,λm k=>.aW ((k.dH fc.1).mono (λ_ l=>.inl l) λ_ _=>rfl)⟩
     |1,_=>injection d with d;subst d;exact⟨c1,rfl,λm k=>.aW ((k.dH fc.2.1).mono (λ_ l=>.inl l) λ_ _=>rfl)⟩
     |2,_=>injection d with d;subst d;exact⟨c2,rfl,λm k=>.aW ((k.dH fc.2.2).mono (λ_ l=>.inl l) λ_ _=>rfl)⟩
     |3,_=>
      injection d with d
      subst d;refine⟨.fl q v,rfl,λm k=>?_⟩
      cases k with
      |aW f=>cases f
      |fl _ _ C _ c N n J=>
       rw[w] at c;injection c with c
       subst c;refine .fl 3 1 ⟨tr,sz,es,1⟩ m rfl (dv _) n λ_=>?_
       have:=J rfl;unfold SL at this⊢;exact this
 .match i,I with
  |0,_=>rw[h0] at c;injection c with c;subst c;exact⟨A0,rfl,dv _,λ_=>⟨rfl,rfl,rfl⟩⟩
  |1,_=>rw[n] at c;injection c with c;subst c;exact⟨A1,rfl,dv _,λ_=>⟨rfl,rfl,rfl⟩⟩
  |2,_=>rw[x] at c;injection c with c;subst c;exact⟨_,rfl,dv _,λ_=>⟨rfl,rfl,rfl⟩⟩
def EO:Nat->Option Nat
 |0=>c6 0
 |1=>c6 1
 |2=>c6 2
 |_=>c7
def B9{i r:Nat}(a:EO i=c6 r):i<3/\r=i:=by
 match i,a with
 |0,a=>injection a with a;exact⟨by omega,a.symm⟩
 |1,a=>injection a with a;exact⟨by omega,a.symm⟩
 |2,a=>injection a with a;exact⟨by omega,a.symm⟩
def ah7{g:Gh}{f:World}{A0 A1 A2 l k:aO}(f0:∀c,c∈A0.es->cE 0 c)(p:∀c,c∈A1.es->cE 0 c)(m:∀c,c∈A2.es->cE 0 c)(d:bF g [A0,A1,A2,l,k] f):
 bF (dj g EO λr=>r=3\/r=4) [A0,A1,A2] f/\Bml.GStep 3 g [A0,A1,A2,l,k] f (dj g EO λr=>r=3\/r=4) [A0,A1,A2] f:=by
 refine⟨bF.re d (λr e q o=>?_) (λi t r e n=>?_) (λi r e=>?_) (λi h a=>?_),GStep.re λi j s b=>?_⟩
 .have:=B9 o;omega
 .have:=B9 e;have:=B9 n;omega
 .exact(B9 e).1
 .match i,a with
  |0,a=>have a:c6 A0=c6 h:=a;injection a with a;subst a;exact wQ d rfl f0 rfl
  |1,a=>have a:c6 A1=c6 h:=a;injection a with a;subst a;exact wQ d rfl p rfl
  |2,a=>have a:c6 A2=c6 h:=a;injection a with a;subst a;exact wQ d rfl m rfl
 .match i,s with
  |0,_=>have b:c6 A0=c6 j:=b;injection b with b;subst b;exact⟨A0,rfl,dv _,λ_=>⟨rfl,rfl,rfl⟩⟩
  |1,_=>have b:c6 A1=c6 j:=b;injection b with b;subst b;exact⟨A1,rfl,dv _,λ_=>⟨rfl,rfl,rfl⟩⟩
  |2,_=>have b:c6 A2=c6 j:=b;injection b with b;subst b;exact⟨A2,rfl,dv _,λ_=>⟨rfl,rfl,rfl⟩⟩
def aew(j:Nat)(t:2<=j)(b h k i l f cap d:Nat)(g:Option Addr)(v:d*2<=140737488355328)(q:d*2<=cap)(u:0<d->g=c6 ⟨l,f,c7⟩):
 vy j dd 139 #[.pointer (c6 ⟨b,h,c7⟩),.pointer (c6 ⟨k,i,c7⟩)] ((List.range d).map λc=>.slice (c6 ⟨l,f+c*2,c7⟩) 2 2) (λa=>a.cell? ⟨b,h,c7⟩=c6 (.slice g (d*2) cap)/\a.cell? ⟨k,i,c7⟩=c6 (.int .i64 2)):=by
 intro w s a n p r h0;refine(ai5 j t w b h k i l f cap d g v s (λc a e=>⟨(n c a e).1,(n c a e).2,q,u⟩) p (λc a o e=>r c _ a ?_ e) a h0).mono λx y m=>⟨m.1,by rw[hq,List.length_range];exact m.2⟩
 rw[hS,oi o]
 rfl
def amL{p:Nat->Prop}{m:World}{h:List Int}{e l f cap:Nat}{g j:Int}(v:h[e*2]?=c6 g)(D:h[e*2+1]?=c6 j){t:Nat}{o:Option Addr}(q:VI p m (.vs 1 (h.map (PV.int .u8))) (.slice o t cap))(F:o=c6 ⟨l,f,c7⟩):VI p m (.vs 1 ([g,j].map (PV.int .u8))) (.slice (c6 ⟨l,f+e*2,c7⟩) 2 2):=by
 generalize x:h.map (PV.int .u8)=E at q;generalize C:s3 o t cap=z at q;cases q with
 |eX _ G cap=>
  have:h=[]:=List.map_eq_nil_iff.1 x;subst this;simp at v
 |vs _ _ J I cap u2 H A K u s r=>
  injection C with hz1 hz2 hz3
  rw[F] at hz1;injection hz1 with hz1
  injection hz1 with hz4 hz5
  subst hz4;subst hz5;have w:∀(i:Nat) (b:Int),h[i]?=c6 b->abk E i 0=c6 (.int .u8 b):=λi b c=>by
   rw[<-x];unfold abk;rw[hS,c]
   rfl
  have B:∀(i d:Nat) (b:PV),abk ([g,j].map (PV.int .u8)) i d=c6 b->d=0/\((i=0/\b= .int .u8 g)\/(i=1/\b= .int .u8 j)):=λi d b c=>by
   obtain⟨k,a,y⟩:=gw c
   match i,a with
   |0,a=>
    injection a with a
    subst a
    match d,y with
    |0,_=>injection c with c;exact⟨rfl,.inl ⟨rfl,c.symm⟩⟩
   |1,a=>
    injection a with a
    subst a
    match d,y with
    |0,_=>injection c with c;exact⟨rfl,.inr ⟨rfl,c.symm⟩⟩
  have n:∀(i d:Nat) (b:PV),abk ([g,j].map (PV.int .u8)) i d=c6 b->m.cell? ⟨l,f+e*2+(i*1+d),c7⟩=c6 (u2 (e*2+i) 0)/\(u2 (e*2+i) 0).oneCell'=true/\VI p m b (u2 (e*2+i) 0):=λi d b c=>by
   obtain⟨rfl,⟨rfl,rfl⟩ |⟨rfl,rfl⟩⟩:=B i d b c
   .have:=w _ _ v;refine⟨?_,s _ _ _ this,r _ _ _ this⟩
    have k:=u _ _ _ this;rw[show f+e*2+(0*1+0)=f+(e*2*1+0) by omega];exact k
   .have:=w _ _ D;refine⟨?_,s _ _ _ this,r _ _ _ this⟩
    have k:=u _ _ _ this;rw[show f+e*2+(1*1+0)=f+((e*2+1)*1+0) by omega];exact k
  refine .vs 1 ([g,j].map (PV.int .u8)) l (f+e*2) 2 (λi _=>u2 (e*2+i) 0) (dv _) A (λi k a=>?_) (λi d b c=>(n i d b c).1) (λi d b c=>(n i d b c).2.1) (λi d b c=>(n i d b c).2.2)
  match i,a with
  |0,a=>injection a with a;subst a;rfl
  |1,a=>injection a with a;subst a;rfl
def ccd:Code->Code | .cond _ b _=>b |a=>a
noncomputable def Yr:Code:=iq (iq sk)
noncomputable def r12:Code:=iq (ccd (eM (iq sk)))
noncomputable def r13:Code:=iq (eM sk)
noncomputable def jA:List Oper:=tS Yr
noncomputable def kE:List Oper:=tS r12
noncomputable def pj:List Oper:=tS r13
def ahb:xl= .seq (.seq DQ Dj) sk:=by kernel_rfl
def alU:sk= .seq (.seq (.region 11 jA.toArray false) (.cond (.tmp 61) (.seq (.region 12 kE.toArray false) .ret) .skip)) (.seq (.region 13 pj.toArray false) .ret):=by kernel_rfl
def tE:En BT.D:=[(4,.ptr 2 1 0 0),(2,.ptr 1 1 0 0)]
def iT(a:fa)(c d b:Int)(e:List Int):Nat->List (Ob BT.D)
 |0=>fO 2 a c d b .bg []
 |_+1=>fO 2 a c d b (.fl 3 1) [⟨1,1,.aap 3 e⟩]
def aaX(f:Lp)(e:fa)(c d b:Int):ops BT dd (iV f) [] jA (λ_ a=>c6 (a.H,lk a.E 61,lk a.E 4,lk a.E 2)) 0 jA [] ⟨tE,fO 2 e c d b .bg []⟩=(lQ f (aT.mk c d b [])).bind λv=>c6 (fO 2 e c d b .bg [],.bool (!v),.ptr 2 1 0 0,.ptr 1 1 0 0):=by kernel_rfl
def YK(g:Lp)(f:fa)(c e b:Int)(d:List Int):ops BT dd (iV g) [] jA (λ_ a=>c6 (a.H,lk a.E 61,lk a.E 4,lk a.E 2)) 0 jA [] ⟨tE,fO 2 f c e b (.fl 3 1) [⟨1,1,.aap 3 d⟩]⟩=(lQ g (aT.mk c e b d)).bind λv=>c6 (fO 2 f c e b (.fl 3 1) [⟨1,1,.aap 3 d⟩],.bool (!v),.ptr 2 1 0 0,.ptr 1 1 0 0):=by kernel_rfl
noncomputable def fin(a:Lp)(b:St BT.D):Option (bi BT.D (kq a).az.bX):=nh BT dd b 0 [.cell 2 101,.tmp 3] [] λc=>take BT 0 (kq a).az ⟨c,b.H⟩ c6
def aiP(a:Lp)(b:fa)(e f d:Int):ops BT dd (iV a) [] kE (λ_ c=>fin a c) 0 kE [] ⟨tE,fO 2 b e f d .bg []⟩=c6 (aT.mk 0 0 0 [],(6:Int)):=by kernel_rfl
def agF(a:Lp)(b:fa)(e g d:Int)(f:List Int):ops BT dd (iV a) [] kE (λ_ c=>fin a c) 0 kE [] ⟨tE,fO 2 b e g d (.fl 3 1) [⟨1,1,.aap 3 f⟩]⟩=c6 (aT.mk 0 0 0 [],(6:Int)):=by kernel_rfl
def alr(b:Lp)(e:fa)(c d a:Int):ops BT dd (iV b) [] pj (λ_ f=>fin b f) 0 pj [] ⟨tE,fO 2 e c d a .bg []⟩=c6 (aT.mk c d a [],(0:Int)):=by kernel_rfl
def ajs(b:Lp)(f:fa)(c e a:Int)(d:List Int):ops BT dd (iV b) [] pj (λ_ g=>fin b g) 0 pj [] ⟨tE,fO 2 f c e a (.fl 3 1) [⟨1,1,.aap 3 d⟩]⟩=c6 (aT.mk c e a d,(0:Int)):=by kernel_rfl
def Ou{q:Nat}(c:q≠4)(b:q≠2):(lk tE q:TV BT.D)= .any:=by
 have d:ey 4 q=false:=by cases a:ey 4 q with |false=>rfl |true=>exact absurd (beq_eq a).symm c
 have e:ey 2 q=false:=by cases a:ey 2 q with |false=>rfl |true=>exact absurd (beq_eq a).symm b
 simp only[tE,lk,d,e,cond_false]
def as6(a:fa):∀c,c∈(aY BT ⟨1,1,.box 97 [.int .i64 a.kO,.int .i64 a.abv,.row 5 a.Data]⟩).es->cE 0 c:=λc b=>by
 have b:c∈[PV.agg [.int .i64 a.kO,.int .i64 a.abv,.vs (BT.sz 5) (o4 (BT.ty 5).enc a.Data)]]:=b;rw[eH] at b;subst b;refine .agg _ λe d=>?_
 simp only[hI,j4,or_false] at d;rcases d with rfl |rfl |rfl
 .exact .int _ _
 .exact .int _ _
 .exact .vs _ _
def Qw:∀a,a∈(aY BT ⟨1,1,.box 101 [.int .i64 0,.int .i64 0,.int .i64 0,.bg]⟩).es->cE 0 a:=λa b=>by
 have b:a∈[PV.agg [.int .i64 0,.int .i64 0,.int .i64 0,.bg]]:=b;rw[eH] at b;subst b;refine .agg _ λd c=>?_
 simp only[hI,j4,or_false] at c;rcases c with rfl |rfl |rfl |rfl
 .exact .int _ _
 .exact .int _ _
 .exact .int _ _
 .exact .bg
def amN(d f c:Int):∀b,b∈(aY BT ⟨2,1,.box 101 [.int .i64 d,.int .i64 f,.int .i64 c,.bg]⟩).es->cE 0 b:=λb a=>by
 have a:b∈[PV.agg [.int .i64 d,.int .i64 f,.int .i64 c,.bg]]:=a;rw[eH] at a;subst a;refine .agg _ λg e=>?_
 simp only[hI,j4,or_false] at e;rcases e with rfl |rfl |rfl |rfl
 .exact .int _ _
 .exact .int _ _
 .exact .int _ _
 .exact .bg
def akj{g:Gh}{h:World}{a:fa}{b d e:Int}{c:List Int}{f:List (Ob BT.D)}{q v m n:Nat}{j:List (Ob BT.D)}(o:f=fO m a b d e (.fl q v) j)(p:nth f q=c6 ⟨n,v,.aap 3 c⟩)(w:3<=q)(s:bF g (av BT f) h)(k:Nat):
 ∃l,bF l (av BT (iT a b d e c (k+1))) h/\Bml.GStep 3 g (av BT f) h l (av BT (iT a b d e c (k+1))) h:=by
 subst o;have r:∀i,i∈c.map (BT.ty 3).enc->cE 0 i:=λi u=>by
  obtain⟨z,_,rfl⟩:=j1.1 u;exact dM.lt 3 z
 exact Yy (H:=av BT (fO m a b d e (.fl q v) j)) (A0:=aY BT ⟨1,1,.box 97 [.int .i64 a.kO,.int .i64 a.abv,.row 5 a.Data]⟩) (A1:=aY BT ⟨1,1,.box 101 [.int .i64 0,.int .i64 0,.int .i64 0,.bg]⟩) (t:=101) (c0:=.int .i64 b) (c1:=.int .i64 d) (c2:=.int .i64 e) (tr:=3) (sz:=BT.sz 3) (es:=c.map (BT.ty 3).enc) rfl rfl rfl (df p) w (as6 a) Qw r ⟨.int _ _,.int _ _,.int _ _⟩ s
def GS{g:Gh}{h:List aO}{e:World}(k:bF g h e){r t:Nat}{c:PV}(l:h[r]?=c6 ⟨t,1,[.agg [c]],1⟩)(n:cE 0 c):∃b f a,g.β r=c6 (b,f)/\e.cell? ⟨b,0,c7⟩=c6 a/\VI g.F e c a:=by
 have o:=k.obj r _ l;have d:=o.mem;cases i:g.β r with
 |none=>rw[i] at d;cases d
 |some p=>
  obtain⟨b,f⟩:=p;rw[i] at d;obtain⟨_,cells,q,_,_,_,s⟩:=d;obtain⟨a,j,_,m⟩:=s 0 0 c rfl;refine⟨b,f,a,rfl,?_,m.dH n⟩
  rw[oe q];exact j
def JR{d:Program}{b:Sem Value}{c:World}{e:Deferred}{g:World}:(do let f<-b;pure (Next.value f):Sem Next).run d c≠ .ok (.defer e) g:=by
 simp only[eo];cases i:b.run d c with
 |ok v h=>intro a;simp[k6] at a
 |halt j h=>intro a;simp[k6] at a
def abg{d:Program}{b:Sem Unit}{c:World}{e:Deferred}{f:World}:(do b;pure Next.skip:Sem Next).run d c≠ .ok (.defer e) f:=by
 simp only[eo];cases h:b.run d c with
 |ok v g=>intro a;simp[k6] at a
 |halt i g=>intro a;simp[k6] at a
def JH(b:Oper):Bool:=match b.op with | .move _ | .assign _ | .load _ _ | .store _ _ _ | .unOp _ _ _ | .build _ _=>true | .call a=>(match a.callee with | .value (.func 78)=>true |_=>false) |_=>false
def ajK{e:Oper}(c:JH e=true):pK dd e:=by
 intro d q j m a;obtain⟨l,h,o,k,p,gd⟩:=e;cases h with
 |move f=>cases a
 |assign f=>cases a
 |load i d=>exact JR a
 |store i d f=>exact abg a
 |unOp d b g=>exact JR a
 |build d b=>exact JR a
 |call g=>
  obtain⟨callee,args,n⟩:=g;unfold JH at c;dsimp only at c
  split at c
  .simp only[execOp,resolve,Deferred.ofValue,q3,eo,h6,ec,invoke] at a;rw[pA z7 rfl rfl] at a;cases a
  .cases c
 |_=>cases c
def IT:∀b:List Oper,b.all JH=true->∀a,a∈b->pK dd a:=λb c a d=>ajK (List.all_eq_true.1 c a d)
def agI:∀a,a∈jA->pK dd a:=IT _ rfl
def alv:∀a,a∈kE->pK dd a:=IT _ rfl
def aqI:∀a,a∈pj->pK dd a:=IT _ rfl
def aoq{f:Lp}(E:∀R,R∈iV f->FT R){x:fa}{a b c:Int}{e:List Int}{v:Bool}{r:aT×Int}{N:Nat}(G:lQ f (aT.mk a b c e)=c6 v)(n:r=bif (!v) then(aT.mk 0 0 0 [],6) else(aT.mk a b c e,0))(h0:N=0->e=[])
 {g:Gh} {ac:Act} {w:World} {d:List Deferred} {J:Exit->Act->World->Prop} (aa:Rel g 64 (aU BT tE) (av BT (iT x a b c e N)) ac w)
 (K:∀p L u M,fin f p=c6 r->Rel M 64 (aU BT p.E) (av BT p.H) L u->Bml.GStep 3 g (av BT (iT x a b c e N)) w M (av BT p.H) u->J .ret (ji d L) u):sk.wp dd J (ji d ac) w:=by
 rw[alU];have T:ops BT dd (iV f) [] jA (λ_ i=>c6 (i.H,lk i.E 61,lk i.E 4,lk i.E 2)) 0 jA [] ⟨tE,iT x a b c e N⟩=c6 (iT x a b c e N,.bool (!v),.ptr 2 1 0 0,.ptr 1 1 0 0):=by
  cases N with
  |zero=>
   rw[h0 rfl] at G;refine(aaX f x a b c).trans ?_
   rw[G]
   rfl
  |succ N=>
   refine(YK f x a b c e).trans ?_
   rw[G]
   rfl
 have ag:ops BT dd (iV f) [] kE (λ_ i=>fin f i) 0 kE [] ⟨tE,iT x a b c e N⟩=c6 (aT.mk 0 0 0 [],(6:Int)):=by
  cases N with
  |zero=>exact aiP f x a b c
  |succ N=>exact agF f x a b c e
 have Z:ops BT dd (iV f) [] pj (λ_ i=>fin f i) 0 pj [] ⟨tE,iT x a b c e N⟩=c6 (aT.mk a b c e,(0:Int)):=by
  cases N with
  |zero=>rw[h0 rfl];exact alr f x a b c
  |succ N=>exact ajs f x a b c e
 have ab:∀j,j∈jA->fL 64 j.dst=true:=mL _ rfl;have X:∀j,j∈kE->fL 64 j.dst=true:=mL _ rfl;have W:∀j,j∈pj->fL 64 j.dst=true:=mL _ rfl;refine wp_seq (wp_seq (Hv (m:=3) dM E aa T ab agI λs o I ad k l B=>?_))
 injection k with k
 have Q:s.H=iT x a b c e N:=congrArg (·.1) k;have V:lk s.E 61= .bool (!v):=congrArg (·.2.1) k;have Y:lk s.E 4= .ptr 2 1 0 0:=congrArg (·.2.2.1) k;have U:lk s.E 2= .ptr 1 1 0 0:=congrArg (·.2.2.2) k;have P:Rel ad 64 (aU BT tE) (av BT (iT x a b c e N)) o I:=by
  rw[Q] at l;refine⟨l.m,l.e.defers,l.e.size,λq=>?_⟩
  rw[ep];have h:=l.e.at_ q;rw[ep] at h
  by_cases O:q=4
  .subst O;rw[Y] at h;exact h
  by_cases S:q=2
  .subst S;rw[U] at h;exact h
  rw[Ou O S];exact .aW (.any _)
 rw[Q] at B;have af:(ji d o).eval (.tmp 61)= .bool (!v):=by
  have h:=l.e.at_ 61;rw[ep,V] at h;show o.tmps.getD 61 undef=_
  generalize o.tmps.getD 61 undef=z at h;cases h with |aW ae=>cases ae;rfl
 refine wp_cond af ?_
 cases v with
 |false=>
  have n:r=(aT.mk 0 0 0 [],(6:Int)):=n;show((Code.seq (.region 12 kE.toArray false) .ret).wp dd _ (ji d o) I)
  refine wp_seq (Hv (m:=3) dM E P ag X alv λC F H y t A D=>?_)
  exact wp_ret (K C F H y (by rw[n];exact t) A (B.trans D))
 |true=>
  have n:r=(aT.mk a b c e,(0:Int)):=n;refine wp_skip ?_
  refine wp_seq (Hv (m:=3) dM E P Z W aqI λC F H y t A D=>?_)
  exact wp_ret (K C F H y (by rw[n];exact t) A (B.trans D))
def Ky{i:Lp}:∀{d:List (List Int)} {b c:List Int},gW i d b=c6 c->c.length=b.length+d.length/\(d≠[]->c.length*8<=140737488355328)
 |[],b,c,a=>by
  have a:c6 b=c6 c:=a;injection a with a
  subst a;exact⟨rfl,λa=>absurd rfl a⟩
 |l::d,b,c,a=>by
  have a:((jQ i l).bind λf=>(bj 8 b [c3 c4 f]).bind λc=>gW i d c)=c6 c:=a;obtain⟨f,_,a⟩:=fK a;obtain⟨m,e,a⟩:=fK a;obtain⟨g,k⟩:=Ky a;unfold bj at e
  split at e
  .rename_i h;injection e with e
   subst e;have j:(b++[c3 c4 f]).length=b.length+1:=by simp
   rw[j] at g;have h:(b.length+1)*8<=140737488355328:=h;refine⟨by rw[g,m4];omega,λ_=>?_⟩
   cases d with
   |nil=>rw[g];exact h
   |cons _ _=>exact k (by simp)
  .cases e
def Yb(l:Lp)(cj:FT (C5 l))(bK:FT (JX l))(b6:FT (Ks l))(cg:FT (H7 l)):FT (kq l):=by
 have aF:∀c,c∈iV l->FT c:=λc O=>by
  simp only[iV,hI,j4,or_false] at O;rcases O with rfl |rfl |rfl |rfl
  .exact cj
  .exact bK
  .exact b6
  .exact cg
 refine⟨pA z8 LH rfl,λx r a5 g w args b8 b0 a1=>?_⟩
 have cA:args.length=1:=b8;have a5:tU l c6 (rA l) x=c6 r:=a5;have cr:=Ot (nt:=64) b0 (by omega) a1;refine(callsIn_wide (n:=10)).1 (callsIn_of_wp_marks z8 LH trivial ?_ rfl)
 obtain⟨z,bE,bo⟩:∃z,AS l BT dd (iV l) 0 D2 (PT l) (cz BT (kq l).par x)=c6 z/\(z=o8 r\/∃a e h d k,z=n0 (sO 2 x d a e h k .bg [],.fn 139 [] [.ptr 3 1 0 0,.ptr 4 1 0 0],.ptr 2 1 0 0,.ptr 1 1 0 0)/\rA l a e h d k=c6 r):=by
  rcases aoS (i:=o8) (V:=λa e h d k=>c6 (n0 (sO 2 x d a e h k .bg [],TV.fn 139 [] [.ptr 3 1 0 0,.ptr 4 1 0 0],TV.ptr 2 1 0 0,TV.ptr 1 1 0 0))) a5 with o |⟨a,e,h,d,k,D,H⟩
  .exact⟨_,(SR l x).trans o,.inl rfl⟩
  .exact⟨_,(SR l x).trans D,.inr ⟨a,e,h,d,k,rfl,H⟩⟩
 have bn:∀(L:St BT.D) (ad:Gh) (Q:Act) (M:World),fin l L=c6 r->Rel ad 64 (aU BT L.E) (av BT L.H) Q M->Bml.GStep 0 g (av BT (cz BT (kq l).par x).H) w ad (av BT L.H) M->
  ∃v,(results tx Q.tmps).run dd M= .ok v M/\∃bd R,Ending.returned v= .returned bd/\bF R (av BT (cz BT (kq l).az r).H) M/\Bml.GStep 0 g (av BT (cz BT (kq l).par x).H) w R (av BT (cz BT (kq l).az r).H) M/\VR R (av BT (cz BT (kq l).az r).H) M (pv BT (kR (cz BT (kq l).az r).E)) bd:=λL ad Q M D H af=>by
  obtain⟨v,ak,Y,B,aR,aM⟩:=Xn (c:=kq l) (fn:=tx) (rs:=[.cell 2 101,.tmp 3]) dM rfl rfl D H;exact⟨v,Y,v,ak,rfl,B,af.trans aR,aM⟩
 refine Pu mixed dM aF D2 _ bE rfl (ei _) g _ w cr (λa0 R Z w' J cu bz aH=>?_) (λF Z w' ce ao=>?_)
 rotate_left
 .
  cases F with
  |ret=>
   obtain⟨cD,H1,ad,⟨L,aB,rfl,rfl⟩,bs,aT⟩:=ao;have aB:(fin l L).bind (λay=>c6 (o8 ay))=c6 z:=aB;obtain⟨ay,be,am⟩:=fK aB;injection am with am
   have bC:ay=r:=by
    rcases bo with o |⟨a,e,h,d,k,o,_⟩
    .rw[o] at am;injection am
    .rw[o] at am;cases am
   rw[bC] at be;show LeavesInM _ _ _ _ _ _ Z.defers .returning w'
   rw[bs.e.defers];exact bn L ad Z w' be bs aT
  |normal=>exact absurd rfl ce
  |exit cI=>obtain⟨_,_,_,⟨_,aB,_⟩,_⟩:=ao;cases aB
  |goto _=>obtain⟨_,_,_,J,_⟩:=ao;exact J.elim
  |panic _=>exact ao.elim
  |outgrown=>exact ao.elim
 .have J:exec l BT dd (iV l) 0 [] DQ 1 (λF T=>bif ey F 0 then c6 (n0 (T.H,lk T.E 49,lk T.E 4,lk T.E 2)) else c7) a0=c6 z:=J;rw[ahb];refine wpIn_seq (wpIn_seq (wpIn_wide.2 (gO mixed dM aF DQ 1 _ _ _ J (by kernel_rfl) cu R Z w' bz _ λF I u ah=>?_)))
  cases F with
  |normal=>
   obtain⟨_,_,ak,⟨W,_,G,rfl,rfl⟩,ae,bv⟩:=ah;have G:c6 (n0 (W.H,lk W.E 49,lk W.E 4,lk W.E 2))=c6 z:=G;injection G with G
   obtain⟨a,e,h,d,k,cf,bT⟩:∃a e h d k,z=n0 (sO 2 x d a e h k .bg [],.fn 139 [] [.ptr 3 1 0 0,.ptr 4 1 0 0],.ptr 2 1 0 0,.ptr 1 1 0 0)/\rA l a e h d k=c6 r:=by
    rcases bo with o |o
    .rw[o] at G;cases G
    .exact o
   rw[cf] at G;injection G with G
   have aJ:W.H=sO 2 x d a e h k .bg []:=congrArg (·.1) G;have cd:lk W.E 49= .fn 139 [] [.ptr 3 1 0 0,.ptr 4 1 0 0]:=congrArg (·.2.1) G;have aw:lk W.E 4= .ptr 2 1 0 0:=congrArg (·.2.2.1) G;have H:lk W.E 2= .ptr 1 1 0 0:=congrArg (·.2.2.2) G;obtain⟨bR,N,cb,v,zP,aI,cn,cs⟩:=W4 bT;subst bR;obtain⟨a7,bH⟩:=Su d N zP;have bl:=ae.e.defers;have aV:=ae.e.size;have U:=ae.m;rw[aJ] at U bv;obtain⟨aE,C3,u3,bi,b4,az⟩:=GS (r:=3) (t:=95) (c:=.vs (BT.sz 5) (d.map (BT.ty 5).enc)) U rfl (.vs _ _);obtain⟨al,C4,u4,bw,b7,bP⟩:=GS (r:=4) (t:=3) (c:=.int .i64 2) U rfl (.int _ _);cases bP
   have az:VI ak.F u (.vs 1 (d.map (PV.int .u8))) u3:=az;obtain⟨X,aD,an,cap,rfl,bD,a9⟩:∃X aD an cap,u3= .slice X (N*2) cap/\N*2<=cap/\(0<N->X=c6 ⟨aD,an,c7⟩):=by
    have aj:(d.map (PV.int .u8)).length=N*2:=by rw[hq];exact zP
    generalize d.map (PV.int .u8)=cC at az aj;cases az with
    |eX _ X cap=>exact⟨X,0,0,cap,by rw[<-aj];rfl,by rw[<-aj];exact ei _,λo=>by simp at aj;omega⟩
    |vs _ _ ct bY cap u2 ah cJ aV cB cF cE=>exact⟨_,ct,bY,cap,by rw[<-aj],by rw[<-aj];exact ah,λ_=>rfl⟩
   obtain⟨ab,S⟩:=ah7 (A0:=aY BT ⟨1,1,.box 97 [.int .i64 x.kO,.int .i64 x.abv,.row 5 x.Data]⟩) (A1:=aY BT ⟨1,1,.box 101 [.int .i64 0,.int .i64 0,.int .i64 0,.bg]⟩) (A2:=aY BT ⟨2,1,.box 101 [.int .i64 a,.int .i64 e,.int .i64 h,.bg]⟩) (as6 x) Qw (amN a e h) U;generalize bb:(dj ak EO λr=>r=3\/r=4)=P at ab S;have b5:P.F aE:=by rw[<-bb];exact .inr ⟨3,C3,.inl rfl,bi⟩
   have bI:P.F al:=by rw[<-bb];exact .inr ⟨4,C4,.inr rfl,bw⟩
   have ab:bF P (av BT (fO 2 x a e h .bg [])) u:=ab;have S:Bml.GStep 3 ak (av BT (sO 2 x d a e h 2 .bg [])) u P (av BT (fO 2 x a e h .bg [])) u:=S;have aA:=ae.e.at_ 49;rw[ep,cd,aJ] at aA;have ci:I.eval (.tmp 49)= .func (.func 139) #[] #[.pointer (c6 ⟨aE,0,c7⟩),.pointer (c6 ⟨al,0,c7⟩)]:=by
    show I.tmps.getD 49 undef=_
    generalize I.tmps.getD 49 undef=ay at aA;have aA:VR ak _ u (.fn 139 [] [.ptr 3 1 0 0,.ptr 4 1 0 0]) ay:=aA;cases aA with
    |aW o=>
     cases o with
     |fn _ _ _ bL vs D _ H B=>
      match vs,H with
      |[aL,aP],_=>have:=B 0 _ aL rfl rfl;cases this
    |fn _ _ _ bL vs D _ H B=>
     obtain rfl:=hM D.symm
     match vs,H with
     |[aL,aP],_=>
      have ap:=B 0 _ aL rfl rfl;have aa:=B 1 _ aP rfl rfl;have ap:aL= .pointer (c6 ⟨aE,0,c7⟩):=by
       cases ap with
       |aW o=>cases o
       |ptr _ _ _ _ E X y a1 a2=>
        have y:c6 (⟨95,1,[.agg [.vs (BT.sz 5) (d.map (BT.ty 5).enc)]],1⟩:aO)=c6 E:=y;injection y with y
        subst y;obtain⟨_,b,ba,j,rfl⟩:=a2 rfl;rw[bi] at j;injection j with j
        injection j with j
        rw[<-j]
        rfl
      have aa:aP= .pointer (c6 ⟨al,0,c7⟩):=by
       cases aa with
       |aW o=>cases o
       |ptr _ _ _ _ E X y a1 a2=>
        have y:c6 (⟨3,1,[.agg [.int .i64 2]],1⟩:aO)=c6 E:=y;injection y with y
        subst y;obtain⟨_,b,ba,j,rfl⟩:=a2 rfl;rw[bw] at j;injection j with j
        injection j with j
        rw[<-j]
        rfl
      rw[ap,aa]
   have bf:VR P (av BT (fO 2 x a e h .bg [])) u (.ptr 2 1 0 0) (I.tmps.getD 4 undef):=by
    have:=ae.e.at_ 4;rw[ep,aw,aJ] at this;exact this.step S (.ptr 2 1 0 0 (by omega))
   have b9:VR P (av BT (fO 2 x a e h .bg [])) u (.ptr 1 1 0 0) (I.tmps.getD 2 undef):=by
    have:=ae.e.at_ 2;rw[ep,H,aJ] at this;exact this.step S (.ptr 1 1 0 0 (by omega))
   have cw:N*2<=140737488355328:=by
    obtain⟨Y,B⟩:=Ky aI
    by_cases h0:lj d=[]
    .rw[h0] at a7;simp at a7;omega
    .have:=B h0;simp at Y;omega
   rw[Yw];refine wpIn_block (Pq (n:=10) (a:=I) (w:=u) ci (pA Tryz.func139 rfl rfl) (aew 9 (by omega) aE 0 al 0 aD an cap N X cw bD a9) rfl
    (λk C=>∃g s,gW l ((lj d).take k) []=c6 s/\jV 3 BT P (av BT (fO 2 x a e h .bg [])) u C g (iT x a e h s k))
    (λk C o=> ?rd) (λk C r o' o y O=> ?put) (λk C a3 o cx b2=> ?below) (λax=> ?start)
    (λk v Q C=>∃(c s:List Int) (g:Gh),(lj d)[k]?=c6 c/\gW l ((lj d).take k) []=c6 s/\jV 3 BT P (av BT (fO 2 x a e h .bg [])) u C g (iT x a e h s k)/\fI g (av BT (iT x a e h s k)) C 64 (aU BT (ru c)) Q)
    (λk v Q C r o' o y O=> ?mput) (λch k v C cG aK A cp=> ?assign) (λch k v Q C aK A=> ?body) (λC A bB=> ?done))
   case rd=>
    obtain⟨g,s,_,o⟩:=o;exact⟨(oW o.st.jh b5).trans b4,(oW o.st.jh bI).trans b7⟩
   case put=>
    obtain⟨g,s,D,o⟩:=o;exact⟨g,s,D,o.lF (.inr rfl) y rfl O⟩
   case below=>
    obtain⟨g,s,D,o⟩:=o;exact⟨g,s,D,o.below b2⟩
   case start=>
    refine⟨P,[],rfl,?_⟩
    have cy:((u.alloc (.deferred (c6 []))).alloc (.loop ax)).heap.size=u.heap.size+2:=by simp
    have a4:∀b,b<u.heap.size->((u.alloc (.deferred (c6 []))).alloc (.loop ax)).heap[b]?=u.heap[b]? :=λb j=>(hL _ _ b (by simp;omega)).trans (hL _ _ b j)
    obtain⟨ca,co⟩:=GStep.lF (w':=(u.alloc (.deferred (c6 []))).alloc (.loop ax)) (Bml.GStep.refl 3 P (av BT (fO 2 x a e h .bg [])) u) ab rfl rfl rfl (by omega) (λb j=>a4 b (ab.fb b j)) (λr b ba j=>a4 b (ab.qD j)) a4;refine⟨co,ca,by omega,λb j=>⟨λbU=>?_,?_⟩⟩
    .have:=ab.fb b bU;omega
    .rcases j with rfl |rfl
     .exact⟨.deferred (c6 []),(hL (u.alloc (.deferred (c6 []))) _ u.heap.size (by simp)).trans (hU u _),rfl⟩
     .refine⟨.loop ax,?_,rfl⟩
      have:=hU (u.alloc (.deferred (c6 []))) (.loop ax)
      rwa [World.size_alloc] at this
   case mput=>
    obtain⟨c,s,g,D,H,af,aw⟩:=o;have aN:=af.lF (o':=o') (.inr rfl) y rfl O;refine⟨c,s,g,D,H,aN,aw.defers,aw.size,λq=>?_⟩
    have au:=aw.at_ q;exact VR.uz (f:=λr v=>∃E,(av BT (iT x a e h s k))[r]?=c6 E/\v<=E.aF) (λ_ j=>j) (λb j=>m5 (λF=>by subst F;exact(af.nF _ (.inr rfl)).1 j)) (λr v E _ y aX=>⟨E,y,aX,λF=>⟨F,rfl,rfl,rfl⟩⟩) au au.wf
   case assign=>
    obtain⟨aq,s,K,A⟩:=A;have J:k<N:=by
     have:=(e4.1 aK).1;simpa using this
    obtain⟨ai,ag,O,bZ,cq⟩:=bH k J;have cm:s3 (c6 ⟨aD,an+k*2,c7⟩) 2 2=v:=by
     rw[hS,oi J] at aK;injection aK
    have bO:VI aq.F C (.vs 1 ([ai,ag].map (PV.int .u8))) v:=by
     rw[<-cm];exact((amL bZ cq az (a9 (by omega))).mono S.F S.jh).mono A.st.F A.st.jh
    have cc:((#[50]:Array Nat).zip #[v]).foldl (λt (p,v)=>t.setIfInBounds p v) I.tmps=I.tmps.setIfInBounds 50 v:=by simp
    rw[cc];have bX:fI aq (av BT (iT x a e h s k)) C 64 (aU BT (sD [ai,ag])) {tmps:=I.tmps.setIfInBounds 50 v,defers:=[]}:=by
     refine⟨rfl,by simp;exact aV,λq=>?_⟩
     rw[ep]
     by_cases bc:q=50
     .subst bc;have aa:(I.tmps.setIfInBounds 50 v).getD 50 undef=v:=by
       rw[ft,gx (by omega)]
       rfl
      rw[aa];exact .aW bO
     .by_cases br:q=4
      .subst br;have aa:(I.tmps.setIfInBounds 50 v).getD 4 undef=I.tmps.getD 4 undef:=by
        rw[ft,ft,Array.getElem?_setIfInBounds_ne (by omega)]
       rw[aa];exact bf.step A.st (.ptr 2 1 0 0 (by omega))
      .have ap:(lk (sD [ai,ag]) q:TV BT.D)= .any:=by
        have bN:ey 50 q=false:=by cases j:ey 50 q with |false=>rfl |true=>exact absurd (beq_eq j).symm bc
        have al:ey 4 q=false:=by cases j:ey 4 q with |false=>rfl |true=>exact absurd (beq_eq j).symm br
        simp only[sD,lk,bN,al,cond_false]
       rw[ap];exact .aW (.any _)
    have aZ:ops BT dd [] [] sv (λ_ T=>c6 T) 0 sv [] ⟨sD [ai,ag],iT x a e h s k⟩=c6 ⟨ru [ai,ag],iT x a e h s k⟩:=by
     cases k with
     |zero=>exact rdA _ _ _ _ _ _
     |succ k=>exact aer _ _ _ _ _ _ _
    exact F5 dM (k:=c6) A bX aZ (mL _ rfl) (u6 _ rfl) λa0 Z a3 R a6 D H af=>by
     have a6:=sn a6;subst a6;exact cp Z a3 D ⟨[ai,ag],s,R,O,K,H,af⟩
   case body=>
    obtain⟨c,s,aq,O,K,bq,bV⟩:=A;obtain⟨aC,a8,_⟩:=aiZ aI (k+1);obtain⟨m,bt,U⟩:=fK (Ue O K a8);have aZ:∃ar q v bh bp bk,ops BT dd (iV l) [] lv (λbQ T=>bif m7 0 lv then bif n4 lv [] 0 (nf bQ []) then c6 T.H else c7 else c7) 0 lv [] ⟨ru c,iT x a e h s k⟩=c6 ar/\ar=fO bh x a e h (.fl q v) bk/\nth ar q=c6 ⟨bp,v,.aap 3 aC⟩/\3<=q:=by
     cases k with
     |zero=>
      have h0:s=[]:=by injection K with K;exact K.symm
      rw[h0] at U;refine⟨_,4,1,3,1,[⟨1,1,.aap 3 [c3 c4 m]⟩,⟨1,1,.aap 3 aC⟩],?_,rfl,rfl,by omega⟩
      refine(ajg l x c a e h).trans ?_
      rw[bt,ef,U]
      rfl
     |succ k=>
      refine⟨_,3,2,3,2,[⟨2,2,.aap 3 aC⟩,⟨1,1,.aap 3 [c3 c4 m]⟩],?_,rfl,rfl,by omega⟩
      refine(ahg l x c a e h s).trans ?_
      rw[bt];show((bj 8 s [c3 c4 m]).bind _)=_
      rw[U]
      rfl
    obtain⟨ar,q,cH,bh,bp,bk,b3,bA,bx,bM⟩:=aZ;refine wpIn_block (afv (m:=3) mixed dM aF ⟨bq.m,bV⟩ b3 (mL _ rfl) (u6 _ rfl) λa0 Z a3 R aQ bS aH=>?_)
    have aQ:=sn aQ;have aS:=bS.m;rw[aQ] at aS aH;obtain⟨b1,bJ,cv⟩:=akj bA bx bM aS k;obtain⟨Y,B⟩:=bq.next (H':=ar) aS aH;obtain⟨aR,_⟩:=Y.next (H':=iT x a e h aC (k+1)) bJ cv;exact⟨rfl,B,b1,aC,a8,aR⟩
   case done=>
    have ck:((List.range N).map λk=>s3 (c6 ⟨aD,an+k*2,c7⟩) 2 2).length=N:=by simp
    rw[ck] at A;obtain⟨aq,s,K,A⟩:=A;have cl:s=cb:=by
     rw[n1 (by omega),aI] at K;injection K with K
     exact K.symm
    subst cl;show Code.wpIn p7 10 dd sk _ _ _
    rw[bl];refine wpIn_wide.2 (aoq (x:=x) (N:=N) (g:=aq) (ac:=I) (w:=C) (d:=[{target:=.collected u.heap.size,args:=#[]}]) aF cn cs (λh0=>?_) ?_ λL Q M ad bW aG aT=>?_)
    .have:=(Ky aI).1;rw[a7,h0] at this;exact List.length_eq_zero_iff.1 (by simpa using this)
    .refine⟨A.m,bl,aV,λq=>?_⟩
     rw[ep]
     by_cases aM:q=4
     .subst aM;exact bf.step A.st (.ptr 2 1 0 0 (by omega))
     by_cases B:q=2
     .subst B;exact b9.step A.st (.ptr 1 1 0 0 (by omega))
     rw[Ou aM B];exact .aW (.any _)
    .obtain⟨Y,B⟩:=A.next aG.m aT;have bm:M.heap[u.heap.size]?=c6 (.deferred (c6 [])):=B.2 _ _ bB rfl;have aN:=Y.lF (o':=.deferred c7) (.inl rfl) bm rfl rfl;show LeavesInM _ _ _ _ _ _ [{target:=.collected u.heap.size,args:=#[]}] .returning M
     refine⟨by simp,.inl ⟨_,_,rfl,run_takeDeferred bm,?_⟩⟩
     refine bn L ad Q _ bW ⟨aN.m,aG.e.defers,aG.e.size,λq=>?_⟩ (((aH.trans bv).trans (S.less (ei _))).trans (aN.st.less (ei _)))
     have au:=aG.e.at_ q;exact VR.uz (f:=λr v=>∃E,(av BT L.H)[r]?=c6 E/\v<=E.aF) (λ_ j=>j) (λb j=>m5 (λF=>by subst F;exact(Y.nF _ (.inl rfl)).1 j)) (λr v E _ y aX=>⟨E,y,aX,λF=>⟨F,rfl,rfl,rfl⟩⟩) au au.wf
  |_=>first |exact ah.elim |(obtain⟨_,_,_,⟨_,_,J,_⟩,_⟩:=ah;cases J) |(obtain⟨_,_,_,J,_⟩:=ah;exact J.elim)
noncomputable def qJ:Code:=(Tryz.f239.body).getD .skip
noncomputable def tcl:Code:=eM (iq (eM (eM (eM qJ))))
def VB:Code->Code | .block _ (.loop b)=>b |a=>a
noncomputable def yZ:Code:=VB tcl
noncomputable def lJ(a:List ay)(i:Int)(b:TV BT.D):En BT.D:=[(4,b),(12,.row 140 a),(13,.int .i64 (a.length:Int)),(14,.int .i64 i)]
def tH(a:List ay)(c:List Int)(b:List aM):List (Ob BT.D):=[⟨1,1,.hole 140 a [.agg [.row 3 c,.fl 1 1]]⟩,⟨1,1,.aap 142 b⟩]
def HO:List (Nat×Hn):=[(458,⟨[],[(0,⟨[],[],[(32,.v 4)]⟩)],c7⟩),(7346,⟨[],[(4,⟨[(1,true,.aap 142 138)],[],[]⟩)],c6 ⟨[(1,true,.aap 142 138)],[],[(36,.v 3)]⟩⟩)]
def xJ(a:Lp):List (aq BT):=[IP a,Hy a,HG a]
noncomputable def tK:Nat->St BT.D->Option (Nat×List (Nat×Bd BT.D)×TV BT.D×TV BT.D×TV BT.D×TV BT.D):=λc a=>c6 (c,a.H.map (λb=>(b.aF,b.bd)),lk a.E 4,lk a.E 14,lk a.E 12,lk a.E 13)
noncomputable def bx(a:ay):Nat×Bd BT.D:=(1,.box 140 [.row 3 a.aw,.row 142 a.aH])
def tB0(b:Lp)(a:List ay)(i:Int):exec b BT dd (xJ b) 0 HO yZ 1 tK ⟨lJ a i .bg,[]⟩=bif c5 (i<(a.length:Int)) then(aj a i).bind λd=>(mH b d).bind λc=>c6 (0,[bx d,(1,.aap 142 c.1),(1,.hole 140 [] [.agg [.row 3 c.2,.fl 1 1]]),(1,.hole 140 [] [.agg [.row 3 c.2,.fl 1 1]])],.fl 3 1,.int .i64 (c3 c4 (i+1)),.row 140 a,.int .i64 (a.length:Int)) else c6 (2,[],.bg,.int .i64 i,.row 140 a,.int .i64 (a.length:Int)):=by kernel_rfl
def mo(a:List ay){b:Type}(c:Option b):Option b:=bif c5 (c3 c4 (((a.length+1:Nat):Int) -1)=((a.length+0:Nat):Int)) then bif ey (a.length+0) (a.length+0) then c else c7 else c7
def tL(e:Lp)(c:List ay)(d:ay)(a:List aM)(i:Int):Option ((List aM×Int)⊕List aM):=
 bif c5 (i<(d.aH.length:Int)) then
  mo c (mo c ((aj a i).bind λ_=>(a[i.toNat]?).bind λf=>(aj d.aH i).bind λb=>(xW e f b).bind λg=>(aj a i).bind λ_=>(a[i.toNat]?).bind λ_=>c6 (o8 (a.set i.toNat g.1,c3 c4 (i+1)))))
 else c6 (n0 a)
def Ik(b:List ay)(c:List Int)(a:List (TV BT.D)):Bd BT.D:=.hole 140 b (.agg [.row 3 c,.fl 1 1]::a)
def tB1(c:Lp)(a:List ay)(i:Int)(b:List ay)(d:List Int)(f:List aM):exec c BT dd (xJ c) 0 HO yZ 1 tK ⟨lJ a i (.fl 0 1),tH b d f⟩=bif c5 (i<(a.length:Int)) then(aj a i).bind λe=>
 (bif c5 (0<((b.length+1:Nat):Int)) then mo b ((qG c d e.aw).bind λg=>c6 g) else c6 false).bind λg=>
 bif g then(c.loop (λj=>tL c b e j.1 j.2) (f,0)).bind λk=>c6 (0,[(1,Ik b d []),(1,.aap 142 k),bx e],.fl 0 1,.int .i64 (c3 c4 (i+1)),.row 140 a,.int .i64 (a.length:Int))
 else(mH c e).bind λh=>bif x2 ((b.length+1+1)*48) 140737488355328 then c6 (0,[(2,Ik b d [.agg [.row 3 h.2,.fl 3 1]]),(1,.aap 142 f),bx e,(1,.aap 142 h.1),(1,.hole 140 [] [.agg [.row 3 h.2,.fl 3 1]])],.fl 0 2,.int .i64 (c3 c4 (i+1)),.row 140 a,.int .i64 (a.length:Int)) else c7
 else c6 (2,[(1,Ik b d []),(1,.aap 142 f)],.fl 0 1,.int .i64 i,.row 140 a,.int .i64 (a.length:Int)):=by kernel_rfl
def qi(p q:Nat):Nat->Option Nat
 |0=>c6 p
 |1=>c6 q
 |_=>c7
def Dl{p q i r:Nat}(a:qi p q i=c6 r):(i=0/\r=p)\/(i=1/\r=q):=by
 match i,a with
 |0,a=>injection a with a;exact .inl ⟨rfl,a.symm⟩
 |1,a=>injection a with a;exact .inr ⟨rfl,a.symm⟩
def NR{a e:List PV}{i d:Nat}{c:PV}(b:abk (a++e) i d=c6 c):(i<a.length/\abk a i d=c6 c)\/(a.length<=i/\abk e (i -a.length) d=c6 c):=by
 unfold abk at b⊢
 by_cases f:i<a.length
 .rw[ev f] at b;exact .inl ⟨f,b⟩
 .rw[e6 (by omega)] at b;exact .inr ⟨by omega,b⟩
def SW{b e:List PV}{i d:Nat}{c:PV}(a:abk b i d=c6 c):abk (b++e) i d=c6 c:=by
 unfold abk at a⊢
 by_cases f:i<b.length
 .rw[ev f];exact a
 .rw[hQ (by omega)] at a;cases a
def BZ{l m:List PV}{i j:Nat}{b:PV}(a:abk m i j=c6 b):abk (l++m) (l.length+i) j=c6 b:=by
 unfold abk at a⊢;rw[e6 (by omega),Nat.add_sub_cancel_left];exact a
def ajr{g:Gh}{D:World}{C:List (Ob BT.D)}{p v q t:Nat}{A:List aM}{w E2:List PV}{h:PV}{x:Nat->Prop}
 (R:(av BT C)[p]?=c6 ⟨140,2,w++[.agg [h,.fl q t]],v⟩) (G:(av BT C)[q]?=c6 ⟨142,2,A.map aM.enc,t⟩) (Y:p≠q) (L:¬x p/\¬x q) (M:cE 0 h) (P:E2.length=w.length) (S:∀o,o∈E2->o.cells.length=2)
 (y:∀i j s,abk E2 i j=c6 s->∃u,abk w i j=c6 u/\∀k,VR g (av BT C) D u k->VI (dj g (qi p q) x).F D s k) (K:bF g (av BT C) D):
 bF (dj g (qi p q) x) [⟨140,2,E2++[.agg [h,.fl 1 1]],1⟩,⟨142,2,A.map aM.enc,1⟩] D:=by
 refine bF.re K (λr e i H=>?_) (λi ab r e O=>?_) (λi r e=>?_) (λi J c=>?_)
 .rcases Dl H with⟨_,rfl⟩ |⟨_,rfl⟩
  .exact L.1 e
  .exact L.2 e
 .rcases Dl e with⟨E,b⟩ |⟨E,b⟩ <;> rcases Dl O with⟨u,Q⟩ |⟨u,Q⟩ <;> omega
 .show i<2
  rcases Dl e with⟨E,b⟩ |⟨E,b⟩ <;> omega
 .match i,c with
  |0,c=>
   have c:c6 (⟨140,2,E2++[.agg [h,.fl 1 1]],1⟩:aO)=c6 J:=c;injection c with c
   subst c;refine⟨by show 0<2;omega,λi o a=>?_,(λe=>by cases e),λr f=>?_⟩
   .have a:o∈E2++[.agg [h,.fl 1 1]]:=fe a;rcases l1.1 a with a |a
    .exact S o a
    .rw[eH] at a;subst a;rfl
   .have f:c6 p=c6 r:=f;injection f with f
    subst f;refine⟨_,R,rfl,rfl,by simp[P],λi j s N=>?_⟩
    rcases NR N with⟨_,d⟩ |⟨h0,d⟩
    .obtain⟨u,X,T⟩:=y i j s d;exact⟨u,SW X,λk n=>.aW (T k n)⟩
    .obtain⟨o,a,V⟩:=gw d;have W:i -E2.length=0:=by
      have:=(e4.1 a).1;simpa using this
     rw[W] at d a;injection a with a
     subst a;have H:i=w.length+0:=by omega
     rw[H]
     match j,V with
     |0,_=>
      injection d with d
      subst d;exact⟨h,BZ (l:=w) (m:=[.agg [h,.fl q t]]) (i:=0) (j:=0) rfl,λk n=>.aW ((n.dH M).mono (λ_ F=>.inl F) λ_ _=>rfl)⟩
     |1,_=>
      injection d with d
      subst d;refine⟨.fl q t,BZ (l:=w) (m:=[.agg [h,.fl q t]]) (i:=0) (j:=1) rfl,λk n=>?_⟩
      cases n with
      |aW e=>cases e
      |fl _ _ Z _ B aa d n=>
       rw[G] at B;injection B with B
       subst B;refine .fl 1 1 ⟨142,2,A.map aM.enc,1⟩ k rfl (dv _) d λ_=>?_
       have:=n rfl;unfold SL at this⊢;exact this
  |1,c=>
   have c:c6 (⟨142,2,A.map aM.enc,1⟩:aO)=c6 J:=c;injection c with c
   subst c;have I:=K.obj q _ G;refine⟨I.pos,I.width,(λe=>by cases e),λr f=>?_⟩
   have f:c6 q=c6 r:=f;injection f with f
   subst f;refine⟨_,G,rfl,rfl,rfl,λi j s y=>⟨s,y,λt U=>?_⟩⟩
   exact .aW ((U.dH (nR (λo a=>by
    obtain⟨z,_,rfl⟩:=j1.1 a;exact dM.lt 142 z) y)).mono (λ_ F=>.inl F) λ_ _=>rfl)
def nj(d:Nat)(h:Env)(b:List aO)(f:Env)(H0:List aO):Prop:=∀g c a,Rel g d h b c a->∃e,Rel e d f H0 c a/\Bml.GStep 0 g b a e H0 a
def sS{j:Program}{a:Nat}{e d:Env}{f H0:List aO}{h:Code}{b:fE}(s:nj a e f d H0)(n:eT j a 0 h b d H0):eT j a 0 h b e f:=λg c i r q l=>by
 obtain⟨o,k,m⟩:=s g c i r;exact n o c i k q λv t u p=>l v t u (eI.trans m p)
def xh(c:List (Ob BT.D)):av BT c=(c.map λa=>(a.aF,a.bd)).map λb=>aY BT ⟨0,b.1,b.2⟩:=by
 unfold av;rw[List.map_map];exact List.map_congr_left λa _=>by cases a;rfl
def amB{d:List ay}{i:Int}{g:TV BT.D}{q:Nat}(f:q≠4)(e:q≠12)(c:q≠13)(h:q≠14):lk (lJ d i g) q= .any:=by
 have b:∀a,q≠a->ey a q=false:=λa k=>by cases j:ey a q with |false=>rfl |true=>exact absurd (beq_eq j).symm k
 simp only[lJ,lk,b 4 f,b 12 e,b 13 c,b 14 h,cond_false]
structure vS (S:St BT.D) (sorted:List ay) (i:Int) (t:TV BT.D):Prop where
 s4:lk S.E 4=t
 YC:lk S.E 12= .row 140 sorted
 YD:lk S.E 13= .int .i64 (sorted.length:Int)
 YE:lk S.E 14= .int .i64 i
def P3{g f:Gh}{d:St BT.D}{s:Act}{c:World}{H0:List aO}{o:List ay}{i:Int}{p r:TV BT.D}(e:vS d o i p)(h:Rel g 73 (aU BT d.E) (av BT d.H) s c)(j:∀b,g.F b->f.F b)(u:bF f H0 c)
 (v:∀l,VR g (av BT d.H) c (pv BT p) l->VR f H0 c (pv BT r) l):Rel f 73 (aU BT (lJ o i r)) H0 s c:=by
 refine⟨u,h.e.defers,h.e.size,λq=>?_⟩
 rw[ep];have a:=h.e.at_ q;rw[ep] at a
 by_cases n:q=4
 .subst n;rw[e.s4] at a;exact v _ a
 by_cases k:q=12
 .subst k;rw[e.YC] at a;exact .aW ((a.dH (.vs _ _)).mono j λ_ _=>rfl)
 by_cases m:q=13
 .subst m;rw[e.YD] at a;exact .aW ((a.dH (.int _ _)).mono j λ_ _=>rfl)
 by_cases t:q=14
 .subst t;rw[e.YE] at a;exact .aW ((a.dH (.int _ _)).mono j λ_ _=>rfl)
 rw[amB n k m t];exact .aW (.any _)
def alW{c:St BT.D}{d:List ay}{i:Int}(h:vS c d i .bg):nj 73 (aU BT c.E) (av BT c.H) (aU BT (lJ d i .bg)) (av BT []):=λg m o b=>by
 refine⟨dj g (λ_=>c7) (λ_=>False),P3 h b (λ_ a=>.inl a) ?_ (λk j=>.aW ((j.dH .bg).mono (λ_ a=>.inl a) λ_ _=>rfl)),GStep.re λr n b=>absurd b (by omega)⟩
 exact bF.re b.m (λ_ a=>a.elim) (λi l r a=>by cases a) (λi r a=>by cases a) (λi e f=>by
  have:(([]:List aO))[i]?=c6 e:=f;simp at this)
def H5{a:St BT.D}{m:List ay}{i:Int}{p v q u:Nat}{xs:List ay}{d:List Int}{n:List aM}{E1:List PV}{fz:Nat->Prop}(B:vS a m i (.fl p v))
 (s:(av BT a.H)[p]?=c6 ⟨140,2,E1++[.agg [.vs (1) (d.map (PV.int .i64)),.fl q u]],v⟩) (y:(av BT a.H)[q]?=c6 ⟨142,2,n.map aM.enc,u⟩) (w:p≠q) (F:¬fz p/\¬fz q) (o:xs.length=E1.length)
 (G:∀g b,bF g (av BT a.H) b->∀i l k,abk (xs.map ay.enc) i l=c6 k->∃t,abk E1 i l=c6 t/\∀c,VR g (av BT a.H) b t c->VI (dj g (qi p q) fz).F b k c):nj 73 (aU BT a.E) (av BT a.H) (aU BT (lJ m i (.fl 0 1))) (av BT (tH xs d n)):=λg H b e=>by
 have C:=ajr (E2:=xs.map ay.enc) s y w F (.vs _ _) (by rw[hq];exact o) (λJ E=>by
  obtain⟨z,_,rfl⟩:=j1.1 E
  rfl) (G g b e.m) e.m
 refine⟨dj g (qi p q) fz,P3 B e (λ_ j=>.inl j) C (λc f=>?_),GStep.re λr x e=>absurd e (by omega)⟩
 have f:VR g (av BT a.H) b (.fl p v) c:=f;cases f with
 |aW j=>cases j
 |fl _ _ x _ h I A f=>
  rw[s] at h;injection h with h
  subst h;refine .fl 0 1 ⟨140,2,xs.map ay.enc++[.agg [.vs (1) (d.map (PV.int .i64)),.fl 1 1]],1⟩ c rfl (dv _) A λ_=>?_
  have:=f rfl;have D:(xs.map ay.enc++[PV.agg [.vs (1) (d.map (PV.int .i64)),.fl 1 1]]).length=(E1++[PV.agg [.vs (1) (d.map (PV.int .i64)),.fl q u]]).length:=by simp[o]
  unfold SL at this⊢;rw[D];exact this
def Mt{H:List aO}(e:List ay){p q:Nat}{fz:Nat->Prop}:∀g b,bF g H b->∀i d a,abk (e.map ay.enc) i d=c6 a->∃f,abk (e.map ay.enc) i d=c6 f/\∀c,VR g H b f c->VI (dj g (qi p q) fz).F b a c:=λg b _ i d a h=>⟨a,h,λc l=>(l.dH (nR (λm j=>by
 obtain⟨z,_,rfl⟩:=j1.1 j;exact dM.lt 140 z) h)).mono (λ_ k=>.inl k) λ_ _=>rfl⟩
def OC{H:List aO}(c:List ay){tg1:List Int}{ws1:List aM}{p q q1 u1:Nat}(o:H[q1]?=c6 ⟨142,2,ws1.map aM.enc,u1⟩):∀g f,bF g H f->∀i j h,abk ((c++[(⟨tg1,ws1⟩:ay)]).map ay.enc) i j=c6 h->∃n,abk (c.map ay.enc++[.agg [.vs (1) (tg1.map (PV.int .i64)),.fl q1 u1]]) i j=c6 n/\∀k,VR g H f n k->VI (dj g (qi p q) λr=>r=q1).F f h k:=λg f u i j h a=>by
 rw[List.map_append] at a;rcases NR a with⟨_,a⟩ |⟨t,a⟩
 .obtain⟨n,v,A⟩:=Mt (H:=H) c (p:=p) (q:=q) (fz:=λr=>r=q1) g f u i j h a;exact⟨n,SW v,A⟩
 .obtain⟨C,d,B⟩:=gw a;have y:i - (c.map ay.enc).length=0:=by
   have:=(e4.1 d).1;simpa using this
  rw[y] at a d;injection d with d
  subst d;have t:i=(c.map ay.enc).length+0:=by omega
  rw[t]
  match j,B with
  |0,_=>
   injection a with a
   subst a;exact⟨_,BZ (l:=c.map ay.enc) (m:=[.agg [.vs (1) (tg1.map (PV.int .i64)),.fl q1 u1]]) (i:=0) (j:=0) rfl,λk s=>(s.dH (.vs _ _)).mono (λ_ e=>.inl e) λ_ _=>rfl⟩
  |1,_=>
   injection a with a
   subst a;refine⟨_,BZ (l:=c.map ay.enc) (m:=[.agg [.vs (1) (tg1.map (PV.int .i64)),.fl q1 u1]]) (i:=0) (j:=1) rfl,λk s=>?_⟩
   have x:=lh (s.ub o rfl) o rfl;have:=Ed (u.obj q1 _ o) x (λC d=>by
    obtain⟨z,_,rfl⟩:=j1.1 d;exact dM.lt 142 z) (F:=(dj g (qi p q) λr=>r=q1).F) (λ_ e=>.inl e) λb w e=>.inr ⟨q1,w,rfl,e⟩
   rw[List.drop_zero,n1 (dv _)] at this;exact this
def AV:aq BT:=⟨293,1,0,⟨[],[(0,.v 44)]⟩,⟨[(0,[0],.box 44 [.v 44])],[(0,.f 326 [] [.p 0])]⟩,λa=>c6 a⟩
def RVw(b:Lp)(a:List ay):gl b BT dd [] AV [.tmp 2] ((Tryz.f293.body).getD .skip) [] a=c6 a:=by kernel_rfl
def KVw:FT AV:=FA (L:=LN 0) (hs:=[]) mixed dM f0 Tryz.func293 rfl rfl rfl rfl (by kernel_rfl) rfl rfl (RVw (LN 0))
noncomputable def QA:Code:=iq (iq (eM (eM (eM qJ))))
noncomputable def uc:Code:=eM (eM (eM (eM qJ)))
noncomputable def lm:List Oper:=tS (iq (eM qJ))
def ajf:Tryz.f239.body=c6 (.seq (iq qJ) (.seq (.region 1 lm.toArray false) (.seq (iq (eM (eM qJ))) (.seq (.seq QA (.block 0 (.loop yZ))) uc)))):=by kernel_rfl
def tp0(a:Lp)(b:List ay):exec a BT dd [] 0 [] (iq qJ) 1 (λc d=>bif ey c 0 then c6 (lk d.E 0) else c7) (cz BT (uY a).par b)=c6 (.row 140 b):=by kernel_rfl
def WS(a:List ay):ops BT dd [AV] [] lm (λ_ b=>c6 (b.H.map (λc=>(c.aF,c.bd)),lk b.E 10)) 0 (lm.take 2) [] ⟨[(0,.row 140 a)],[]⟩=c6 ([(1,.box 44 [.row 140 a])],.fn 326 [] [.ptr 0 1 0 0]):=by kernel_rfl
def Ur(a:Lp)(b:List ay):ops BT dd [xI a] [] lm (λ_ d=>c6 (lk d.E 3)) 2 (lm.drop 2) [] ⟨[(10,.fn 326 [] [.vp [.row 140 b] 0])],[]⟩=(uv a b).bind λc=>c6 (.row 140 c):=by kernel_rfl
def tT1(a:Lp)(b:List ay):exec a BT dd [] 0 [] uc 1 (kL dd (uY a) [.tmp 2]) ⟨[(4,.fl 0 1)],[⟨1,1,.aap 140 b⟩]⟩=c6 b:=by kernel_rfl
def aa3(a:Lp):exec a BT dd [] 0 [] uc 1 (kL dd (uY a) [.tmp 2]) ⟨[(4,.bg)],[]⟩=c6 []:=by kernel_rfl
end Go.X.T
namespace Go.X
open Go Go.Aml Go.Bml
section
variable {P:Program}{B:Tb}{R:Type}{r:R}
def RS{nt n:Nat}{i q:List Oper}{o:fE}:∀{k:List Oper} {S:St B.D} {G:List (Option (cr B.D))} {h:St B.D},l6 P B i k S G h->(∀f,f∈k->fL nt f.dst=true)->gp P nt n i.toArray q o (aU B h.E) (av B h.H)->
 gp P nt n i.toArray (k++q) o (aU B S.E) (av B S.H)
 |[],S,[],h,a,_,t=>by
  obtain rfl:h=S:=a;exact t
 |f::k,S,d::G,h,a,z,t=>by
  obtain⟨D,a⟩:=a;have y:=RS (nt:=nt) (n:=n) a (λf L=>z f (List.mem_cons_of_mem _ L)) t;have s:=z f (by simp);obtain⟨e,F,w,x,u,gd⟩:=f;have C:∀{p:Bool->TV B.D->Prop},tQ i ⟨e,F,w,x,u,gd⟩ S.E p->∃g c d,gd=c6 (g,c)/\(i.toArray[g]?).bind (·.dst)=c6 d/\p c (lk S.E d):=λa=>by
   obtain⟨g,c,U,d,K,A,M,J⟩:=a;refine⟨g,c,d,K,?_,J⟩
   rw[cJ] at A;simp[A,M]
  cases d with
  |none=>
   obtain⟨g,c,d,rfl,m,l⟩:=C (p:=λc v=>v= .bu []\/∃b,v= .bool b/\b≠c) D;rcases l with l |⟨b,I,H⟩
   .refine MO m (by rw[ep,l];rfl) s ?_
    rw[show li (aU B S.E) e (.bu [])=aU B (gr S.E e (.bu [])) by rw[sx];rfl];exact y
   .refine Sk m (by rw[ep,I];rfl) H s ?_
    rw[show li (aU B S.E) e (.bu [])=aU B (gr S.E e (.bu [])) by rw[sx];rfl];exact y
  |some E=>
   obtain⟨j,N,O,Q⟩:=D;have run:gp P nt n i.toArray (⟨e,F,w,x,u,c7⟩::(k++q)) o (aU B S.E) (av B S.H):=by
    refine OT E.nw (Sz (N e w x u S.E (aX S.H (dx E.nw)) Sf) s ?_)
    rintro v T ⟨rfl,rfl⟩;rw[<-sx];exact y
   rcases j with j |j
   .obtain rfl:gd=c7:=j;exact run
   .obtain⟨g,c,d,rfl,m,l⟩:=C j;exact S7 m (by rw[ep,l];rfl) run
 |[],_,_::_,_,a,_,_=>a.elim
 |_::_,_,[],_,a,_,_=>a.elim
end
end Go.X
namespace Go.X.T
open Go Go.Aml Go.Bml Go.X Go.RowKit Go.Proofs
def aos{P:Program}{a:Nat}{e d:Env}{f H0:List aO}{h:Array Oper}{j:List Oper}{b:fE}(u:nj a e f d H0)(n:gp P a 0 h j b d H0):gp P a 0 h j b e f:=λg c i s q l=>by
 obtain⟨o,k,m⟩:=u g c i s;exact n o c i k q λw t v p=>l w t v (eI.trans m p)
def AR{c:St BT.D}{E0:En BT.D}(a:∀q,lk E0 q= .any\/(lk c.E q=lk E0 q/\cE 0 (pv BT (lk E0 q)))):nj 73 (aU BT c.E) (av BT c.H) (aU BT E0) (av BT []):=λg m o b=>by
 refine⟨dj g (λ_=>c7) (λ_=>False),⟨bF.re b.m (λ_ a=>a.elim) (λi l r a=>by cases a) (λi r a=>by cases a) (λi f j=>by
  have:(([]:List aO))[i]?=c6 f:=j;simp at this),b.e.defers,b.e.size,λq=>?_⟩,GStep.re λr n b=>absurd b (by omega)⟩
 rw[ep];have d:=b.e.at_ q;rw[ep] at d;rcases a q with a |⟨h,e⟩
 .rw[a];exact .aW (.any _)
 .rw[h] at d;exact .aW ((d.dH e).mono (λ_ k=>.inl k) λ_ _=>rfl)
def adf{e:Nat->Prop}{f:World}{b:Nat}{d:List PV}{a:Value}(c:VI e f (.vs b d) a):a.oneCell'=true:=by cases c <;> rfl
def ah6{n:St BT.D}{f t:Nat}{x:List ay}(K:lk n.E 10= .fn f [] [.ptr 0 1 0 0])(C:av BT n.H=[⟨t,1,[.agg [.vs 2 (x.map ay.enc)]],1⟩]):nj 73 (aU BT n.E) (av BT n.H) (aU BT [(10,.fn f [] [.vp [.row 140 x] 0])]) (av BT []):=λg H s e=>by
 have D:=e.m;rw[C] at D;obtain⟨b,J,E,h,M,v⟩:=GS (r:=0) D rfl (.vs _ _);refine⟨dj g (λ_=>c7) (λr=>r=0),⟨bF.re e.m (λ_ _ _ a=>by cases a) (λi X r a=>by cases a) (λi r a=>by cases a) (λi O N=>by
  have:(([]:List aO))[i]?=c6 O:=N;simp at this),e.e.defers,e.e.size,λq=>?_⟩,GStep.re λr y e=>absurd e (by omega)⟩
 rw[ep]
 by_cases F:q=10
 .subst F;have l:=e.e.at_ 10;rw[ep,K,C] at l;generalize H.tmps.getD 10 undef=A at l;have l:VR g _ s (.fn f [] [.ptr 0 1 0 0]) A:=l;show VR _ _ s (.fn f [] [.dw [.vs 2 (x.map ay.enc)] 0]) A
  have L:∀c,VR g [⟨t,1,[.agg [.vs 2 (x.map ay.enc)]],1⟩] s (.ptr 0 1 0 0) c->c= .pointer (c6 ⟨b,0,c7⟩):=λc o=>by
   cases o with
   |aW a=>cases a
   |ptr _ _ _ _ y W m v T=>
    have m:c6 (⟨t,1,[.agg [.vs 2 (x.map ay.enc)]],1⟩:aO)=c6 y:=m;injection m with m
    subst m;obtain⟨_,V,U,j,rfl⟩:=T rfl;rw[h] at j;injection j with j
    injection j with j
    rw[<-j]
    rfl
  have G:E.oneCell'=true:=adf v;have new:VI (dj g (λ_=>c7) (λr=>r=0)).F s (.dw [.vs 2 (x.map ay.enc)] 0) (.pointer (c6 ⟨b,0+0,c7⟩)):=by
   refine .dw _ 0 b 0 (λ_=>E) (.inr ⟨0,J,rfl,h⟩) (λi p d=>?_) (λi p d=>G) (λi p d=>?_)
   .match i,d with
    |0,_=>exact M
   .match i,d with
    |0,d=>injection d with d;subst d;exact v.mono (λ_ h=>.inl h) λ_ _=>rfl
  cases l with
  |aW a=>
   cases a with
   |fn _ _ _ Q vs o _ u w=>
    match vs,u with
    |[c],_=>have:=w 0 _ c rfl rfl;cases this
  |fn _ _ _ Q vs o _ u w=>
   obtain rfl:=hM o.symm
   match vs,u with
   |[c],_=>
    have S:=L c (w 0 _ c rfl rfl);subst S;refine .fn f [] [.dw [.vs 2 (x.map ay.enc)] 0] [] [_] rfl (λi p x a=>by simp at a) rfl λi p z a k=>?_
    match i,a,k with
    |0,a,k=>injection a with a;injection k with k;subst a;subst k;exact .aW new
 .have:(lk [(10,(.fn f [] [.vp [.row 140 x] 0]:TV BT.D))] q:TV BT.D)= .any:=by
   have I:ey 10 q=false:=by cases h:ey 10 q with |false=>rfl |true=>exact absurd (beq_eq h).symm F
   simp only[lk,I,cond_false]
  rw[this];exact .aW (.any _)
def aho{l:St BT.D}{d:List ay}{c:List Int}{e:List aM}(L:lk l.E 4= .fl 0 1)(o:av BT l.H=[⟨140,2,d.map ay.enc++[.agg [.vs 1 (c.map (PV.int .i64)),.fl 1 1]],1⟩,⟨142,2,e.map aM.enc,1⟩]):nj 73 (aU BT l.E) (av BT l.H) (aU BT [(4,.fl 0 1)]) (av BT [⟨1,1,.aap 140 (d++[(⟨c,e⟩:ay)])⟩]):=λg F u f=>by
 have y:=f.m;rw[o] at y;have D:=OC d (tg1:=c) (ws1:=e) (p:=0) (q:=1) (q1:=1) (u1:=1) (H:=[⟨140,2,d.map ay.enc++[.agg [.vs 1 (c.map (PV.int .i64)),.fl 1 1]],1⟩,⟨142,2,e.map aM.enc,1⟩]) rfl g u y;have w:((d++[(⟨c,e⟩:ay)]).map ay.enc).length=(d.map ay.enc++[PV.agg [.vs 1 (c.map (PV.int .i64)),.fl 1 1]]).length:=by simp
 refine⟨dj g (λi=>if i=0 then c6 0 else c7) (λr=>r=1),⟨bF.re f.m (λr a q b=>?_) (λi V r a K=>?_) (λi r a=>?_) (λi O h=>?_),f.e.defers,f.e.size,λq=>?_⟩,GStep.re λr G f=>absurd f (by omega)⟩
 .split at b
  .injection b with b;omega
  .cases b
 .have A:∀{m:Nat},(if m=0 then c6 0 else c7)=c6 r->m=0:=λ{m} a=>by
   by_cases v:m=0
   .exact v
   .rw[if_neg v] at a;cases a
  rw[A a,A K]
 .split at a
  .subst i;show 0<1;omega
  .cases a
 .match i,h with
  |0,h=>
   have h:c6 (⟨140,2,(d++[(⟨c,e⟩:ay)]).map ay.enc,1⟩:aO)=c6 O:=h;injection h with h
   subst h;refine⟨by show 0<2;omega,λi W t=>?_,(λa=>by cases a),λr j=>?_⟩
   .have t:=fe t;obtain⟨z,_,rfl⟩:=j1.1 t
    rfl
   .have j:c6 0=c6 r:=j;injection j with j
    subst j;rw[o];refine⟨_,rfl,rfl,rfl,w,λi J E T=>?_⟩
    obtain⟨S,C,Q⟩:=D i J E T;exact⟨S,C,λk s=>.aW (Q k s)⟩
 .rw[ep]
  by_cases x:q=4
  .subst x;have b:=f.e.at_ 4;rw[ep,L,o] at b;generalize F.tmps.getD 4 undef=k at b;have b:VR g _ u (.fl 0 1) k:=b;show VR _ _ u (.fl 0 1) k
   cases b with
   |aW a=>cases a
   |fl _ _ G _ n U M s=>
    injection n with n
    subst n;refine .fl 0 1 ⟨140,2,(d++[(⟨c,e⟩:ay)]).map ay.enc,1⟩ k rfl (dv _) M λ_=>?_
    have:=s rfl;unfold SL at this⊢;rw[w];exact this
  .have:(lk [(4,(.fl 0 1:TV BT.D))] q:TV BT.D)= .any:=by
    have N:ey 4 q=false:=by cases I:ey 4 q with |false=>rfl |true=>exact absurd (beq_eq I).symm x
    simp only[lk,N,cond_false]
   rw[this];exact .aW (.any _)
end Go.X.T
namespace Go.X.T
open Go Go.Aml Go.Bml Go.X Go.RowKit Go.Proofs
def Is{n:Lp}{h:List (aq BT)}(r:∀b,b∈h->FT b){q:List (Nat×Hn)}{b l:Code}{g:fE}{e:St BT.D}{j:Type}{z:j}{f:Nat->St BT.D->Option j}(s:exec n BT dd h 0 q b 1 f e=c6 z)(m:gB 73 b=true)(i:∀k a,k≠0->f k a=c6 z->False)
 (t:∀a,f 0 a=c6 z->eT dd 73 0 l g (aU BT a.E) (av BT a.H)):eT dd 73 0 (.seq b l) g (aU BT e.E) (av BT e.H):=by
 refine rN (((gO mixed dM r b 1 _ _ _ s m (ei _)).mono nP).mono λo u v c=>?_)
 cases o with
 |normal=>
  obtain⟨a,d,rfl,rfl⟩:=c;exact t a d
 |ret=>obtain⟨a,d,_⟩:=c;exact(i 1 a (by omega) d).elim
 |exit p=>obtain⟨a,d,_⟩:=c;exact(i (p+2) a (by omega) d).elim
 |goto _=>exact c.elim
 |panic _=>exact c.elim
 |outgrown=>exact c.elim
def ajm(c:Lp)(b:List ay):exec c BT dd [] 0 [] (iq (eM (eM qJ))) 1 (λd a=>bif ey d 0 then c6 (lk a.E 3,lk a.E 4) else c7) ⟨[(3,.row 140 b)],[]⟩=c6 (.row 140 b,.bg):=by kernel_rfl
def aoj(c:Lp)(b:List ay):exec c BT dd [] 0 [] QA 1 (λd a=>bif ey d 0 then c6 (lk a.E 4,lk a.E 12,lk a.E 13,lk a.E 14) else c7) ⟨[(3,.row 140 b),(4,.bg)],[]⟩=c6 (.bg,.row 140 b,.int .i64 (b.length:Int),.int .i64 0):=by kernel_rfl
def JP{b:Type}{z:b}{f:St BT.D->Option b}{a:Nat}{c:St BT.D}(e:a≠0)(d:(bif ey a 0 then f c else c7)=c6 z):False:=by
 cases a with
 |zero=>exact e rfl
 |succ a=>cases d
def Bz{d:St BT.D}{a:Nat}{c:TV BT.D}(f:lk d.E a=c)(g:cE 0 (pv BT c)):∀q,lk [(a,c)] q= .any\/(lk d.E q=lk [(a,c)] q/\cE 0 (pv BT (lk [(a,c)] q))):=λq=>by
 by_cases e:q=a
 .subst e;have i:(lk [(q,c)] q:TV BT.D)=c:=by simp[lk]
  rw[i];exact .inr ⟨f,g⟩
 .have b:ey a q=false:=by cases h:ey a q with |false=>rfl |true=>exact absurd (beq_eq h).symm e
  exact .inl (by simp only[lk,b,cond_false])
def Xh{f:St BT.D}{a d:Nat}{e c:TV BT.D}(j:lk f.E a=e)(k:cE 0 (pv BT e))(i:lk f.E d=c)(l:cE 0 (pv BT c))(n:a≠d):∀q,lk [(a,e),(d,c)] q= .any\/(lk f.E q=lk [(a,e),(d,c)] q/\cE 0 (pv BT (lk [(a,e),(d,c)] q))):=λq=>by
 by_cases h:q=a
 .subst h;have g:(lk [(q,e),(d,c)] q:TV BT.D)=e:=by simp[lk]
  rw[g];exact .inr ⟨j,k⟩
 .have b:ey a q=false:=by cases m:ey a q with |false=>rfl |true=>exact absurd (beq_eq m).symm h
  have g:(lk [(a,e),(d,c)] q:TV BT.D)=lk [(d,c)] q:=by simp only[lk,b,cond_false]
  rw[g];exact Bz i l q
def Ll(b:Lp)(c:ay):oM b c=(mH b c).bind λe=>c6 ⟨e.2,e.1⟩:=by
 unfold oM mH;cases cc b c.aw with
 |none=>rfl
 |some d=>
  simp only[ef];show(b.loop (λa=>r9 b c (ay.mk a.1 a.2.1) a.2.2) (d,([]:List aM),0)).bind _=((b.loop (λa=>r9 b c (ay.mk a.1 a.2.1) a.2.2) (d,([]:List aM),0)).bind _).bind _
  cases b.loop (λa=>r9 b c (ay.mk a.1 a.2.1) a.2.2) (d,([]:List aM),0) <;> rfl
def SA{n:Nat}(a:n*48<=140737488355328):c3 c4 ((n:Int)+1 -1)=(n:Int):=by
 rw[show(n:Int)+1 -1=(n:Int) by omega];rw[h8];omega
def Gb{a:List ay}(f:(a.length+1)*48<=140737488355328){d:Type}(b:Option d):mo a b=b:=by
 have c:c3 c4 (((a.length+1:Nat):Int) -1)=((a.length+0:Nat):Int):=by
  have:=SA (n:=a.length) (by omega);rw[show(((a.length+1:Nat):Int) -1)=(a.length:Int)+1 -1 by omega,this]
  rfl
 have e:ey (a.length+0) (a.length+0)=true:=Nat.beq_refl _;unfold mo;rw[decide_eq_true c,e]
 rfl
def aqb(d:Lp){e:List ay}(c:(e.length+1)*48<=140737488355328)(b:ay):(λa:List aM×Int=>tL d e b a.1 a.2)=λa=>qR d b.aH a.1 a.2:=by
 funext a
 obtain⟨f,i⟩:=a;unfold tL qR;rw[Gb c,Gb c];cases j:c5 (i<(b.aH.length:Int)) with
 |false=>rfl
 |true=>
  simp only[cond_true];cases g:aj f i with
  |none=>rfl
  |some k=>
   obtain⟨h0,h⟩:=xd g;rw[h];simp only[ef]
def Can(d:List ay)(a:List ay×Int)(e:En BT.D)(H0:List (Ob BT.D)):Prop:=
 (a.1=[]/\e=lJ d a.2 .bg/\H0=[])\/∃b c f,a.1=b++[(⟨c,f⟩:ay)]/\(b.length+1)*48<=140737488355328/\e=lJ d a.2 (.fl 0 1)/\H0=tH b c f
abbrev TZ:Type:=Nat×List (Nat×Bd BT.D)×TV BT.D×TV BT.D×TV BT.D×TV BT.D
def aiJ{o:Lp}{f:List ay}{A:List ay×Int}{P:En BT.D}{H0:List (Ob BT.D)}(h:Can f A P H0){s:(List ay×Int)⊕List ay}(a:lZ o f A.1 A.2=c6 s):
 ∃z:TZ,exec o BT dd (xJ o) 0 HO yZ 1 tK ⟨P,H0⟩=c6 z/\
  ((∃N,s= .inl N/\z.1=0/\∀b:St BT.D,tK 0 b=c6 z->∃E1 H1,Can f N E1 H1/\nj 73 (aU BT b.E) (av BT b.H) (aU BT E1) (av BT H1))\/
   (s= .inr A.1/\z.1=2/\∀b:St BT.D,tK 2 b=c6 z->(A.1=[]/\nj 73 (aU BT b.E) (av BT b.H) (aU BT [(4,.bg)]) (av BT []))\/nj 73 (aU BT b.E) (av BT b.H) (aU BT [(4,.fl 0 1)]) (av BT [⟨1,1,.aap 140 A.1⟩]))):=by
 obtain⟨out,i⟩:=A;have B:∀{b:St BT.D} {O:Nat} {K:List (Nat×Bd BT.D)} {L:TV BT.D} {E:Int} {R:Nat},tK R b=c6 (O,K,L,.int .i64 E,.row 140 f,.int .i64 (f.length:Int))->b.H.map (λs=>(s.aF,s.bd))=K/\vS b f E L:=λ{b O K L E R} m=>by
  injection m with m
  injection m with _ m
  injection m with k1 m
  injection m with k2 m
  injection m with k3 m
  injection m with k4 k5
  exact⟨k1,⟨k2,k4,k5,k3⟩⟩
 rcases h with⟨x,rfl,rfl⟩ |⟨xs,d,j,x,G,rfl,rfl⟩
 .have x:out=[]:=x;subst x;have a:lZ o f [] i=c6 s:=a;unfold lZ at a;have c:=tB0 o f i
  by_cases C:i<(f.length:Int)
  .rw[decide_eq_true C,cond_true] at a c;obtain⟨k,H,a⟩:=fK a;rw[H,ef] at c;have a:((oM o k).bind λM=>(bj 48 [] [M]).bind λout=>c6 (o8 (out,c3 c4 (i+1))))=c6 s:=a;rw[Ll] at a;obtain⟨M,h,a⟩:=fK a;obtain⟨e,I,h⟩:=fK h;injection h with h
   subst h;obtain⟨Q,l,a⟩:=fK a;injection a with a
   rw[I,ef] at c;refine⟨_,c,.inl ⟨_,a.symm,rfl,λb w=>?_⟩⟩
   obtain⟨y,t⟩:=B w;have l:c6 ([]++[(⟨e.2,e.1⟩:ay)])=c6 Q:=l;injection l with l
   refine⟨lJ f (c3 c4 (i+1)) (.fl 0 1),tH [] e.2 e.1,.inr ⟨[],e.2,e.1,l.symm,by decide,rfl,rfl⟩,?_⟩
   have n:av BT b.H=[aY BT ⟨0,1,.box 140 [.row 3 k.aw,.row 142 k.aH]⟩,⟨142,2,e.1.map aM.enc,1⟩,⟨140,2,[.agg [.vs 1 (e.2.map (PV.int .i64)),.fl 1 1]],1⟩,⟨140,2,[.agg [.vs 1 (e.2.map (PV.int .i64)),.fl 1 1]],1⟩]:=by
    rw[xh,y]
    rfl
   exact H5 (p:=3) (v:=1) (q:=1) (u:=1) (xs:=[]) (E1:=[]) (fz:=λ_=>False) t (by rw[n];rfl) (by rw[n];rfl) (by decide) ⟨id,id⟩ rfl (λg k _ i E Z h=>by simp[abk] at h)
  .rw[decide_eq_false C,cond_false] at a c;injection a with a
   refine⟨_,c,.inr ⟨a.symm,rfl,λb w=>?_⟩⟩
   obtain⟨_,t⟩:=B w;exact .inl ⟨rfl,AR (Bz t.s4 .bg)⟩
 .have x:out=xs++[(⟨d,j⟩:ay)]:=x;subst x;have a:lZ o f (xs++[(⟨d,j⟩:ay)]) i=c6 s:=a;unfold lZ at a;have c:=tB1 o f i xs d j;have T:((xs++[(⟨d,j⟩:ay)]).length:Int)=(xs.length:Int)+1:=by simp
  by_cases C:i<(f.length:Int)
  .rw[decide_eq_true C,cond_true] at a c;obtain⟨k,H,a⟩:=fK a;rw[H,ef] at c;have S:(0:Int)<((xs.length+1:Nat):Int):=by omega
   rw[decide_eq_true S,cond_true,Gb G] at c;have V:(0:Int)<((xs++[(⟨d,j⟩:ay)]).length:Int):=by omega
   have W:c3 c4 (((xs++[(⟨d,j⟩:ay)]).length:Int) -1)=(xs.length:Int):=by rw[T];exact SA (by omega)
   have X:aj (xs++[(⟨d,j⟩:ay)]) (xs.length:Int)=c6 ⟨d,j⟩:=by
    unfold aj;rw[if_pos (by omega),la,e6 (dv _),q5]
    rfl
   rw[decide_eq_true V,cond_true,W,X] at a;simp only[ef] at a;obtain⟨Y,n,a⟩:=fK a;rw[n] at c;simp only[ef] at c;cases Y with
   |true=>
    simp only[cond_true] at a c;rw[aqb o G] at c;obtain⟨D,U,a⟩:=fK a;injection a with a
    rw[U,ef] at c;refine⟨_,c,.inl ⟨_,a.symm,rfl,λb w=>?_⟩⟩
    obtain⟨y,t⟩:=B w;refine⟨lJ f (c3 c4 (i+1)) (.fl 0 1),tH xs d D,.inr ⟨xs,d,D,?_,G,rfl,rfl⟩,?_⟩
    .show(xs++[(⟨d,j⟩:ay)]).set (xs.length:Int).toNat ⟨d,D⟩=_
     rw[la,List.set_append_right _ _ (dv _),q5]
     rfl
    .have n:av BT b.H=[⟨140,2,xs.map ay.enc++[.agg [.vs 1 (d.map (PV.int .i64)),.fl 1 1]],1⟩,⟨142,2,D.map aM.enc,1⟩,aY BT ⟨0,1,.box 140 [.row 3 k.aw,.row 142 k.aH]⟩]:=by
      rw[xh,y]
      rfl
     exact H5 (p:=0) (v:=1) (q:=1) (u:=1) (xs:=xs) (E1:=xs.map ay.enc) (fz:=λ_=>False) t (by rw[n];rfl) (by rw[n];rfl) (by decide) ⟨id,id⟩ (by rw[hq]) (λg k J=>Mt xs g k J)
   |false=>
    simp only[cond_false] at a c;rw[Ll] at a;obtain⟨M,h,a⟩:=fK a;obtain⟨e,I,h⟩:=fK h;injection h with h
    subst h;obtain⟨Q,l,a⟩:=fK a;injection a with a
    rw[I,ef] at c;unfold bj at l
    split at l
    .rename_i F;injection l with l
     have F:(xs.length+1+1)*48<=140737488355328:=by simpa using F
     rw[ng F,cond_true] at c;refine⟨_,c,.inl ⟨_,a.symm,rfl,λb w=>?_⟩⟩
     obtain⟨y,t⟩:=B w;refine⟨lJ f (c3 c4 (i+1)) (.fl 0 1),tH (xs++[(⟨d,j⟩:ay)]) e.2 e.1,.inr ⟨xs++[(⟨d,j⟩:ay)],e.2,e.1,l.symm,by simpa using F,rfl,rfl⟩,?_⟩
     have n:av BT b.H=[⟨140,2,xs.map ay.enc++[.agg [.vs 1 (d.map (PV.int .i64)),.fl 1 1],.agg [.vs 1 (e.2.map (PV.int .i64)),.fl 3 1]],2⟩,⟨142,2,j.map aM.enc,1⟩,aY BT ⟨0,1,.box 140 [.row 3 k.aw,.row 142 k.aH]⟩,⟨142,2,e.1.map aM.enc,1⟩,⟨140,2,[.agg [.vs 1 (e.2.map (PV.int .i64)),.fl 3 1]],1⟩]:=by
      rw[xh,y]
      rfl
     exact H5 (p:=0) (v:=2) (q:=3) (u:=1) (xs:=xs++[(⟨d,j⟩:ay)]) (E1:=xs.map ay.enc++[.agg [.vs 1 (d.map (PV.int .i64)),.fl 1 1]]) (fz:=λr=>r=1) t (by rw[n,l3];rfl) (by rw[n];rfl) (by decide) ⟨by decide,by decide⟩ (by simp) (λg k J=>OC xs (by rw[n];rfl) g k J)
    .cases l
  .rw[decide_eq_false C,cond_false] at a c;injection a with a
   refine⟨_,c,.inr ⟨a.symm,rfl,λb w=>?_⟩⟩
   obtain⟨y,t⟩:=B w;refine .inr (aho t.s4 ?_)
   rw[xh,y]
   rfl
def UK(a:Lp)(O:FT (IP a))(ak:FT (Hy a))(V:FT (HG a))(aq:FT (xI a)):FT (uY a):=by
 have ai:∀h,h∈xJ a->FT h:=λh j=>by
  simp only[xJ,hI,j4,or_false] at j;rcases j with rfl |rfl |rfl
  .exact O
  .exact ak
  .exact V
 have au:∀h,h∈[AV]->FT h:=λh j=>by
  rw[eH] at j;subst j;exact KVw
 have al:∀h,h∈[xI a]->FT h:=λh j=>by
  rw[eH] at j;subst j;exact aq
 refine ti (rs:=[.tmp 2]) dM Tryz.func239 ajf rfl rfl rfl rfl λ(x:List ay) (r:List ay) C=>?_
 have C:((uv a x).bind λd=>a.loop (λc=>lZ a d c.1 c.2) (([]:List ay),(0:Int)))=c6 r:=C;obtain⟨d,ao,Z⟩:=fK C;obtain⟨X,aj⟩:=a.ok _ _ _ Z;generalize P:qP BT (kL dd (uY a) [.tmp 2]) r=af;refine Is f0 (tp0 a x) (by kernel_rfl) (λm b s g=>JP (f:=λS=>c6 (lk S.E 0)) s g) λT B=>?_
 have B:lk T.E 0= .row 140 x:=by injection B
 refine sS (AR (E0:=[(0,.row 140 x)]) (Bz B (.vs _ _))) ?_
 refine rN (Lc ?_)
 obtain⟨aC,M,ag,u⟩:=qg dM au (WS x);injection u with u
 have ah:M.H.map (λe=>(e.aF,e.bd))=[(1,.box 44 [.row 140 x])]:=congrArg (·.1) u;have W:lk M.E 10= .fn 326 [] [.ptr 0 1 0 0]:=congrArg (·.2) u;have am:ops BT dd [xI a] [] lm (λ_ S=>c6 (lk S.E 3)) 2 (lm.drop 2) [] ⟨[(10,.fn 326 [] [.vp [.row 140 x] 0])],[]⟩=c6 (.row 140 d):=by
  refine(Ur a x).trans ?_
  rw[ao]
  rfl
 obtain⟨aA,H,R,y⟩:=qg dM al am;injection y with y
 have ad:∀e,e∈lm.take 2->fL 73 e.dst=true:=mL _ rfl;have N:∀e,e∈lm.drop 2->fL 73 e.dst=true:=mL _ rfl;have D:∀o:fE,o .normal (aU BT H.E) (av BT H.H)->gp dd 73 0 lm.toArray (lm.take 2++lm.drop 2) o (aU BT [(0,(.row 140 x:TV BT.D))]) (av BT []):=λo A=>by
  refine RS (S:=(⟨[(0,.row 140 x)],[]⟩:St BT.D)) ag ad (aos (ah6 (t:=44) (x:=x) W ?_) (yW (S:=(⟨[(10,.fn 326 [] [.vp [.row 140 x] 0])],[]⟩:St BT.D)) R N A))
  rw[xh,ah]
  rfl
 have D:=λo A=>(k8 2 lm)▸D o A
 refine D _ ?_
 refine sS (AR (E0:=[(3,.row 140 d)]) (Bz y (.vs _ _))) ?_
 refine Is f0 (ajm a d) (by kernel_rfl) (λm b s g=>JP (f:=λS=>c6 (lk S.E 3,lk S.E 4)) s g) λaB v=>?_
 injection v with v
 refine sS (AR (E0:=[(3,.row 140 d),(4,.bg)]) (Xh (congrArg (·.1) v) (.vs _ _) (congrArg (·.2) v) .bg (by decide))) ?_
 refine rN (Is f0 (aoj a d) (by kernel_rfl) (λm b s g=>JP (f:=λS=>c6 (lk S.E 4,lk S.E 12,lk S.E 13,lk S.E 14)) s g) λan n=>?_)
 injection n with n
 have aa:vS an d 0 .bg:=⟨congrArg (·.1) n,congrArg (·.2.1) n,congrArg (·.2.2.1) n,congrArg (·.2.2.2) n⟩;refine Ta (Pz (QG (α:=Nat×(List ay×Int)) (λp J K=>fY (λc:List ay×Int=>lZ a d c.1 c.2) p.1 p.2=c6 r/\∃E0 H0,Can d p.2 E0 H0/\nj 73 J K (aU BT E0) (av BT H0)) (λp=>p.1) (X,([],0)) ⟨aj,_,_,.inl ⟨rfl,rfl,rfl⟩,alW aa⟩ ?_))
 rintro⟨Y,c⟩ J K ⟨i,E0,H0,U,Q⟩;refine sS Q ?_
 cases Y with
 |zero=>cases i
 |succ E=>
  have i:((lZ a d c.1 c.2).bind λe=>e.elim (fY (λc:List ay×Int=>lZ a d c.1 c.2) E) c6)=c6 r:=i;obtain⟨e,ae,i⟩:=fK i;obtain⟨z,ab,w⟩:=aiJ U ae;refine((gO mixed dM ai yZ 1 _ ⟨E0,H0⟩ _ ab (by kernel_rfl) (ei _)).mono nP).mono λar az aE l=>?_
  have first:∀m (b:St BT.D),tK m b=c6 z->z.1=m:=λm b g=>by
   injection g with g
   exact(congrArg (·.1) g).symm
  cases ar with
  |normal=>
   obtain⟨b,k,rfl,rfl⟩:=l;rcases w with⟨G,rfl,_,F⟩ |⟨_,ac,_⟩
   .obtain⟨ap,H1,aw,q⟩:=F b k;exact⟨(E,G),Nat.lt_succ_self E,i,ap,H1,aw,q⟩
   .have:=first 0 b k
    omega
  |exit I=>
   obtain⟨b,k,rfl,rfl⟩:=l;have aD:=first (I+2) b k
   rcases w with⟨G,_,ax,_⟩ |⟨rfl,ac,F⟩
   .omega
   .have:I=0:=by omega
    subst this;have L:c.1=r:=by
     have i:c6 c.1=c6 r:=i;injection i
    show eT dd 73 0 uc af (aU BT b.E) (av BT b.H)
    subst P;rcases F b k with⟨h0,q⟩ |q
    .refine sS q ?_
     rw[<-L,h0];exact(gO mixed dM f0 uc 1 _ ⟨[(4,.bg)],[]⟩ _ (aa3 a) (by kernel_rfl) (ei _)).mono nP
    .refine sS q ?_
     rw[<-L];exact(gO mixed dM f0 uc 1 _ ⟨[(4,.fl 0 1)],[⟨1,1,.aap 140 c.1⟩]⟩ _ (tT1 a c.1) (by kernel_rfl) (ei _)).mono nP
  |ret=>
   obtain⟨b,k,_,_⟩:=l;have:=first 1 b k
   rcases w with⟨_,_,g,_⟩ |⟨_,g,_⟩ <;> omega
  |goto _=>exact l.elim
  |panic _=>exact l.elim
  |outgrown=>exact l.elim
end Go.X.T
namespace Go.X.T
open Go Go.Aml Go.Bml Go.X Go.Proofs
variable (L:Lp)
def K0:FT (C0 L):=kf [] f0 Tryz.func8
def K1:FT (C1 L):=kf [] f0 Tryz.func223
def K2:FT (C2 L):=kf [(12,⟨[],[(0,⟨[],[],[(17,.v 4)]⟩)],c7⟩),(58,⟨[],[(1,⟨[],[],[(2,.i .i64 1)]⟩),(2,⟨[],[],[]⟩)],c6 ⟨[],[],[(21,.v 3)]⟩⟩),(250,⟨[],[(1,⟨[],[],[(2,.v 67)]⟩),(4,⟨[],[],[]⟩)],c6 ⟨[],[],[(40,.v 3)]⟩⟩),(7474,⟨[],[(0,⟨[],[],[(32,.v 4)]⟩)],c7⟩),(64100,⟨[],[(0,⟨[],[],[(70,.v 4)]⟩)],c7⟩),(128204,⟨[],[(0,⟨[],[],[(88,.v 4)]⟩)],c7⟩),(128206,⟨[],[(0,⟨[],[],[(98,.v 4)]⟩)],c7⟩)] (fc (K1 L) f0) Tryz.func156
def K3:FT (C3 L):=kf [] (fc (K2 L) f0) Tryz.func93
def K4:FT (C4 L):=kf [(26,⟨[],[(1,⟨[],[],[(6,.b false)]⟩),(2,⟨[],[],[]⟩)],c6 ⟨[],[],[(11,.v 3)]⟩⟩),(3378,⟨[],[(0,⟨[],[],[(36,.v 4)]⟩)],c7⟩)] f0 Tryz.func135
def K5:FT (C5 L):=kf [] f0 Tryz.func51
def K6:FT (C6 L):=kf [] (fc (K4 L) (fc (K5 L) f0)) Tryz.func207
def K7:FT (C7 L):=kf [(26,⟨[],[(1,⟨[],[],[(4,.v 3)]⟩),(2,⟨[],[],[]⟩)],c6 ⟨[],[],[(8,.v 3)]⟩⟩)] (fc (K6 L) f0) Tryz.func267
def K8:FT (C8 L):=kf [] (fc (K7 L) f0) Tryz.func208
def K9:FT (C9 L):=kf [] (fc (K3 L) (fc (K8 L) f0)) Tryz.func140
def VY:FT (C10 L):=kf [] (fc (K5 L) f0) Tryz.func141
def K11:FT (Ye L):=kf [(26,⟨[],[(1,⟨[],[],[(4,.v 3)]⟩),(2,⟨[],[],[]⟩)],c6 ⟨[],[],[(8,.v 3)]⟩⟩)] (fc (VY L) f0) ee
def Zv:FT (C12 L):=kf [] (fc (K11 L) f0) ez
def HI:FT (C13 L):=kf [] f0 Tryz.func210
def K16:FT (C16 L):=kf [] (fc (K15 L) f0) Tryz.func268
def Iv:FT (C17 L):=kf [] (fc (K16 L) (fc (D5 L) f0)) Tryz.func209
def RX:FT (C18 L):=kf [] (fc (HI L) (fc (Iv L) (fc (K4 L) f0))) Tryz.func142
def K23:FT (C23 L):=kf [(506,⟨[],[(2,⟨[(2,true,.box 35 amj)],[],[]⟩)],c6 ⟨[(2,true,.box 35 (abx amj [(5,.r 3)]))],[(100002,[5],.aap 120 32)],[(31,.v 3)]⟩⟩),(4090,⟨[],[(4,⟨[(2,true,.box 35 amj)],[],[]⟩)],c6 ⟨[(2,true,.box 35 (abx amj [(8,.r 3)]))],[(100002,[8],.aap 22 33)],[(58,.v 3)]⟩⟩),(64819,⟨[3],[],c7⟩),(261785,⟨[4],[],c7⟩)] (fc (oh L) (fc (sP L) (fc (Md L) (fc (iY L) f0)))) j3
def K24:FT (Xu L):=kf [(56,⟨[],[(0,⟨[],[],[(18,.v 4)]⟩)],c7⟩),(126,⟨[],[(0,⟨[(2,true,.box 35 amj),(3,false,.dead),(4,false,.dead),(5,false,.dead)],[],[]⟩)],c7⟩),(250,⟨[],[(3,⟨[(2,true,.box 35 (abx amj [(6,.r 3),(7,.r 4),(8,.r 5)]))],[(100002,[6],.aap 3 22),(100002,[7],.aap 3 22),(100002,[8],.aap 22 33)],[]⟩)],c6 ⟨[(2,true,.box 35 [.v 27,.v 28,.v 3,.r 3,.v 22,.v 32,.r 4,.r 5,.r 6])],[(100002,[3],.aap 88 31),(100002,[6],.aap 3 22),(100002,[7],.aap 3 22),(100002,[8],.aap 22 33)],[(57,.v 3)]⟩⟩),(506,⟨[],[(5,⟨[(2,true,.box 35 (abx amj [(6,.r 3),(7,.r 4),(8,.r 5)])),(3,false,.aap 3 22),(4,false,.aap 3 22),(5,false,.aap 22 33)],[],[]⟩)],c6 ⟨[(2,true,.box 35 (abx amj [(6,.r 3),(7,.r 4),(8,.r 5)])),(3,false,.aap 3 22),(4,false,.aap 3 22),(5,false,.aap 22 33)],[],[(71,.v 3)]⟩⟩),(16025,⟨[4],[],c7⟩),(16204,⟨[2,6,11,12],[],c7⟩)] (fc (K9 L) (fc (K5 L) (fc (Zv L) (fc (RX L) (fc (K23 L) f0))))) Tryz.func83
def K25:FT (C25 L):=kf [] f0 Tryz.func213
def Vl:FT (C26 L):=kf [(26,⟨[],[(1,⟨[],[],[(4,.v 3)]⟩),(2,⟨[],[],[]⟩)],c6 ⟨[],[],[(8,.v 3)]⟩⟩)] (fc (K25 L) f0) Tryz.func270
def K27:FT (C27 L):=kf [] (fc (Vl L) f0) Tryz.func212
def Aq:FT (C28 L):=kf [] (fc (K3 L) (fc (K27 L) f0)) Tryz.func144
def K29:FT (Wx L):=kf [] f0 Tryz.func272
def NZ:FT (C30 L):=kf [] (fc (K29 L) f0) Tryz.func214
def K31:FT (C31 L):=kf [(60,⟨[],[(0,⟨[],[],[(26,.v 4)]⟩)],c7⟩),(508,⟨[],[(2,⟨[(0,true,.aap 3 22)],[],[]⟩)],c6 ⟨[(0,true,.aap 3 22)],[],[(8,.v 3)]⟩⟩)] (fc (NZ L) f0) x9
def Ca:FT (ZB L):=kf [(60,⟨[],[(0,⟨[],[],[(26,.v 4)]⟩)],c7⟩),(508,⟨[],[(2,⟨[(0,true,.aap 3 22)],[],[]⟩)],c6 ⟨[(0,true,.aap 3 22)],[],[(8,.v 3)]⟩⟩)] (fc (NZ L) f0) x9
def Ja:FT (C33 L):=kf [(12,⟨[],[(0,⟨[],[],[(29,.v 4)]⟩)],c7⟩),(125,⟨[],[(0,⟨[(3,true,.box 90 [.v 3,.v 3])],[],[]⟩)],c7⟩),(509,⟨[],[(0,⟨[],[],[(11,.v 3)]⟩)],c7⟩),(8170,⟨[],[(0,⟨[],[],[(70,.v 4)]⟩)],c7⟩)] f0 Tryz.func242
def K34:FT (C34 L):=kf [(28,⟨[],[(0,⟨[],[],[(56,.v 4)]⟩)],c7⟩)] (fc (Ja L) f0) Tryz.func215
def DW:FT (C35 L):=kf [(14,⟨[],[(2,⟨[(0,true,.aap 3 22)],[],[]⟩)],c6 ⟨[(0,true,.aap 3 22)],[],[(2,.v 4)]⟩⟩),(918,⟨[],[(4,⟨[(0,true,.aap 3 22)],[],[(2,.v 4)]⟩)],c6 ⟨[(0,true,.aap 3 22)],[],[(2,.v 4),(12,.v 3)]⟩⟩),(235111,⟨[],[(0,⟨[],[],[(2,.v 4)]⟩)],c7⟩)] (fc (K34 L) f0) Tryz.func146
def UT:FT (C36 L):=kf [(14,⟨[0],[],c7⟩),(122,⟨[],[(3,⟨[(2,true,.aap 3 22)],[],[]⟩)],c6 ⟨[(2,true,.aap 3 22)],[],[(40,.v 3)]⟩⟩)] (fc (Aq L) (fc (K4 L) (fc (K5 L) (fc (Ca L) (fc (DW L) f0))))) A3
def KB:FT (C37 L):=kf [] (fc (K3 L) (fc (K4 L) (fc (K5 L) f0))) Tryz.func70
def vO:FT (C38 L):=kf [(12,⟨[],[(0,⟨[],[],[(32,.v 4)]⟩)],c7⟩),(3773,⟨[],[(0,⟨[],[],[(50,.v 4)]⟩)],c7⟩),(15095,⟨[],[(0,⟨[],[],[(50,.v 4)]⟩)],c7⟩)] (fc (K4 L) (fc (K5 L) f0)) Tryz.func85
def K39:FT (C39 L):=kf [] (fc (K5 L) f0) Tryz.func87
def K40:FT (C40 L):=kf [(26,⟨[],[(1,⟨[],[],[(4,.v 3)]⟩),(2,⟨[],[],[]⟩)],c6 ⟨[],[],[(8,.v 3)]⟩⟩)] (fc (K39 L) f0) ee
def K41:FT (C41 L):=kf [] (fc (K40 L) f0) ez
def OS:FT (C42 L):=kf [] (fc (K5 L) (fc (K4 L) f0)) Tryz.func148
def K43:FT (Vx L):=kf [(14,⟨[4],[],c7⟩)] (fc (OS L) (fc (iY L) f0)) Tryz.func88
def PY:FT (C44 L):=kf [] (fc (HI L) (fc (Iv L) (fc (K4 L) f0))) Tryz.func149
def RR:FT (C45 L):=kf [(6,⟨[0],[],c7⟩)] (fc (Ca L) f0) Tryz.func216
def Uq:FT (YG L):=kf [] f0 Tryz.func330
def SX:FT (C47 L):=kf [(28,⟨[],[(0,⟨[],[],[(23,.v 4)]⟩)],c7⟩),(125,⟨[],[(0,⟨[],[],[(10,.v 3)]⟩)],c7⟩),(1017,⟨[],[(0,⟨[],[],[(11,.v 3)]⟩)],c7⟩),(4071,⟨[],[(0,⟨[],[],[(11,.v 3)]⟩)],c7⟩)] f0 Tryz.func137
def X3:FT (Ux L):=kf [] (fc (Uq L) (fc (SX L) f0)) Tryz.func309
def Fo:FT (C49 L):=kf [(12,⟨[],[(0,⟨[],[],[(20,.v 4)]⟩)],c7⟩)] (fc (K3 L) (fc (X3 L) f0)) Tryz.func276
def K50:FT (C50 L):=kf [] f0 Tryz.func218
def YO:FT (Xk L):=kf [(6,⟨[],[(0,⟨[],[],[(27,.v 4)]⟩)],c7⟩)] (fc (K50 L) f0) xv
def OM:FT (C53 L):=kf [(14,⟨[],[(2,⟨[(0,true,.aap 3 22),(1,true,.box 22 [.r 0]),(2,true,.box 4 [.v 4])],[],[]⟩)],c6 ⟨[(0,true,.aap 3 22),(1,true,.box 22 [.r 0]),(2,true,.box 4 [.v 4])],[],[(16,.v 3)]⟩⟩),(3686,⟨[],[(4,⟨[(0,true,.aap 3 22),(1,true,.box 22 [.r 0]),(2,true,.box 4 [.v 4])],[],[]⟩)],c6 ⟨[(0,true,.aap 3 22),(1,true,.box 22 [.r 0]),(2,true,.box 4 [.v 4])],[],[(22,.v 3)]⟩⟩),(1887437,⟨[],[(0,⟨[],[],[(10,.v 3),(11,.v 3)]⟩)],c7⟩),(3774878,⟨[],[(0,⟨[],[],[(44,.v 4)]⟩)],c7⟩),(3774879,⟨[],[(0,⟨[(0,true,.aap 3 22),(1,true,.box 22 [.r 0]),(2,true,.box 4 [.v 4])],[],[]⟩)],c7⟩)] (fc (Fo L) (fc (YO L) f0)) xx
def QF:FT (Up L):=kf [(58,⟨[],[(2,⟨[(3,true,.aap 3 22),(4,true,.box 22 [.r 3]),(5,false,.dead)],[],[]⟩)],c6 ⟨[(3,true,.aap 3 22),(4,true,.box 22 [.r 3]),(5,false,.dead)],[(10,[],.box 4 [.v 4])],[(10,.p 6)]⟩⟩)] (fc (oH L) (fc (OM L) f0)) q6
def Cy:FT (C55 L):=kf [(58,⟨[],[(2,⟨[(3,true,.aap 3 22),(4,true,.box 22 [.r 3]),(5,false,.dead)],[],[]⟩)],c6 ⟨[(3,true,.aap 3 22),(4,true,.box 22 [.r 3]),(5,false,.dead)],[(10,[],.box 4 [.v 4])],[(10,.p 6)]⟩⟩)] (fc (oH L) (fc (OM L) f0)) q6
def K56:FT (C56 L):=kf [] (fc (K3 L) (fc (K5 L) (fc (RR L) (fc (Cy L) f0)))) Tryz.func150
def K57:FT (C57 L):=kf [(24,⟨[],[(0,⟨[],[],[(15,.v 4)]⟩)],c7⟩),(62,⟨[1],[],c7⟩),(122,⟨[],[(1,⟨[(1,true,.box 46 [.v 44]),(2,false,.dead)],[],[(9,.v 67)]⟩),(3,⟨[(2,true,.box 140 [.v 22,.v 138])],[],[]⟩)],c6 ⟨[(2,true,.box 140 [.v 22,.r 3])],[(100002,[1],.aap 142 138)],[(43,.v 3)]⟩⟩),(31335,⟨[3],[],c7⟩)] (fc (K3 L) (fc (K5 L) (fc (PY L) (fc (iY L) (fc (K56 L) f0))))) Tryz.func89
def K58:FT (C58 L):=kf [(6,⟨[0,2],[],c7⟩)] (fc (K31 L) f0) Tryz.func90
def K59:FT (C59 L):=kf [] (fc (K5 L) f0) Tryz.func152
def UI:FT (C60 L):=kf [(26,⟨[],[(1,⟨[],[],[(4,.v 3)]⟩),(2,⟨[],[],[]⟩)],c6 ⟨[],[],[(8,.v 3)]⟩⟩)] (fc (K59 L) f0) ee
def K61:FT (C61 L):=kf [] (fc (UI L) f0) ez
def MB:FT (C62 L):=kf [] (fc (K5 L) (fc (Fo L) f0)) Tryz.func222
def K63:FT (X9 L):=kf [] (fc (K5 L) (fc (MB L) f0)) Tryz.func155
def K64:FT (C64 L):=kf [] (fc (K63 L) f0) Tryz.func154
def K65:FT (C65 L):=kf [(26,⟨[],[(1,⟨[],[],[(4,.v 3)]⟩),(2,⟨[],[],[]⟩)],c6 ⟨[],[],[(8,.v 3)]⟩⟩)] (fc (K64 L) f0) q7
def K66:FT (C66 L):=kf [] (fc (K65 L) f0) q8
def xC:FT (Kf L):=kf [(28,⟨[],[(0,⟨[],[],[(62,.v 4)]⟩)],c7⟩),(122,⟨[],[(1,⟨[],[],[(2,.b false)]⟩),(2,⟨[],[],[]⟩)],c6 ⟨[],[],[(66,.v 3)]⟩⟩),(31332,⟨[],[(0,⟨[],[],[(111,.v 4)]⟩)],c7⟩)] (fc (K9 L) (fc (K5 L) (fc (RX L) (fc (K61 L) (fc (K66 L) f0))))) Tryz.func92
def K68:FT (Xw L):=kf [(12,⟨[],[(0,⟨[],[],[(16,.v 4)]⟩)],c7⟩)] f0 Tryz.func159
def RP:FT (C70 L):=kf [(506,⟨[],[(2,⟨[(2,true,.box 35 (abx amj [(3,.r 3)]))],[],[]⟩)],c6 ⟨[(2,true,.box 35 (abx amj [(3,.r 3),(5,.r 4)]))],[(100002,[5],.aap 120 32)],[(31,.v 3)]⟩⟩),(4090,⟨[],[(4,⟨[(2,true,.box 35 (abx amj [(3,.r 3)]))],[],[]⟩)],c6 ⟨[(2,true,.box 35 (abx amj [(3,.r 3),(8,.r 4)]))],[(100002,[8],.aap 22 33)],[(58,.v 3)]⟩⟩),(64819,⟨[3],[],c7⟩),(261785,⟨[4],[],c7⟩)] (fc (oh L) (fc (sP L) (fc (O8 L) (fc (iY L) f0)))) j3
def zh:FT (C71 L):=kf [(250,⟨[],[(3,⟨[(2,true,.aap 88 31)],[],[]⟩)],c6 ⟨[(2,true,.aap 88 31)],[],[(36,.v 3)]⟩⟩),(4006,⟨[],[(0,⟨[(2,true,.aap 88 31)],[],[]⟩)],c7⟩),(256411,⟨[],[(0,⟨[(4,true,.box 88 (alh [3,3,3]))],[],[]⟩)],c7⟩)] (fc (xC L) (fc (K5 L) (fc (RP L) (fc (K68 L) f0)))) Tryz.func95
def SU:FT (C73 L):=kf [(58,⟨[],[(2,⟨[],[],[(3,.v 41)]⟩)],c6 ⟨[],[(3,[],.aap 101 41)],[(3,.r 0),(8,.v 3)]⟩⟩),(7475,⟨[2],[],c7⟩)] (fc (iY L) f0) y0
def Xr:FT (Xj L):=kf [(58,⟨[],[(2,⟨[(2,true,.box 140 [.v 22,.v 138])],[],[]⟩)],c6 ⟨[(2,true,.box 140 [.v 22,.r 3])],[(100002,[1],.aap 142 138)],[(13,.v 3)]⟩⟩),(3737,⟨[8],[],c7⟩)] (fc (iY L) f0) qa
def Hc:FT (C75 L):=kf [(58,⟨[],[(2,⟨[(2,true,.box 46 [.v 44])],[],[]⟩)],c6 ⟨[(2,true,.box 46 [.r 3])],[(100002,[0],.aap 140 44)],[(9,.v 3)]⟩⟩),(3737,⟨[4],[],c7⟩)] (fc (Xr L) f0) Tryz.func101
def NB:FT (C77 L):=kf [(262138,⟨[],[(2,⟨[(2,true,.box 56 amv)],[],[]⟩)],c6 ⟨[(2,true,.box 56 (abx amv [(35,.r 3)]))],[(100002,[35],.aap 83 54)],[(104,.v 3)]⟩⟩),(33553715,⟨[3],[],c7⟩)] (fc (zh L) (fc (oh L) (fc (sP L) (fc (G7 L) (fc (iY L) (fc (SU L) (fc (Hc L) (fc (IE L) f0)))))))) s5
def Py:FT (C78 L):=kf [(122,⟨[],[(0,⟨[],[],[(70,.v 4)]⟩)],c7⟩),(2046,⟨[7],[],c7⟩)] (fc (K24 L) (fc (UT L) (fc (KB L) (fc (vO L) (fc (K41 L) (fc (K43 L) (fc (K57 L) (fc (K58 L) (fc (NB L) f0))))))))) Tryz.func36
def K79:FT (C79 L):=kf [] (fc (K5 L) f0) Tryz.func157
def K80:FT (C80 L):=kf [(26,⟨[],[(1,⟨[],[],[(4,.v 3)]⟩),(2,⟨[],[],[]⟩)],c6 ⟨[],[],[(8,.v 3)]⟩⟩)] (fc (K79 L) f0) ee
def K81:FT (C81 L):=kf [] (fc (K80 L) f0) ez
def K82:FT (C82 L):=kf [] f0 Tryz.func224
def K83:FT (Z5 L):=kf [(26,⟨[],[(1,⟨[],[],[(4,.v 3)]⟩),(2,⟨[],[],[]⟩)],c6 ⟨[],[],[(8,.v 3)]⟩⟩)] (fc (K82 L) f0) ee
def K84:FT (C84 L):=kf [] (fc (K83 L) f0) ez
def Mo:FT (Wg L):=kf [] (fc (K84 L) f0) Tryz.func158
def sA:FT (C86 L):=kf [] (fc (OS L) (fc (K81 L) (fc (Mo L) f0))) Tryz.func94
def K87:FT (C87 L):=kf [] (fc (xC L) (fc (K3 L) (fc (sA L) f0))) Tryz.func43
def Ps:FT (C89 L):=kf [(58,⟨[],[(2,⟨[],[(3,[],.aap 3 22)],[(3,.r 1)]⟩)],c6 ⟨[],[(3,[],.aap 3 22)],[(3,.r 1),(9,.v 3)]⟩⟩),(7474,⟨[],[(0,⟨[],[],[(26,.v 4)]⟩)],c7⟩),(7475,⟨[],[(0,⟨[(1,false,.aap 3 22)],[],[(3,.r 1)]⟩)],c7⟩),(14950,⟨[2],[],c7⟩)] (fc (D5 L) f0) Tryz.func161
def Hj:FT (C90 L):=kf [(26,⟨[],[(1,⟨[],[],[(4,.v 3)]⟩),(2,⟨[],[],[]⟩)],c6 ⟨[],[],[(8,.v 3)]⟩⟩)] f0 Tryz.func136
def jP:FT (Fz L):=kf [] (fc (Hj L) f0) Tryz.func76
def K94:FT (nD L):=ae3 L (xC L) (K5 L) (jP L)
def Ru:FT (lT L):=kf [(58,⟨[],[(1,⟨[],[],[(4,.i .i64 19)]⟩),(2,⟨[],[],[]⟩)],c6 ⟨[],[],[(12,.v 3)]⟩⟩)] (fc (xC L) (fc (K5 L) f0)) Tryz.func226
def aiW:FT (mG L):=KS L (Ru L)
def K93:FT (C93 L):=kf [(12,⟨[2],[],c7⟩)] (fc (Ru L) (fc (MB L) (fc (K5 L) (fc (RP L) f0)))) Tryz.func162
def Wv:FT (C95 L):=kf [(58,⟨[],[(2,⟨[],[(3,[],.aap 101 41)],[(3,.r 0)]⟩)],c6 ⟨[],[(3,[],.aap 101 41)],[(3,.r 0),(8,.v 3)]⟩⟩),(7475,⟨[2],[],c7⟩)] (fc (iY L) f0) y0
def vf:FT (JX L):=kf [] (fc (K5 L) (fc (K4 L) f0)) z7
def ZZ:FT (C97 L):=kf [(26,⟨[],[(2,⟨[(0,false,.aap 5 95)],[],[(0,.r 0)]⟩)],c6 ⟨[(0,false,.aap 5 95)],[],[(0,.r 0),(7,.v 3)]⟩⟩),(420,⟨[7],[],c7⟩)] f0 Tryz.func79
def Xd:FT (C98 L):=kf [(62,⟨[5],[],c7⟩),(506,⟨[],[(2,⟨[(3,false,.dead)],[],[(4,.v 95)]⟩)],c6 ⟨[(3,false,.dead)],[(4,[],.aap 5 95)],[(4,.r 4),(30,.v 3)]⟩⟩)] (fc (vf L) (fc (ZZ L) f0)) Tryz.func30
def K99:FT (Ks L):=kf [(58,⟨[],[(2,⟨[],[],[(3,.v 179)]⟩)],c6 ⟨[],[],[(3,.v 179),(8,.v 3)]⟩⟩)] f0 Tryz.func81
def aaH:FT (H7 L):=kf [] f0 Tryz.func82
def afL:FT (kq L):=Yb L (K5 L) (vf L) (K99 L) (aaH L)
def akD:FT (Xc L):=kf [] (fc (K5 L) f0) Tryz.func279
def aiq:FT (adu L):=kf [(26,⟨[],[(1,⟨[],[],[(4,.v 3)]⟩),(2,⟨[],[],[]⟩)],c6 ⟨[],[],[(8,.v 3)]⟩⟩)] (fc (akD L) f0) ee
def ano:FT (ai3 L):=kf [] (fc (aiq L) f0) ez
def ald:FT (Z9 L):=kf [] (fc (K5 L) f0) Tryz.func280
def aqh:FT (afS L):=kf [(26,⟨[],[(1,⟨[],[],[(4,.v 3)]⟩),(2,⟨[],[],[]⟩)],c6 ⟨[],[],[(8,.v 3)]⟩⟩)] (fc (ald L) f0) ee
def an2:FT (aln L):=kf [] (fc (aqh L) f0) ez
def WK:FT (Uu L):=kf [(6,⟨[19],[],c7⟩)] (fc (ano L) (fc (an2 L) f0)) Tryz.func227
def acy:FT (aif L):=kf [(124,⟨[],[(0,⟨[],[],[(40,.v 4)]⟩)],c7⟩)] (fc (WK L) (fc (vf L) (fc (oH L) f0))) Tryz.func164
def aac:FT (anP L):=kf [(506,⟨[],[(2,⟨[],[],[(7,.v 247)]⟩)],c6 ⟨[],[(7,[],.aap 251 247)],[(7,.r 1),(27,.v 3)]⟩⟩),(32409,⟨[14],[],c7⟩)] (fc (vf L) f0) Tryz.func165
def mI:FT (acZ L):=kf [] f0 Tryz.func169
def Bs:FT (IP L):=kf [(58,⟨[],[(1,⟨[],[],[(4,.b false)]⟩),(2,⟨[],[],[]⟩)],c6 ⟨[],[],[(13,.v 3)]⟩⟩)] f0 Tryz.func196
def ah5:FT (ZA L):=kf [] (fc (K5 L) f0) Tryz.func336
def amW:FT (afj L):=kf [(26,⟨[],[(1,⟨[],[],[(4,.v 3)]⟩),(2,⟨[],[],[]⟩)],c6 ⟨[],[],[(8,.v 3)]⟩⟩)] (fc (ah5 L) f0) ee
def akT:FT (akW L):=kf [] (fc (amW L) f0) ez
def KO:FT (ab7 L):=kf [] (fc (K5 L) (fc (akT L) f0)) Tryz.func323
def Sw:FT (ahK L):=kf [] (fc (K3 L) (fc (KO L) (fc (QF L) (fc (Bs L) f0)))) Tryz.func290
def Wl:FT (ane L):=kf [] (fc (Sw L) f0) Tryz.func289
def aqy:FT (WA L):=kf [(26,⟨[],[(1,⟨[],[],[(4,.v 3)]⟩),(2,⟨[],[],[]⟩)],c6 ⟨[],[],[(8,.v 3)]⟩⟩)] (fc (Wl L) f0) y1
def ZM:FT (aiv L):=kf [] (fc (aqy L) f0) y2
def aeY:FT (ZD L):=kf [] f0 Tryz.func307
def Og:FT (afm L):=kf [] (fc (aeY L) f0) Tryz.func266
def Qb:FT (akZ L):=kf [(26,⟨[],[(1,⟨[],[],[(4,.v 3)]⟩),(2,⟨[],[],[]⟩)],c6 ⟨[],[],[(11,.v 3)]⟩⟩)] (fc (Og L) f0) Tryz.func288
def wY:FT (aca L):=kf [(12,⟨[],[(0,⟨[],[],[(17,.v 4)]⟩)],c7⟩),(122,⟨[],[(1,⟨[],[],[(4,.b false)]⟩),(2,⟨[],[],[]⟩)],c6 ⟨[],[],[(28,.v 3)]⟩⟩),(31332,⟨[],[(0,⟨[],[],[(33,.v 4)]⟩)],c7⟩),(501342,⟨[],[(0,⟨[],[],[(62,.v 4)]⟩)],c7⟩)] (fc (K3 L) (fc (K5 L) (fc (HI L) (fc (Iv L) (fc (PY L) (fc (Bs L) (fc (Qb L) (fc (ZM L) f0)))))))) Tryz.func235
def Rb:FT (ahM L):=kf [(24,⟨[],[(0,⟨[],[],[(11,.v 4)]⟩)],c7⟩),(102,⟨[],[(0,⟨[],[],[(30,.v 4)]⟩)],c7⟩)] (fc (Sw L) (fc (K4 L) (fc (K5 L) f0))) Tryz.func281
def aii:FT (ani L):=kf [(250,⟨[],[(2,⟨[(3,true,.aap 3 22)],[],[(14,.v 4)]⟩)],c6 ⟨[(3,true,.aap 3 22)],[],[(14,.v 4),(36,.v 3)]⟩⟩),(32051,⟨[],[(0,⟨[(3,true,.aap 3 22)],[],[(14,.v 4)]⟩)],c7⟩)] (fc (Rb L) (fc (RR L) (fc (Cy L) f0))) Tryz.func230
def yz:FT (HG L):=kf [(58,⟨[],[(2,⟨[(2,true,.box 140 [.v 22,.r 3])],[(100002,[1],.aap 142 138)],[]⟩)],c6 ⟨[(2,true,.box 140 [.v 22,.r 3])],[(100002,[1],.aap 142 138)],[(13,.v 3)]⟩⟩),(3737,⟨[8],[],c7⟩)] (fc (iY L) f0) qa
def VK:FT (aj2 L):=kf [] (fc (aii L) f0) Tryz.func229
def ap7:FT (apN L):=kf [(250,⟨[],[(1,⟨[(0,true,.box 30 [.v 27,.v 28]),(1,true,.box 22 [.v 22]),(2,true,.box 3 [.v 3]),(3,true,.box 3 [.v 3]),(6,true,.box 46 [.v 44]),(7,false,.dead)],[],[(9,.v 67)]⟩),(2,⟨[(0,true,.box 30 [.v 27,.v 28]),(1,true,.box 22 [.v 22]),(2,true,.box 3 [.v 3]),(3,true,.box 3 [.v 3]),(7,true,.box 46 [.v 44])],[],[]⟩)],c6 ⟨[(0,true,.box 30 [.v 27,.v 28]),(1,true,.box 22 [.v 22]),(2,true,.box 3 [.v 3]),(3,true,.box 3 [.v 3]),(7,true,.box 46 [.r 8])],[(100007,[0],.aap 140 44)],[(34,.v 3)]⟩⟩),(4006,⟨[],[(0,⟨[(0,true,.box 30 [.v 27,.v 28]),(1,true,.box 22 [.v 22]),(2,true,.box 3 [.v 3]),(3,true,.box 3 [.v 3]),(7,true,.box 46 [.r 8]),(8,false,.aap 140 44)],[],[]⟩),(1,⟨[(0,true,.box 30 [.v 27,.v 28]),(1,true,.box 22 [.v 22]),(2,true,.box 3 [.v 3]),(3,true,.box 3 [.v 3]),(6,true,.box 46 [.v 44])],[],[(9,.v 67)]⟩)],c7⟩),(256414,⟨[],[(0,⟨[(10,false,.dead),(11,true,.box 140 [.v 22,.v 138])],[],[]⟩),(1,⟨[(6,true,.box 46 [.v 44]),(10,false,.dead),(11,false,.dead)],[],[(9,.v 67)]⟩),(3,⟨[(10,false,.dead),(11,false,.dead)],[],[]⟩)],c7⟩),(256415,⟨[3],[],c7⟩),(4102633,⟨[],[(0,⟨[],[],[(55,.v 4)]⟩)],c7⟩),(32821087,⟨[],[(0,⟨[(10,true,.aap 142 138)],[],[]⟩)],c7⟩)] (fc (wY L) (fc (jP L) (fc (Hj L) (fc (yz L) (fc (VK L) f0))))) y3
def Zr:FT (ZF L):=kf [] (fc (ap7 L) f0) Tryz.func168
def zQ:FT (aki L):=kf [] f0 Tryz.func173
def aci:FT (acb L):=kf [(122,⟨[],[(3,⟨[(2,true,.aap 115 28)],[],[]⟩)],c6 ⟨[(2,true,.aap 115 28)],[],[(32,.v 3)]⟩⟩)] (fc (K3 L) (fc (K4 L) (fc (oh L) (fc (yo L) f0)))) y4
def ahh:FT (apu L):=kf [(122,⟨[],[(3,⟨[(3,true,.aap 115 28)],[],[]⟩)],c6 ⟨[(3,true,.aap 115 28)],[],[(32,.v 3)]⟩⟩)] (fc (K3 L) (fc (K4 L) (fc (akq L) (fc (yo L) f0)))) y4
def Ch:FT (aez L):=kf [] (fc (ahh L) f0) Tryz.func174
def ajX:FT (Uz L):=kf [] (fc (vf L) f0) Tryz.func283
def ahU:FT (abd L):=kf [(26,⟨[],[(1,⟨[],[],[(4,.v 3)]⟩),(2,⟨[],[],[]⟩)],c6 ⟨[],[],[(8,.v 3)]⟩⟩)] (fc (ajX L) f0) Tryz.func321
def amJ:FT (agV L):=kf [] (fc (ahU L) f0) Tryz.func282
def akJ:FT (Xm L):=kf [(86,⟨[6],[],c7⟩)] f0 y5
def apE:FT (adF L):=kf [] f0 Tryz.func285
def YT:FT (an9 L):=kf [(86,⟨[6],[],c7⟩)] f0 y5
def V9:FT (X2 L):=kf [(414,⟨[],[(0,⟨[],[],[(24,.v 4)]⟩)],c7⟩),(510,⟨[1],[],c7⟩),(1018,⟨[],[(3,⟨[(0,true,.box 3 [.v 3]),(1,true,.box 3 [.v 3]),(2,true,.box 120 (alh [22,3,3,3])),(3,true,.box 309 [.r 5]),(4,true,.box 41 [.v 41])],[(100003,[0],.aap 312 309)],[]⟩)],c6 ⟨[(0,true,.box 3 [.v 3]),(1,true,.box 3 [.v 3]),(2,true,.box 120 (alh [22,3,3,3])),(3,true,.box 309 [.r 5]),(4,true,.box 41 [.r 6])],[(100003,[0],.aap 312 309),(100004,[0],.aap 101 41)],[(44,.v 3)]⟩⟩),(16294,⟨[],[(0,⟨[(0,true,.box 3 [.v 3]),(1,true,.box 3 [.v 3]),(2,true,.box 120 (alh [22,3,3,3])),(3,true,.box 309 [.r 7]),(4,true,.box 41 [.r 8]),(5,false,.dead),(6,false,.dead)],[(100003,[0],.aap 312 309),(100004,[0],.aap 101 41)],[]⟩)],c7⟩),(521423,⟨[2],[],c7⟩),(2085690,⟨[],[(0,⟨[],[],[(72,.v 4)]⟩)],c7⟩),(2085691,⟨[],[(0,⟨[(0,true,.box 3 [.v 3]),(1,true,.box 3 [.v 3]),(2,true,.box 120 (alh [22,3,3,3])),(3,true,.box 309 [.r 8]),(4,true,.box 41 [.r 9]),(5,false,.dead),(6,false,.dead)],[(100003,[0],.aap 312 309),(100004,[0],.aap 101 41)],[]⟩)],c7⟩)] (fc (amJ L) (fc (K5 L) (fc (jP L) (fc (YT L) (fc (apE L) (fc (akJ L) f0)))))) Tryz.func231
def abW:FT (ad1 L):=kf [] f0 Tryz.func234
def ZC:FT (aqG L):=kf [] (fc (jP L) f0) Tryz.func322
def aeH:FT (aaz L):=kf [(6,⟨[],[(0,⟨[],[],[(27,.v 4)]⟩)],c7⟩)] (fc (ZC L) f0) xv
def acC:FT (agm L):=kf [(14,⟨[],[(2,⟨[(0,true,.aap 3 22),(1,true,.box 22 [.r 0]),(2,true,.box 4 [.v 4])],[],[]⟩)],c6 ⟨[(0,true,.aap 3 22),(1,true,.box 22 [.r 0]),(2,true,.box 4 [.v 4])],[],[(16,.v 3)]⟩⟩),(3686,⟨[],[(4,⟨[(0,true,.aap 3 22),(1,true,.box 22 [.r 0]),(2,true,.box 4 [.v 4])],[],[]⟩)],c6 ⟨[(0,true,.aap 3 22),(1,true,.box 22 [.r 0]),(2,true,.box 4 [.v 4])],[],[(22,.v 3)]⟩⟩),(1887437,⟨[],[(0,⟨[],[],[(10,.v 3),(11,.v 3)]⟩)],c7⟩),(3774878,⟨[],[(0,⟨[],[],[(44,.v 4)]⟩)],c7⟩),(3774879,⟨[],[(0,⟨[(0,true,.aap 3 22),(1,true,.box 22 [.r 0]),(2,true,.box 4 [.v 4])],[],[]⟩)],c7⟩)] (fc (Fo L) (fc (aeH L) f0)) xx
def ahB:FT (WE L):=kf [(58,⟨[],[(2,⟨[(3,true,.aap 3 22),(4,true,.box 22 [.r 3]),(5,false,.dead)],[],[]⟩)],c6 ⟨[(3,true,.aap 3 22),(4,true,.box 22 [.r 3]),(5,false,.dead)],[(10,[],.box 4 [.v 4])],[(10,.p 6)]⟩⟩)] (fc (oH L) (fc (acC L) f0)) q6
def amf:FT (ac6 L):=kf [(122,⟨[],[(3,⟨[(4,true,.aap 3 22)],[],[]⟩)],c6 ⟨[(4,true,.aap 3 22)],[],[(55,.v 3)]⟩⟩),(126,⟨[4],[],c7⟩)] (fc (Rb L) (fc (K5 L) (fc (oH L) (fc (ahB L) (fc (Cy L) f0))))) Tryz.func287
def akb:FT (aiE L):=kf [] (fc (amf L) f0) Tryz.func286
def ao8:FT (WU L):=kf [(250,⟨[],[(1,⟨[(0,true,.box 30 [.v 27,.v 28]),(1,true,.box 22 [.v 22]),(2,true,.box 3 [.v 3]),(3,true,.box 3 [.v 3]),(4,true,.box 3 [.v 3]),(7,true,.box 46 [.v 44]),(8,false,.dead)],[],[(9,.v 67)]⟩),(2,⟨[(0,true,.box 30 [.v 27,.v 28]),(1,true,.box 22 [.v 22]),(2,true,.box 3 [.v 3]),(3,true,.box 3 [.v 3]),(4,true,.box 3 [.v 3]),(8,true,.box 46 [.v 44])],[],[]⟩)],c6 ⟨[(0,true,.box 30 [.v 27,.v 28]),(1,true,.box 22 [.v 22]),(2,true,.box 3 [.v 3]),(3,true,.box 3 [.v 3]),(4,true,.box 3 [.v 3]),(8,true,.box 46 [.r 9])],[(100008,[0],.aap 140 44)],[(34,.v 3)]⟩⟩),(4006,⟨[],[(0,⟨[(0,true,.box 30 [.v 27,.v 28]),(1,true,.box 22 [.v 22]),(2,true,.box 3 [.v 3]),(3,true,.box 3 [.v 3]),(4,true,.box 3 [.v 3]),(8,true,.box 46 [.r 9]),(9,false,.aap 140 44)],[],[]⟩),(1,⟨[(0,true,.box 30 [.v 27,.v 28]),(1,true,.box 22 [.v 22]),(2,true,.box 3 [.v 3]),(3,true,.box 3 [.v 3]),(4,true,.box 3 [.v 3]),(7,true,.box 46 [.v 44])],[],[(9,.v 67)]⟩)],c7⟩),(256414,⟨[],[(0,⟨[(11,false,.dead),(12,true,.box 140 [.v 22,.v 138])],[],[]⟩),(1,⟨[(7,true,.box 46 [.v 44]),(11,false,.dead),(12,false,.dead)],[],[(9,.v 67)]⟩),(3,⟨[(11,false,.dead),(12,false,.dead)],[],[]⟩)],c7⟩),(256415,⟨[3],[],c7⟩),(4102633,⟨[],[(0,⟨[],[],[(55,.v 4)]⟩)],c7⟩),(32821087,⟨[],[(0,⟨[(11,true,.aap 142 138)],[],[]⟩)],c7⟩)] (fc (wY L) (fc (jP L) (fc (Hj L) (fc (yz L) (fc (akb L) f0))))) y3
def am2:FT (adl L):=kf [] (fc (ao8 L) f0) Tryz.func233
def Vt:FT (Wu L):=kf [] (fc (abW L) (fc (am2 L) f0)) Tryz.func232
def apW:FT (akC L):=kf [] f0 Tryz.func206
def Zf:FT (aqf L):=kf [(58,⟨[],[(2,⟨[],[(5,[],.aap 3 22)],[(5,.r 0)]⟩)],c6 ⟨[],[(5,[],.aap 3 22)],[(5,.r 0),(8,.v 3)]⟩⟩),(7475,⟨[],[(0,⟨[(0,false,.aap 3 22)],[],[(5,.r 0)]⟩)],c7⟩),(14950,⟨[2],[],c7⟩)] (fc (apW L) f0) o6
def HE:FT (ahy L):=kf [] (fc (Zf L) f0) Tryz.func132
def ab9:FT (amV L):=kf [] (fc (jP L) f0) Tryz.func291
def ag4:FT (Wj L):=kf [(26,⟨[],[(1,⟨[],[],[(4,.v 3)]⟩),(2,⟨[],[],[]⟩)],c6 ⟨[],[],[(8,.v 3)]⟩⟩)] (fc (ab9 L) f0) ee
def ae1:FT (ajO L):=kf [] (fc (ag4 L) f0) ez
def ajR:FT (apj L):=kf [] (fc (HE L) (fc (ae1 L) f0)) Tryz.func237
def aoH:FT (Zp L):=kf [(12,⟨[],[(0,⟨[],[],[(13,.v 4)]⟩)],c7⟩)] (fc (iY L) f0) Tryz.func238
def amw:FT (ae9 L):=kf [(58,⟨[],[(2,⟨[(3,true,.box 140 [.r 2,.r 4])],[(100003,[1],.aap 142 138)],[]⟩)],c6 ⟨[(3,true,.box 140 [.r 2,.r 4])],[(100003,[1],.aap 142 138)],[(13,.v 3)]⟩⟩),(3737,⟨[6,8],[],c7⟩)] (fc (oH L) (fc (iY L) f0)) qa
def U1:FT (Hy L):=kf [(122,⟨[],[(2,⟨[(3,true,.box 142 [.v 3,.v 22])],[],[]⟩)],c6 ⟨[(3,true,.box 142 [.v 3,.r 4])],[(100003,[1],.aap 3 22)],[(26,.v 3)]⟩⟩),(7833,⟨[9],[],c7⟩)] f0 Tryz.func295
def apn:FT (ajx L):=kf [] (fc (Qb L) f0) Tryz.func294
def YA:FT (ao7 L):=kf [(6,⟨[],[(2,⟨[(0,true,.aap 140 44)],[],[]⟩)],c6 ⟨[(0,true,.aap 140 44)],[],[(8,.v 3)]⟩⟩),(402,⟨[],[(4,⟨[(0,true,.aap 140 44)],[],[]⟩)],c6 ⟨[(0,true,.aap 140 44)],[],[(9,.v 3)]⟩⟩),(3216,⟨[],[(0,⟨[],[],[(34,.v 4)]⟩)],c7⟩)] (fc (apn L) f0) Tryz.func342
def VS:FT (Zd L):=kf [(28,⟨[],[(2,⟨[(0,true,.aap 140 44)],[],[(7,.v 3)]⟩)],c6 ⟨[(0,true,.aap 140 44)],[],[(7,.v 3),(8,.v 3)]⟩⟩),(62,⟨[],[(4,⟨[],[],[]⟩)],c6 ⟨[],[],[(6,.v 3)]⟩⟩),(3988,⟨[],[(6,⟨[],[],[(7,.i .i64 0)]⟩)],c6 ⟨[],[],[(7,.i .i64 0),(8,.v 3)]⟩⟩)] (fc (YA L) f0) Tryz.func338
def abL:FT (alM L):=kf [] (fc (VS L) f0) Tryz.func325
def agA:FT (adP L):=kf [] (fc (U9 L) f0) Tryz.func324
def aeu:FT (xI L):=kf [] (fc (agA L) (fc (abL L) f0)) Tryz.func292
def QO:FT (uY L):=UK L (Bs L) (U1 L) (yz L) (aeu L)
def ahn:FT (aa5 L):=kf [(120,⟨[],[(0,⟨[],[],[(34,.v 4)]⟩)],c7⟩),(506,⟨[],[(3,⟨[(3,false,.dead)],[],[(13,.v 44)]⟩)],c6 ⟨[(3,false,.aap 140 44)],[],[(13,.r 3),(62,.v 3)]⟩⟩),(8102,⟨[],[(0,⟨[(3,false,.aap 140 44)],[],[(13,.r 3)]⟩)],c7⟩),(518558,⟨[],[(0,⟨[(5,false,.dead),(6,false,.dead),(7,true,.box 140 [.v 22,.v 138])],[],[]⟩)],c7⟩),(518559,⟨[2],[],c7⟩),(2074234,⟨[],[(5,⟨[(6,true,.aap 142 138)],[],[]⟩)],c6 ⟨[(6,true,.aap 142 138)],[],[(102,.v 3)]⟩⟩),(531004007,⟨[],[(0,⟨[(6,true,.aap 142 138)],[],[]⟩)],c7⟩)] (fc (wY L) (fc (K5 L) (fc (apm L) (fc (ajR L) (fc (amw L) (fc (aoH L) (fc (QO L) f0))))))) Tryz.func172
def al4:FT (agN L):=kf [] (fc (K5 L) f0) Tryz.func296
def aj1:FT (Xf L):=kf [(26,⟨[],[(1,⟨[],[],[(4,.v 3)]⟩),(2,⟨[],[],[]⟩)],c6 ⟨[],[],[(8,.v 3)]⟩⟩)] (fc (al4 L) f0) ee
def aoX:FT (ady L):=kf [] (fc (aj1 L) f0) ez
def My:FT (ai6 L):=kf [] (fc (K3 L) (fc (K5 L) (fc (aoX L) f0))) Tryz.func241
def Vg:FT (aag L):=kf [(12,⟨[],[(0,⟨[],[],[(43,.v 4)]⟩)],c7⟩),(28,⟨[],[(0,⟨[],[],[(52,.v 4)]⟩)],c7⟩),(250,⟨[],[(2,⟨[(4,true,.aap 3 22)],[],[]⟩)],c6 ⟨[(4,true,.aap 3 22)],[],[(61,.v 3)]⟩⟩),(506,⟨[],[(4,⟨[(4,true,.aap 3 22)],[],[]⟩)],c6 ⟨[(4,true,.aap 3 22)],[],[(76,.v 3)]⟩⟩),(129636,⟨[],[(0,⟨[],[],[(98,.v 4)]⟩)],c7⟩),(129637,⟨[],[(0,⟨[(4,true,.aap 3 22)],[],[]⟩)],c7⟩),(129638,⟨[],[(0,⟨[],[],[(121,.v 4)]⟩)],c7⟩),(129639,⟨[],[(0,⟨[(4,true,.aap 3 22)],[],[]⟩)],c7⟩)] (fc (Aq L) (fc (My L) (fc (Ja L) (fc (DW L) f0)))) y6
def aa7:FT (aao L):=kf [(14,⟨[0],[],c7⟩),(122,⟨[],[(3,⟨[(2,true,.aap 3 22)],[],[]⟩)],c6 ⟨[(2,true,.aap 3 22)],[],[(40,.v 3)]⟩⟩)] (fc (Aq L) (fc (K4 L) (fc (K5 L) (fc (Ca L) (fc (DW L) f0))))) A3
def YV:FT (agb L):=kf [(26,⟨[],[(1,⟨[],[],[(2,.b false)]⟩),(2,⟨[],[],[]⟩)],c6 ⟨[],[],[(14,.v 3)]⟩⟩),(28,⟨[],[(0,⟨[],[],[(30,.v 4)]⟩)],c7⟩)] (fc (K5 L) f0) Tryz.func204
def ad8:FT (alz L):=kf [(58,⟨[],[(1,⟨[],[],[(2,.v 3)]⟩),(2,⟨[],[],[]⟩)],c6 ⟨[],[],[(8,.v 3)]⟩⟩)] f0 Tryz.func265
def QI:FT (acX L):=kf [(6,⟨[10],[],c7⟩)] (fc (Og L) (fc (ad8 L) f0)) Tryz.func205
def PS:FT (air L):=kf [(58,⟨[],[(1,⟨[],[],[(2,.b false)]⟩),(2,⟨[],[],[]⟩)],c6 ⟨[],[],[(10,.v 3)]⟩⟩),(7474,⟨[],[(0,⟨[],[],[(35,.v 4)]⟩)],c7⟩)] (fc (YV L) (fc (QI L) f0)) Tryz.func131
def alA:FT (an4 L):=kf [(60,⟨[],[(2,⟨[],[],[(9,.v 3)]⟩)],c6 ⟨[],[],[(9,.v 3),(10,.v 3)]⟩⟩),(1931,⟨[],[(0,⟨[],[],[(9,.v 3),(10,.v 3)]⟩)],c7⟩)] (fc (QI L) f0) Tryz.func243
def QV:FT (anE L):=kf [(28,⟨[],[(0,⟨[],[],[(32,.v 4)]⟩)],c7⟩),(124,⟨[],[(0,⟨[],[],[(65,.v 4)]⟩)],c7⟩)] (fc (PS L) (fc (K5 L) (fc (alA L) (fc (anc L) (fc (ail L) f0))))) Tryz.func176
def aoy:FT (acP L):=kf [] f0 Tryz.func177
def amk:FT (ana L):=kf [(26,⟨[],[(1,⟨[],[],[(4,.v 3)]⟩),(2,⟨[],[],[]⟩)],c6 ⟨[],[],[(8,.v 3)]⟩⟩)] (fc (aoy L) f0) q7
def UO:FT (acj L):=kf [] (fc (amk L) f0) q8
def aaI:FT (ahX L):=kf [] (fc (iY L) f0) y7
def Ym:FT (anr L):=kf [(6,⟨[5],[],c7⟩)] (fc (iY L) (fc (oH L) f0)) y7
def BU:FT (aeI L):=kf [(414,⟨[],[(0,⟨[],[],[(25,.v 4)]⟩)],c7⟩)] (fc (sA L) (fc (K5 L) (fc (Ym L) f0))) Tryz.func245
def abr:FT (akc L):=kf [] (fc (BU L) f0) Tryz.func178
def ags:FT (apX L):=kf [] (fc (BU L) f0) Tryz.func179
def aek:FT (ag5 L):=kf [] f0 Tryz.func180
def ai9:FT (amy L):=kf [(26,⟨[],[(1,⟨[],[],[(4,.v 3)]⟩),(2,⟨[],[],[]⟩)],c6 ⟨[],[],[(8,.v 3)]⟩⟩)] (fc (aek L) f0) ee
def an5:FT (VU L):=kf [] (fc (ai9 L) f0) ez
def RQ:FT (acp L):=kf [(102,⟨[],[(0,⟨[],[],[(12,.v 4)]⟩)],c7⟩)] (fc (sA L) (fc (Mo L) (fc (aaI L) f0))) Tryz.func246
def Um:FT (aoY L):=kf [] (fc (RQ L) f0) Tryz.func181
def aoL:FT (YW L):=kf [] f0 Tryz.func249
def Xx:FT (aeR L):=kf [(26,⟨[],[(1,⟨[],[],[(4,.v 3)]⟩),(2,⟨[],[],[]⟩)],c6 ⟨[],[],[(8,.v 3)]⟩⟩)] (fc (aoL L) f0) y1
def U5:FT (UQ L):=kf [] (fc (Xx L) f0) y2
def aaV:FT (abu L):=kf [] (fc (U5 L) f0) Tryz.func247
def afX:FT (ag9 L):=kf [(26,⟨[],[(1,⟨[],[],[(4,.v 3)]⟩),(2,⟨[],[],[]⟩)],c6 ⟨[],[],[(8,.v 3)]⟩⟩)] (fc (aaV L) f0) qb
def adW:FT (Xy L):=kf [] (fc (afX L) f0) s6
def aiN:FT (adY L):=kf [(12,⟨[],[(0,⟨[],[],[(16,.v 4)]⟩)],c7⟩),(28,⟨[],[(0,⟨[],[],[(25,.v 4)]⟩)],c7⟩)] (fc (K3 L) (fc (KO L) (fc (QF L) f0))) y8
def agC:FT (ajq L):=kf [(12,⟨[],[(0,⟨[],[],[(16,.v 4)]⟩)],c7⟩),(28,⟨[],[(0,⟨[],[],[(25,.v 4)]⟩)],c7⟩)] (fc (K3 L) (fc (KO L) (fc (Cy L) f0))) y8
def alq:FT (aaw L):=kf [(6,⟨[0],[],c7⟩),(58,⟨[],[(2,⟨[(3,true,.aap 3 22)],[],[]⟩)],c6 ⟨[(3,true,.aap 3 22)],[],[(20,.v 3)]⟩⟩)] (fc (Ca L) (fc (HE L) (fc (agC L) f0))) Tryz.func250
def aqC:FT (agj L):=kf [(252,⟨[],[(0,⟨[],[],[(44,.v 4)]⟩)],c7⟩),(2042,⟨[],[(1,⟨[(3,true,.box 46 [.v 44])],[],[(9,.v 67)]⟩),(2,⟨[],[],[(13,.v 44)]⟩)],c6 ⟨[],[(13,[],.aap 140 44)],[(13,.r 5),(49,.v 3)]⟩⟩),(522854,⟨[],[(0,⟨[(7,false,.dead),(8,true,.box 140 [.v 22,.v 138])],[],[]⟩),(1,⟨[(3,true,.box 46 [.v 44]),(7,false,.dead),(8,false,.dead)],[],[(9,.v 67)]⟩)],c7⟩),(522855,⟨[2],[],c7⟩),(2091418,⟨[],[(1,⟨[(3,true,.box 46 [.v 44]),(7,false,.dead)],[],[(9,.v 67)]⟩),(4,⟨[(7,true,.aap 142 138)],[],[]⟩)],c6 ⟨[(7,true,.aap 142 138)],[],[(58,.v 3)]⟩⟩)] (fc (wY L) (fc (aci L) (fc (adW L) (fc (yz L) (fc (alq L) (fc (QO L) f0)))))) Tryz.func182
def SK:FT (alE L):=kf [] f0 Tryz.func258
def W0:FT (ac3 L):=kf [] (fc (K5 L) f0) Tryz.func261
def Uy:FT (aiB L):=kf [(26,⟨[],[(1,⟨[],[],[(4,.v 3)]⟩),(2,⟨[],[],[]⟩)],c6 ⟨[],[],[(8,.v 3)]⟩⟩)] (fc (W0 L) f0) ee
def aau:FT (aoa L):=kf [] (fc (Uy L) f0) ez
def MA:FT (X4 L):=kf [(26,⟨[],[(1,⟨[],[],[(4,.b false)]⟩),(2,⟨[],[],[]⟩)],c6 ⟨[],[],[(12,.v 3)]⟩⟩),(6758,⟨[],[(1,⟨[],[],[(4,.b false)]⟩),(4,⟨[],[],[]⟩)],c6 ⟨[],[],[(19,.v 3)]⟩⟩)] (fc (aau L) f0) Tryz.func198
def ado:FT (ak1 L):=kf [] (fc (vO L) (fc (sA L) (fc (MA L) f0))) Tryz.func302
def IN:FT (aqH L):=kf [(414,⟨[],[(0,⟨[],[],[(19,.v 4)]⟩)],c7⟩),(6654,⟨[],[(0,⟨[],[],[(33,.v 4)]⟩)],c7⟩),(26622,⟨[],[(0,⟨[],[],[(49,.v 4)]⟩)],c7⟩)] (fc (vO L) (fc (SK L) (fc (sA L) (fc (ado L) f0)))) Tryz.func251
def agi:FT (aaC L):=kf [] (fc (IN L) f0) Tryz.func183
def ak7:FT (anl L):=kf [(12,⟨[],[(0,⟨[],[],[(14,.v 67)]⟩)],c7⟩)] (fc (IN L) f0) Tryz.func184
def ai1:FT (WH L):=kf [] (fc (IN L) f0) Tryz.func185
def anT:FT (ah3 L):=kf [(506,⟨[],[(2,⟨[(2,true,.box 35 (abx amj [(1,.r 3),(3,.r 4)]))],[],[]⟩)],c6 ⟨[(2,true,.box 35 (abx amj [(1,.r 3),(3,.r 4),(5,.r 5)]))],[(100002,[5],.aap 120 32)],[(31,.v 3)]⟩⟩),(4090,⟨[],[(4,⟨[(2,true,.box 35 (abx amj [(1,.r 3),(3,.r 4)]))],[],[]⟩)],c6 ⟨[(2,true,.box 35 (abx amj [(1,.r 3),(3,.r 4),(8,.r 5)]))],[(100002,[8],.aap 22 33)],[(58,.v 3)]⟩⟩),(64819,⟨[3],[],c7⟩),(261785,⟨[4],[],c7⟩)] (fc (oh L) (fc (yo L) (fc (O8 L) (fc (iY L) f0)))) j3
def RN:FT (anx L):=kf [(102,⟨[],[(0,⟨[],[],[(14,.v 4)]⟩)],c7⟩),(250,⟨[],[(3,⟨[(3,true,.aap 88 31)],[],[]⟩)],c6 ⟨[(3,true,.aap 88 31)],[],[(44,.v 3)]⟩⟩),(32051,⟨[],[(0,⟨[(3,true,.aap 88 31)],[],[]⟩)],c7⟩)] (fc (xC L) (fc (K5 L) (fc (anT L) f0))) Tryz.func186
def Lh:FT (afu L):=kf [(12,⟨[],[(0,⟨[],[],[(26,.v 4)]⟩)],c7⟩),(250,⟨[],[(1,⟨[(2,true,.box 46 [.v 44]),(3,false,.dead)],[],[(7,.v 67)]⟩),(2,⟨[(3,true,.box 46 [.v 44])],[],[(9,.v 67)]⟩)],c6 ⟨[(3,true,.box 46 [.r 4])],[(100003,[0],.aap 140 44)],[(9,.v 67),(31,.v 3)]⟩⟩),(64102,⟨[],[(0,⟨[(6,false,.dead),(7,true,.box 140 [.v 22,.v 138])],[],[(9,.v 67)]⟩),(1,⟨[(2,true,.box 46 [.v 44]),(6,false,.dead),(7,false,.dead)],[],[(7,.v 67)]⟩)],c7⟩),(64103,⟨[3],[],c7⟩),(256410,⟨[],[(1,⟨[(2,true,.box 46 [.v 44]),(6,false,.dead)],[],[(7,.v 67)]⟩),(4,⟨[(6,true,.aap 142 138)],[],[(9,.v 67)]⟩)],c6 ⟨[(6,true,.aap 142 138)],[],[(9,.v 67),(40,.v 3)]⟩⟩),(262564253,⟨[],[(0,⟨[],[],[(9,.v 67)]⟩)],c7⟩)] (fc (K3 L) (fc (K5 L) (fc (yz L) (fc (aiN L) f0)))) Tryz.func252
def Z2:FT (VF L):=kf [(12,⟨[],[(0,⟨[],[],[(43,.v 4)]⟩)],c7⟩),(28,⟨[],[(0,⟨[],[],[(52,.v 4)]⟩)],c7⟩),(250,⟨[],[(2,⟨[(5,true,.aap 3 22)],[],[]⟩)],c6 ⟨[(5,true,.aap 3 22)],[],[(61,.v 3)]⟩⟩),(506,⟨[],[(4,⟨[(5,true,.aap 3 22)],[],[]⟩)],c6 ⟨[(5,true,.aap 3 22)],[],[(76,.v 3)]⟩⟩),(129636,⟨[],[(0,⟨[],[],[(98,.v 4)]⟩)],c7⟩),(129637,⟨[],[(0,⟨[(5,true,.aap 3 22)],[],[]⟩)],c7⟩),(129638,⟨[],[(0,⟨[],[],[(121,.v 4)]⟩)],c7⟩),(129639,⟨[],[(0,⟨[(5,true,.aap 3 22)],[],[]⟩)],c7⟩)] (fc (Aq L) (fc (My L) (fc (Ja L) (fc (DW L) f0)))) y6
def Xl:FT (ach L):=kf [] f0 Tryz.func47
def ac2:FT (ahS L):=kf [(58,⟨[],[(2,⟨[],[(5,[],.aap 3 22)],[(5,.r 0)]⟩)],c6 ⟨[],[(5,[],.aap 3 22)],[(5,.r 0),(8,.v 3)]⟩⟩),(7475,⟨[],[(0,⟨[(0,false,.aap 3 22)],[],[(5,.r 0)]⟩)],c7⟩),(14950,⟨[2],[],c7⟩)] (fc (Xl L) f0) o6
def Nz:FT (YP L):=kf [] (fc (ac2 L) f0) Tryz.func16
def afM:FT (aeF L):=kf [] (fc (jP L) f0) Tryz.func303
def akM:FT (aj8 L):=kf [(26,⟨[],[(1,⟨[],[],[(4,.v 3)]⟩),(2,⟨[],[],[]⟩)],c6 ⟨[],[],[(8,.v 3)]⟩⟩)] (fc (afM L) f0) ee
def aiz:FT (apU L):=kf [] (fc (akM L) f0) ez
def ant:FT (ag1 L):=kf [(230,⟨[],[(0,⟨[],[],[(23,.v 4)]⟩)],c7⟩),(250,⟨[],[(3,⟨[(3,true,.aap 115 28)],[],[]⟩)],c6 ⟨[(3,true,.aap 115 28)],[],[(49,.v 3)]⟩⟩),(506,⟨[],[(5,⟨[(3,true,.aap 115 28)],[],[]⟩)],c6 ⟨[(3,true,.aap 115 28)],[],[(61,.v 3)]⟩⟩)] (fc (K3 L) (fc (K4 L) (fc (aiz L) (fc (oh L) (fc (yo L) f0))))) Tryz.func253
def ali:FT (amt L):=kf [(24,⟨[],[(0,⟨[],[],[(11,.v 4)]⟩)],c7⟩),(102,⟨[],[(0,⟨[],[],[(22,.v 4)]⟩)],c7⟩)] (fc (KB L) (fc (wY L) (fc (K5 L) f0))) Tryz.func254
def aqo:FT (VL L):=kf [] (fc (K5 L) f0) Tryz.func50
def an8:FT (ajl L):=kf [(26,⟨[],[(1,⟨[],[],[(4,.v 3)]⟩),(2,⟨[],[],[]⟩)],c6 ⟨[],[],[(8,.v 3)]⟩⟩)] (fc (aqo L) f0) qb
def WR:FT (aoT L):=kf [] (fc (an8 L) f0) s6
def acI:FT (YS L):=kf [] (fc (WR L) f0) Tryz.func48
def aai:FT (aly L):=kf [(58,⟨[],[(2,⟨[],[(5,[],.aap 3 22)],[(5,.r 0)]⟩)],c6 ⟨[],[(5,[],.aap 3 22)],[(5,.r 0),(8,.v 3)]⟩⟩),(7475,⟨[],[(0,⟨[(0,false,.aap 3 22)],[],[(5,.r 0)]⟩)],c7⟩),(14950,⟨[2],[],c7⟩)] (fc (acI L) f0) o6
def Cm:FT (aib L):=kf [] (fc (aai L) f0) Tryz.func17
def adi:FT (ZV L):=kf [(58,⟨[],[(2,⟨[],[],[(3,.v 3)]⟩)],c6 ⟨[],[],[(3,.v 3),(11,.v 3)]⟩⟩),(250,⟨[],[(4,⟨[(0,false,.aap 3 22)],[],[(6,.r 0)]⟩)],c6 ⟨[(0,false,.aap 3 22)],[],[(6,.r 0),(27,.v 3)]⟩⟩)] (fc (abI L) f0) Tryz.func328
def aia:FT (afF L):=kf [] (fc (KB L) (fc (K5 L) f0)) Tryz.func71
def af3:FT (VX L):=kf [] f0 Tryz.func138
def Rr:FT (acv L):=kf [(12,⟨[],[(0,⟨[],[],[(20,.v 4)]⟩)],c7⟩)] (fc (K3 L) (fc (af3 L) (fc (SX L) f0))) Tryz.func77
def SB:FT (YY L):=kf [] f0 Tryz.func75
def Wr:FT (aeU L):=kf [] f0 Tryz.func259
def aqE:FT (akn L):=kf [(58,⟨[],[(2,⟨[(1,true,.aap 275 272)],[],[]⟩)],c6 ⟨[(1,true,.aap 275 272)],[],[(14,.v 3)]⟩⟩),(122,⟨[],[(4,⟨[(1,true,.aap 275 272)],[],[]⟩)],c6 ⟨[(1,true,.aap 275 272)],[],[(5,.v 4)]⟩⟩),(7475,⟨[],[(0,⟨[(1,true,.aap 275 272)],[],[]⟩)],c7⟩),(7830,⟨[],[(6,⟨[(1,true,.aap 275 272)],[],[(5,.v 4)]⟩)],c6 ⟨[(1,true,.aap 275 272)],[],[(5,.v 4),(32,.v 3)]⟩⟩),(2004582,⟨[],[(0,⟨[],[],[(73,.v 4)]⟩)],c7⟩),(2004583,⟨[],[(0,⟨[(1,true,.aap 275 272)],[],[(5,.v 4)]⟩)],c7⟩)] (fc (SB L) (fc (Wr L) f0)) Tryz.func193
def ZW:FT (ap5 L):=kf [] (fc (SB L) f0) Tryz.func194
def W9:FT (ahe L):=kf [(26,⟨[],[(1,⟨[],[],[(4,.v 3)]⟩),(2,⟨[],[],[]⟩)],c6 ⟨[],[],[(8,.v 3)]⟩⟩)] (fc (ZW L) f0) A4
def acT:FT (amH L):=kf [(250,⟨[],[(2,⟨[(2,false,.aap 3 22),(3,false,.dead)],[(4,[],.aap 3 22)],[(4,.r 4),(6,.r 2)]⟩)],c6 ⟨[(2,false,.aap 3 22),(3,false,.dead)],[(4,[],.aap 3 22),(9,[],.box 3 [.v 3])],[(4,.r 4),(6,.r 2),(9,.p 5)]⟩⟩),(16019,⟨[7,11],[],c7⟩)] (fc (aqE L) (fc (W9 L) f0)) Tryz.func117
def Qg:FT (V6 L):=kf [] (fc (jP L) f0) Tryz.func119
def afD:FT (aju L):=kf [(26,⟨[],[(1,⟨[],[],[(4,.v 3)]⟩),(2,⟨[],[],[]⟩)],c6 ⟨[],[],[(8,.v 3)]⟩⟩)] (fc (Qg L) f0) A4
def aky:FT (ao5 L):=kf [(122,⟨[],[(2,⟨[(0,true,.aap 174 167)],[],[(5,.v 3)]⟩)],c6 ⟨[(0,true,.aap 174 167)],[],[(5,.v 3),(6,.v 3)]⟩⟩),(126,⟨[2],[],c7⟩),(7827,⟨[],[(0,⟨[(0,true,.aap 174 167)],[],[(5,.v 3)]⟩)],c7⟩)] (fc (afD L) (fc (Qg L) f0)) Tryz.func118
def aio:FT (Y7 L):=kf [(58,⟨[],[(2,⟨[(3,true,.aap 4 168)],[],[]⟩)],c6 ⟨[(3,true,.aap 4 168)],[],[(31,.v 3)]⟩⟩),(122,⟨[],[(4,⟨[(3,true,.aap 4 168)],[],[]⟩)],c6 ⟨[(3,true,.aap 4 168)],[],[(46,.v 3)]⟩⟩),(250,⟨[],[(6,⟨[(4,true,.aap 4 168)],[],[]⟩)],c6 ⟨[(4,true,.aap 4 168)],[],[(58,.v 3)]⟩⟩),(506,⟨[],[(8,⟨[(5,true,.box 170 [.v 3,.r 6,.r 3,.r 4])],[(100005,[1],.aap 174 167)],[]⟩)],c6 ⟨[(5,true,.box 170 [.v 3,.r 6,.r 3,.r 4])],[(100005,[1],.aap 174 167)],[(70,.v 3)]⟩⟩),(8102,⟨[],[(0,⟨[(5,true,.box 170 [.v 3,.r 6,.r 3,.r 4]),(6,false,.aap 174 167)],[],[]⟩)],c7⟩),(518555,⟨[],[(0,⟨[(5,true,.box 170 [.v 3,.r 6,.r 3,.r 4]),(6,false,.aap 174 167)],[],[]⟩)],c7⟩),(518559,⟨[],[(0,⟨[(5,true,.box 170 [.v 3,.r 6,.r 3,.r 4]),(6,false,.aap 174 167)],[],[]⟩)],c7⟩),(1037110,⟨[9],[],c7⟩),(1037118,⟨[9],[],c7⟩)] (fc (jP L) (fc (Rr L) f0)) Tryz.func72
def Sr:FT (alI L):=kf [(2042,⟨[],[(2,⟨[(5,true,.aap 4 168)],[],[]⟩)],c6 ⟨[(5,true,.aap 4 168)],[],[(46,.v 3)]⟩⟩)] (fc (aia L) (fc (aio L) (fc (acT L) (fc (aky L) f0)))) Tryz.func52
def VW:FT (UY L):=kf [(58,⟨[],[(2,⟨[],[],[(5,.v 3)]⟩)],c6 ⟨[],[],[(5,.v 3),(11,.v 3)]⟩⟩),(14949,⟨[],[(0,⟨[],[],[(5,.v 3)]⟩)],c7⟩),(14951,⟨[],[(0,⟨[],[],[(5,.v 3)]⟩)],c7⟩)] (fc (Rr L) f0) Tryz.func29
def Tw:FT (abF L):=kf [] (fc (Sr L) (fc (VW L) f0)) Tryz.func203
def M3:FT (aod L):=kf [] (fc (Tw L) f0) Tryz.func305
def WD:FT (X6 L):=kf [(26,⟨[],[(1,⟨[],[],[(4,.v 3)]⟩),(2,⟨[],[],[]⟩)],c6 ⟨[],[],[(8,.v 3)]⟩⟩)] (fc (M3 L) f0) ee
def acu:FT (ad6 L):=kf [(122,⟨[],[(2,⟨[(0,true,.aap 3 22)],[],[(5,.v 3)]⟩)],c6 ⟨[(0,true,.aap 3 22)],[],[(5,.v 3),(6,.v 3)]⟩⟩),(126,⟨[2],[],c7⟩),(7827,⟨[],[(0,⟨[(0,true,.aap 3 22)],[],[(5,.v 3)]⟩)],c7⟩)] (fc (WD L) (fc (M3 L) f0)) y9
def Z8:FT (T9 L):=kf [(58,⟨[],[(1,⟨[(0,false,.aap 3 22)],[],[(2,.r 0)]⟩),(2,⟨[],[],[]⟩)],c6 ⟨[],[],[(3,.v 3)]⟩⟩),(59690,⟨[],[(4,⟨[(0,true,.aap 3 22)],[],[(3,.v 3)]⟩)],c6 ⟨[(0,true,.aap 3 22)],[],[(3,.v 3),(5,.v 3)]⟩⟩),(59694,⟨[2],[],c7⟩),(1910089,⟨[],[(0,⟨[(0,true,.aap 3 22)],[],[(3,.v 3)]⟩)],c7⟩)] f0 Tryz.func329
def afh:FT (aaG L):=kf [(6,⟨[2],[],c7⟩)] (fc (adi L) (fc (D5 L) (fc (Z8 L) f0))) Tryz.func304
def aj4:FT (agr L):=kf [(58,⟨[],[(2,⟨[],[(9,[],.aap 3 22)],[(9,.r 3)]⟩)],c6 ⟨[],[(9,[],.aap 3 22)],[(9,.r 3),(17,.v 3)]⟩⟩)] (fc (Cm L) (fc (afh L) (fc (acu L) f0))) Tryz.func255
def Qn:FT (alL L):=kf [] (fc (jP L) f0) Tryz.func257
def amP:FT (ade L):=kf [(26,⟨[],[(1,⟨[],[],[(4,.v 3)]⟩),(2,⟨[],[],[]⟩)],c6 ⟨[],[],[(8,.v 3)]⟩⟩)] (fc (Qn L) f0) ee
def akQ:FT (aiM L):=kf [(122,⟨[],[(2,⟨[(0,true,.aap 3 22)],[],[(5,.v 3)]⟩)],c6 ⟨[(0,true,.aap 3 22)],[],[(5,.v 3),(6,.v 3)]⟩⟩),(126,⟨[2],[],c7⟩),(7827,⟨[],[(0,⟨[(0,true,.aap 3 22)],[],[(5,.v 3)]⟩)],c7⟩)] (fc (amP L) (fc (Qn L) f0)) y9
def apO:FT (aoh L):=kf [] (fc (ant L) (fc (ali L) (fc (Lh L) (fc (aj4 L) (fc (oH L) (fc (akQ L) f0)))))) Tryz.func188
def afZ:FT (afy L):=kf [(1662,⟨[],[(0,⟨[],[],[(25,.v 4)]⟩)],c7⟩)] (fc (vO L) (fc (SK L) f0)) Tryz.func189
def Wi:FT (ak5 L):=kf [] (fc (RQ L) f0) Tryz.func190
def ab1:FT (Ud L):=kf [] (fc (BU L) f0) Tryz.func191
def ZJ:FT (ahV L):=kf [] (fc (BU L) f0) Tryz.func192
def aeT:FT (V8 L):=kf [(262138,⟨[],[(2,⟨[(2,true,.box 56 (abx amv [(35,.r 3)]))],[(100002,[35],.aap 83 54)],[]⟩)],c6 ⟨[(2,true,.box 56 (abx amv [(35,.r 3)]))],[(100002,[35],.aap 83 54)],[(104,.v 3)]⟩⟩),(33553715,⟨[3],[],c7⟩)] (fc (zh L) (fc (oh L) (fc (sP L) (fc (G7 L) (fc (iY L) (fc (SU L) (fc (Hc L) (fc (IE L) f0)))))))) s5
def acM:FT (afk L):=kf [] (fc (zh L) f0) Tryz.func103
def ahI:FT (apV L):=kf [(262138,⟨[],[(2,⟨[(2,true,.box 56 (abx amv [(19,.r 3),(20,.r 4),(35,.r 5)]))],[(100002,[35],.aap 83 54)],[]⟩)],c6 ⟨[(2,true,.box 56 (abx amv [(19,.r 3),(20,.r 4),(35,.r 5)]))],[(100002,[35],.aap 83 54)],[(104,.v 3)]⟩⟩),(33553715,⟨[3],[],c7⟩)] (fc (zh L) (fc (oh L) (fc (sP L) (fc (G7 L) (fc (iY L) (fc (Wv L) (fc (Hc L) (fc (IE L) f0)))))))) s5
def amm:FT (acQ L):=kf [] (fc (Ps L) (fc (jP L) (fc (K93 L) f0))) Tryz.func104
def akm:FT (VQ L):=kf [] (fc (K94 L) f0) Tryz.func105
def apf:FT (aff L):=kf [] (fc (mI L) (fc (Zr L) f0)) Tryz.func167
def am6:FT (YU L):=kf [(11,⟨[],[(0,⟨[(2,true,.box 133 (abx adU [(19,.r 0),(35,.r 1)]))],[],[]⟩)],c7⟩),(14,⟨[1002],[],c7⟩)] (fc (apf L) (fc (zQ L) (fc (Ch L) f0))) ya
def VC:FT (ahD L):=kf [(11,⟨[],[(0,⟨[(2,true,.box 133 (abx adU [(19,.r 0),(35,.r 1)]))],[],[]⟩)],c7⟩),(14,⟨[1002],[],c7⟩)] (fc (Vt L) (fc (zQ L) (fc (Ch L) f0))) ya
def ap3:FT (abq L):=kf [(60,⟨[],[(0,⟨[],[],[(43,.v 4)]⟩)],c7⟩)] (fc (V9 L) (fc (mI L) (fc (VC L) f0))) Tryz.func170
def Zk:FT (ajT L):=kf [(510,⟨[7],[],c7⟩),(65530,⟨[],[(3,⟨[(0,true,.aap 101 41),(1,true,.aap 83 54),(2,true,.box 133 (abx adU [(19,.r 0),(35,.r 1)])),(3,false,.dead),(4,true,.box 130 [.p 2]),(8,false,.dead)],[],[]⟩)],c6 ⟨[(0,true,.aap 101 41),(1,true,.aap 83 54),(2,true,.box 133 (abx adU [(19,.r 0),(35,.r 1)])),(3,false,.dead),(4,true,.box 130 [.p 2]),(8,true,.box 120 (alh [22,3,3,3]))],[],[(135,.v 3)]⟩⟩),(131066,⟨[],[(5,⟨[(0,true,.aap 101 41),(1,true,.aap 83 54),(2,true,.box 133 (abx adU [(19,.r 0),(35,.r 1)]))],[],[]⟩)],c6 ⟨[(0,true,.aap 101 41),(1,true,.aap 83 54),(2,true,.box 133 (abx adU [(19,.r 0),(35,.r 1)]))],[],[(154,.v 3)]⟩⟩),(4193944,⟨[],[(0,⟨[(3,false,.dead)],[(11,[],.box 251 (alh [3,3,3,3]))],[(11,.p 9)]⟩)],c7⟩),(16776499,⟨[],[(0,⟨[(0,true,.aap 101 41),(1,true,.aap 83 54),(2,true,.box 133 (abx adU [(19,.r 0),(35,.r 1)]))],[],[]⟩)],c7⟩)] (fc (K5 L) (fc (Xd L) (fc (afL L) (fc (acy L) (fc (aac L) (fc (am6 L) (fc (iY L) (fc (jP L) (fc (ap3 L) f0))))))))) Tryz.func106
def aen:FT (adV L):=kf [(30,⟨[1002],[],c7⟩),(58,⟨[],[(0,⟨[],[],[(55,.v 4)]⟩)],c7⟩)] (fc (aiW L) (fc (mI L) (fc (ahn L) (fc (zQ L) (fc (Ch L) f0))))) Tryz.func107
def acf:FT (al7 L):=kf [(14,⟨[12],[],c7⟩),(125,⟨[],[(0,⟨[(5,true,.aap 3 22)],[],[]⟩),(1,⟨[],[],[(4,.v 67)]⟩)],c7⟩),(4014,⟨[],[(2,⟨[(5,true,.aap 3 22)],[],[]⟩)],c6 ⟨[(5,true,.aap 3 22)],[],[(89,.v 3)]⟩⟩)] (fc (K5 L) (fc (mI L) (fc (aa7 L) (fc (Vg L) (fc (QV L) f0))))) Tryz.func108
def ahd:FT (agf L):=kf [] (fc (K5 L) (fc (UO L) (fc (abr L) (fc (ags L) (fc (an5 L) (fc (Um L) (fc (mI L) (fc (aqC L) f0)))))))) Tryz.func109
def ae8:FT (aoB L):=kf [] (fc (mI L) (fc (agi L) f0)) Tryz.func110
def ajV:FT (aby L):=kf [] (fc (mI L) (fc (ak7 L) f0)) Tryz.func111
def ahQ:FT (Uo L):=kf [] (fc (mI L) (fc (ai1 L) f0)) Tryz.func112
def Sd:FT (adZ L):=kf [(62,⟨[],[(0,⟨[(3,true,.box 133 (abx adU [(19,.r 0),(20,.r 1),(35,.r 2)])),(4,true,.aap 90 36),(6,false,.dead)],[],[]⟩)],c7⟩),(509,⟨[],[(0,⟨[(3,true,.box 133 (abx adU [(19,.r 0),(20,.r 1),(35,.r 2)]))],[],[]⟩),(1,⟨[(3,true,.box 133 (abx adU [(19,.r 0),(20,.r 1),(35,.r 2)]))],[],[(4,.v 67)]⟩)],c7⟩),(2036,⟨[1002],[],c7⟩)] (fc (VN L) (fc (oh L) (fc (yo L) (fc (mI L) (fc (Lh L) (fc (zQ L) (fc (Ch L) (fc (Z2 L) f0)))))))) Tryz.func187
def U8:FT (W7 L):=kf [] (fc (RN L) (fc (Sd L) f0)) yk
def apA:FT (agl L):=kf [] (fc (RN L) (fc (Sd L) f0)) yk
def YM:FT (Z7 L):=kf [(12,⟨[],[(0,⟨[],[],[(40,.v 4)]⟩)],c7⟩),(254,⟨[13],[],c7⟩),(506,⟨[],[(2,⟨[],[],[(6,.v 22)]⟩)],c6 ⟨[],[(6,[],.aap 3 22)],[(6,.r 6),(62,.v 3)]⟩⟩),(2045,⟨[],[(0,⟨[(3,true,.box 133 (abx adU [(19,.r 0),(20,.r 1),(35,.r 2)]))],[],[]⟩)],c7⟩),(16362,⟨[],[(4,⟨[(3,true,.box 133 (abx adU [(19,.r 0),(20,.r 1),(35,.r 2)]))],[],[]⟩)],c6 ⟨[(3,true,.box 133 (abx adU [(19,.r 0),(20,.r 1),(35,.r 2)]))],[],[(105,.v 3)]⟩⟩),(64819,⟨[],[(0,⟨[(6,false,.aap 3 22)],[],[(6,.r 6)]⟩)],c7⟩),(129638,⟨[3],[],c7⟩),(4188775,⟨[],[(0,⟨[(3,true,.box 133 (abx adU [(19,.r 0),(20,.r 1),(35,.r 2)]))],[],[]⟩)],c7⟩)] (fc (K5 L) (fc (mI L) (fc (Nz L) (fc (apO L) (fc (QV L) (fc (apA L) f0)))))) Tryz.func114
def V5:FT (aiD L):=kf [(29,⟨[],[(0,⟨[(3,true,.box 133 (abx adU [(19,.r 0),(20,.r 1),(35,.r 2)]))],[],[]⟩),(1,⟨[(3,true,.box 133 (abx adU [(19,.r 0),(20,.r 1),(35,.r 2)]))],[],[(4,.v 67)]⟩)],c7⟩),(61,⟨[],[(0,⟨[(3,true,.box 133 (abx adU [(19,.r 0),(20,.r 1),(35,.r 2)]))],[],[]⟩),(1,⟨[(3,true,.box 133 (abx adU [(19,.r 0),(20,.r 1),(35,.r 2)]))],[],[(4,.v 67)]⟩)],c7⟩),(250,⟨[],[(1,⟨[(3,true,.box 133 (abx adU [(19,.r 0),(20,.r 1),(35,.r 2)]))],[],[(4,.v 67)]⟩),(2,⟨[(3,true,.box 133 (abx adU [(19,.r 0),(20,.r 1),(35,.r 2)]))],[],[]⟩)],c6 ⟨[(3,true,.box 133 (abx adU [(19,.r 0),(20,.r 1),(35,.r 2)]))],[],[(73,.v 3)]⟩⟩),(64101,⟨[],[(0,⟨[(3,true,.box 133 (abx adU [(19,.r 0),(20,.r 1),(35,.r 2)]))],[],[]⟩),(1,⟨[(3,true,.box 133 (abx adU [(19,.r 0),(20,.r 1),(35,.r 2)]))],[],[(4,.v 67)]⟩)],c7⟩),(64103,⟨[],[(0,⟨[(3,true,.box 133 (abx adU [(19,.r 0),(20,.r 1),(35,.r 2)]))],[],[]⟩),(1,⟨[(3,true,.box 133 (abx adU [(19,.r 0),(20,.r 1),(35,.r 2)]))],[],[(4,.v 67)]⟩)],c7⟩)] (fc (Ps L) (fc (mI L) (fc (afZ L) (fc (Wi L) (fc (ab1 L) (fc (ZJ L) f0)))))) Tryz.func115
def NW:FT (ZG L):=kf [(507,⟨[],[(0,⟨[(3,true,.aap 101 41),(4,false,.dead),(5,true,.aap 83 54),(6,true,.box 133 (abx adU [(19,.r 3),(35,.r 5)]))],[],[(7,.v 67)]⟩)],c7⟩),(1014,⟨[],[(0,⟨[(3,true,.aap 101 41),(4,false,.dead),(5,true,.aap 83 54),(6,true,.box 133 (abx adU [(19,.r 3),(35,.r 5)]))],[],[(7,.v 67)]⟩)],c7⟩),(1021,⟨[],[(0,⟨[(3,false,.dead),(5,false,.dead),(7,true,.box 56 (abx amv [(35,.r 8)]))],[(100007,[35],.aap 83 54)],[]⟩)],c7⟩),(1022,⟨[12],[],c7⟩),(4084,⟨[1],[],c7⟩),(8171,⟨[],[(0,⟨[(7,true,.box 56 (abx amv [(35,.r 8)]))],[],[]⟩)],c7⟩)] (fc (K87 L) (fc (ahI L) (fc (K88 L) (fc (acM L) (fc (amm L) (fc (akm L) (fc (Zk L) (fc (aen L) (fc (acf L) (fc (ahd L) (fc (ae8 L) (fc (ajV L) (fc (ahQ L) (fc (U8 L) (fc (YM L) (fc (V5 L) (fc (aeT L) f0))))))))))))))))) Tryz.func15
def Zy:FT (afr L):=kf [(26,⟨[],[(2,⟨[(0,true,.box 56 amv)],[],[]⟩)],c6 ⟨[(0,true,.box 56 amv)],[],[(9,.v 3)]⟩⟩)] (fc (NW L) (fc (NB L) f0)) Tryz.func20
def aeE:FT (ak3 L):=kf [(6,⟨[0],[],c7⟩)] f0 Tryz.func65
def ajt:FT (ZY L):=kf [] (fc (Bs L) f0) Tryz.func195
def ahw:FT (akB L):=kf [(26,⟨[],[(1,⟨[],[],[(4,.v 3)]⟩),(2,⟨[],[],[]⟩)],c6 ⟨[],[],[(8,.v 3)]⟩⟩)] (fc (ajt L) f0) qb
def amc:FT (anU L):=kf [] (fc (ahw L) f0) s6
def Q9:FT (afg L):=kf [(26,⟨[],[(1,⟨[],[],[(4,.b false)]⟩),(2,⟨[],[],[]⟩)],c6 ⟨[],[],[(11,.v 3)]⟩⟩)] (fc (Cm L) (fc (jP L) (fc (amc L) f0))) Tryz.func122
def ao4:FT (akN L):=kf [] (fc (Q9 L) f0) Tryz.func121
def Yd:FT (aqp L):=kf [] (fc (Q9 L) f0) Tryz.func123
def Vq:FT (afp L):=kf [] (fc (jP L) f0) Tryz.func260
def abl:FT (ap0 L):=kf [(58,⟨[],[(2,⟨[],[(5,[],.aap 3 22)],[(5,.r 0)]⟩)],c6 ⟨[],[(5,[],.aap 3 22)],[(5,.r 0),(8,.v 3)]⟩⟩),(7475,⟨[],[(0,⟨[(0,false,.aap 3 22)],[],[(5,.r 0)]⟩)],c7⟩),(14950,⟨[2],[],c7⟩)] (fc (Vq L) f0) o6
def MS:FT (aha L):=kf [] (fc (abl L) f0) Tryz.func197
def aee:FT (amC L):=kf [(12,⟨[],[(0,⟨[],[],[(21,.v 4)]⟩)],c7⟩)] (fc (MS L) (fc (MA L) f0)) Tryz.func124
def ab2:FT (abQ L):=kf [] (fc (jP L) f0) Tryz.func199
def ag0:FT (ama L):=kf [(26,⟨[],[(1,⟨[],[],[(4,.v 3)]⟩),(2,⟨[],[],[]⟩)],c6 ⟨[],[],[(8,.v 3)]⟩⟩)] (fc (ab2 L) f0) q7
def alJ:FT (apP L):=kf [] (fc (ag0 L) f0) q8
def ajM:FT (agW L):=kf [] (fc (alJ L) f0) Tryz.func126
def aoE:FT (amn L):=kf [] (fc (ajM L) f0) Tryz.func125
def R7:FT (VE L):=kf [] (fc (jP L) f0) Tryz.func133
def UX:FT (aje L):=kf [(26,⟨[],[(1,⟨[],[],[(4,.v 3)]⟩),(2,⟨[],[],[]⟩)],c6 ⟨[],[],[(8,.v 3)]⟩⟩)] (fc (R7 L) f0) ee
def api:FT (aoP L):=kf [] (fc (UX L) f0) ez
def Yx:FT (YN L):=kf [] (fc (R7 L) f0) Tryz.func134
def adK:FT (alu L):=kf [(26,⟨[],[(1,⟨[],[],[(4,.v 3)]⟩),(2,⟨[],[],[]⟩)],c6 ⟨[],[],[(8,.v 3)]⟩⟩)] (fc (Yx L) f0) ee
def abD:FT (UH L):=kf [] (fc (adK L) f0) ez
def agy:FT (abm L):=kf [(126,⟨[4],[],c7⟩)] (fc (HE L) (fc (api L) (fc (abD L) f0))) Tryz.func69
def aet:FT (anY L):=kf [(58,⟨[],[(2,⟨[(2,true,.box 90 [.v 3,.v 3])],[],[]⟩)],c6 ⟨[(2,true,.box 90 [.v 3,.v 3])],[],[(18,.v 3)]⟩⟩),(59802,⟨[],[(4,⟨[],[],[(10,.v 3),(11,.v 3)]⟩)],c6 ⟨[],[],[(10,.v 3),(11,.v 3),(26,.v 3)]⟩⟩),(59805,⟨[],[(0,⟨[(2,true,.box 90 [.v 3,.v 3])],[],[]⟩)],c7⟩),(30618829,⟨[],[(0,⟨[],[],[(10,.v 3)]⟩)],c7⟩),(30618831,⟨[],[(0,⟨[],[],[(11,.v 3)]⟩)],c7⟩)] (fc (agy L) f0) Tryz.func27
def aji:FT (Xq L):=kf [] (fc (aet L) (fc (MS L) (fc (K5 L) f0))) Tryz.func127
def aoc:FT (adL L):=kf [] f0 Tryz.func264
def alZ:FT (aqr L):=kf [(26,⟨[],[(1,⟨[],[],[(4,.v 3)]⟩),(2,⟨[],[],[]⟩)],c6 ⟨[],[],[(8,.v 3)]⟩⟩)] (fc (aoc L) f0) Tryz.func306
def Us:FT (aal L):=kf [] (fc (alZ L) f0) Tryz.func263
def SZ:FT (aga L):=kf [] (fc (Us L) f0) Tryz.func202
def X5:FT (Ua L):=kf [] (fc (SZ L) f0) Tryz.func201
def Va:FT (afK L):=kf [(26,⟨[],[(1,⟨[],[],[(4,.v 3)]⟩),(2,⟨[],[],[]⟩)],c6 ⟨[],[],[(8,.v 3)]⟩⟩)] (fc (X5 L) f0) Tryz.func262
def aa4:FT (aqg L):=kf [] (fc (Va L) f0) Tryz.func200
def af6:FT (aab L):=kf [] (fc (aa4 L) f0) Tryz.func128
def ad5:FT (afU L):=kf [(28,⟨[],[(0,⟨[],[],[(40,.v 4)]⟩)],c7⟩),(506,⟨[],[(1,⟨[],[],[(2,.b false)]⟩),(2,⟨[],[],[]⟩)],c6 ⟨[],[],[(48,.v 3)]⟩⟩),(129638,⟨[],[(1,⟨[],[],[(2,.b false)]⟩),(4,⟨[],[],[]⟩)],c6 ⟨[],[],[(59,.v 3)]⟩⟩),(16593714,⟨[],[(0,⟨[],[],[(74,.v 4)]⟩)],c7⟩)] (fc (Cm L) (fc (Tw L) (fc (SZ L) f0))) Tryz.func129
def anV:FT (Wk L):=kf [] (fc (PS L) (fc (sA L) (fc (vO L) f0))) Tryz.func130
def agJ:FT (acO L):=kf [(58,⟨[],[(2,⟨[],[],[(3,.v 22)]⟩)],c6 ⟨[],[(3,[],.aap 3 22)],[(3,.r 1),(8,.v 3)]⟩⟩),(7474,⟨[],[(0,⟨[],[],[(16,.v 4)]⟩)],c7⟩),(7475,⟨[],[(0,⟨[(1,false,.aap 3 22)],[],[(3,.r 1)]⟩)],c7⟩),(14950,⟨[3],[],c7⟩)] (fc (aeE L) (fc (ao4 L) (fc (Yd L) (fc (aee L) (fc (aoE L) (fc (aji L) (fc (af6 L) (fc (ad5 L) (fc (anV L) f0))))))))) Tryz.func23
def alw:FT (aih L):=kf [(62,⟨[3,6],[],c7⟩),(126,⟨[1,3,4,5,6,8,10],[],c7⟩),(254,⟨[6],[],c7⟩)] (fc (Py L) (fc (Zy L) (fc (agJ L) f0))) Tryz.func9
def ajw:FT (Zq L):=kf [] f0 Tryz.func10
def aor:FT (afa L):=kf [] f0 Tryz.func19
def oC:FT (akI L):=kf [] (fc (aor L) f0) Tryz.func13
def zn:FT (abV L):=kf [] (fc (oC L) f0) Tryz.func32
def tf:FT (ahA L):=kf [] (fc (oC L) f0) Tryz.func40
def Yf:FT (am1 L):=kf [(61,⟨[],[(0,⟨[],[],[(4,.v 3)]⟩)],c7⟩),(250,⟨[],[(2,⟨[(0,true,.box 122 [.v 22,.v 3]),(2,true,.box 30 [.v 27,.r 3])],[(100002,[1],.aap 115 28)],[]⟩)],c6 ⟨[(0,true,.box 122 [.v 22,.v 3]),(2,true,.box 30 [.r 3,.r 4])],[(100002,[0],.aap 117 27),(100002,[1],.aap 115 28)],[(5,.v 3)]⟩⟩),(1018,⟨[],[(4,⟨[(0,true,.box 122 [.v 22,.v 3]),(2,true,.box 30 [.v 27,.r 3]),(3,false,.aap 115 28)],[],[]⟩)],c6 ⟨[(0,true,.box 122 [.v 22,.v 3]),(2,true,.box 30 [.v 27,.r 3]),(3,false,.aap 115 28)],[],[(7,.v 3)]⟩⟩),(2042,⟨[],[(6,⟨[(0,true,.box 122 [.v 22,.v 3]),(2,true,.box 30 [.v 27,.r 3]),(3,false,.aap 115 28)],[],[]⟩)],c6 ⟨[(0,true,.box 122 [.v 22,.v 3]),(2,true,.box 30 [.v 27,.r 3]),(3,false,.aap 115 28)],[],[(9,.v 3)]⟩⟩),(4004,⟨[12],[(0,⟨[(0,true,.box 122 [.v 22,.v 3]),(2,true,.box 30 [.r 3,.r 4]),(3,false,.aap 117 27)],[],[]⟩)],c7⟩),(16336,⟨[],[(0,⟨[],[],[(83,.v 4)]⟩)],c7⟩),(65170,⟨[9,13],[],c7⟩),(65171,⟨[3],[],c7⟩),(130706,⟨[7,11],[],c7⟩),(522831,⟨[],[(0,⟨[(2,true,.box 30 [.v 27,.r 3]),(3,false,.aap 115 28)],[],[]⟩)],c7⟩),(1045662,⟨[3],[],c7⟩)] (fc (oC L) (fc (zn L) (fc (tf L) f0))) Tryz.func37
def adv:FT (aeh L):=kf [(58,⟨[],[(2,⟨[(0,true,.box 122 [.v 22,.v 3])],[],[(5,.v 22)]⟩)],c6 ⟨[(0,true,.box 122 [.v 22,.v 3])],[(5,[],.aap 3 22)],[(5,.r 1),(6,.v 3)]⟩⟩),(1865,⟨[],[(0,⟨[(1,false,.aap 3 22)],[],[(5,.r 1)]⟩)],c7⟩),(3730,⟨[2],[],c7⟩)] (fc (oC L) f0) Tryz.func24
def abn:FT (ajQ L):=kf [(58,⟨[],[(2,⟨[(0,true,.box 122 [.v 22,.v 3])],[],[(5,.v 32)]⟩)],c6 ⟨[(0,true,.box 122 [.v 22,.v 3])],[(5,[],.aap 120 32)],[(5,.r 2),(6,.v 3)]⟩⟩),(1864,⟨[6,12],[],c7⟩),(3731,⟨[2],[],c7⟩),(7461,⟨[],[(0,⟨[(0,true,.box 122 [.v 22,.v 3]),(3,true,.box 120 (alh [22,3,3,3]))],[],[]⟩)],c7⟩),(14922,⟨[5],[],c7⟩)] (fc (oC L) (fc (adv L) (fc (tf L) f0))) Tryz.func38
def agq:FT (apq L):=kf [(58,⟨[],[(2,⟨[(0,true,.box 122 [.v 22,.v 3])],[],[(5,.v 36)]⟩)],c6 ⟨[(0,true,.box 122 [.v 22,.v 3])],[(5,[],.aap 90 36)],[(5,.r 2),(6,.v 3)]⟩⟩),(1864,⟨[1],[],c7⟩),(3730,⟨[3,8,12],[],c7⟩),(7463,⟨[],[(0,⟨[(2,true,.aap 90 36)],[],[]⟩)],c7⟩)] (fc (tf L) (fc (zn L) f0)) Tryz.func39
def alb:FT (Zt L):=kf [] f0 Tryz.func275
def ai4:FT (al3 L):=kf [(12,⟨[],[(0,⟨[],[],[(16,.v 4)]⟩)],c7⟩),(58,⟨[],[(1,⟨[],[],[(2,.i .i64 1)]⟩),(2,⟨[],[],[]⟩)],c6 ⟨[],[],[(3,.v 3)]⟩⟩),(122,⟨[],[(1,⟨[],[],[(2,.v 67)]⟩),(4,⟨[],[],[]⟩)],c6 ⟨[],[],[(5,.v 3)]⟩⟩),(3730,⟨[],[(0,⟨[],[],[(35,.v 4)]⟩)],c7⟩),(15652,⟨[],[(0,⟨[],[],[(78,.v 4)]⟩)],c7⟩),(15654,⟨[],[(0,⟨[],[],[(108,.v 4)]⟩)],c7⟩)] (fc (alb L) f0) Tryz.func219
def an1:FT (Vh L):=kf [] f0 Tryz.func220
def alK:FT (abZ L):=kf [(12,⟨[],[(0,⟨[],[],[(48,.v 4)]⟩)],c7⟩),(509,⟨[],[(0,⟨[],[],[(17,.v 3)]⟩)],c7⟩),(1021,⟨[],[(0,⟨[],[],[(17,.v 3)]⟩)],c7⟩)] (fc (ai4 L) (fc (an1 L) f0)) Tryz.func151
def Uk:FT (aox L):=kf [] (fc (alK L) f0) Tryz.func91
def aaa:FT (Yn L):=kf [(26,⟨[],[(1,⟨[],[],[(4,.b true)]⟩),(2,⟨[],[],[]⟩)],c6 ⟨[],[],[(5,.v 3)]⟩⟩)] f0 Tryz.func26
def Xt:FT (ael L):=kf [(58,⟨[],[(2,⟨[],[],[(5,.v 22)]⟩)],c6 ⟨[],[(5,[],.aap 3 22)],[(5,.r 1),(6,.v 3)]⟩⟩),(3730,⟨[],[(0,⟨[],[],[(8,.v 4)]⟩)],c7⟩),(7462,⟨[],[(0,⟨[],[],[(47,.v 4)]⟩)],c7⟩),(7463,⟨[],[(0,⟨[(1,false,.aap 3 22)],[],[(5,.r 1)]⟩)],c7⟩),(14926,⟨[2],[],c7⟩)] (fc (Uk L) (fc (aaa L) f0)) Tryz.func41
def ada:FT (Ul L):=kf [(250,⟨[],[(2,⟨[(0,true,.box 122 [.v 22,.v 3]),(2,true,.box 60 [.v 27,.v 28,.v 32,.v 22,.v 22,.v 36,.v 22,.v 22,.v 22,.i .i64 0,.v 22,.i .i64 0,.i .i64 0,.v 22])],[],[]⟩)],c6 ⟨[(0,true,.box 122 [.v 22,.v 3]),(2,true,.box 60 [.v 27,.v 28,.v 32,.r 3,.r 4,.v 36,.v 22,.v 22,.v 22,.i .i64 0,.v 22,.i .i64 0,.i .i64 0,.v 22])],[(100002,[3],.aap 3 22),(100002,[4],.aap 3 22)],[(5,.v 3)]⟩⟩),(254,⟨[1],[],c7⟩),(1021,⟨[],[(0,⟨[(0,true,.box 122 [.v 22,.v 3]),(2,true,.box 60 [.v 27,.v 28,.v 32,.v 22,.v 22,.v 36,.v 22,.v 22,.v 22,.v 3,.v 22,.i .i64 0,.i .i64 0,.v 22])],[],[]⟩)],c7⟩),(1022,⟨[2,4,8],[],c7⟩),(2042,⟨[3],[],c7⟩),(4004,⟨[5,12],[],c7⟩),(4092,⟨[],[(0,⟨[(0,true,.box 122 [.v 22,.v 3])],[],[(77,.v 4)]⟩)],c7⟩),(4093,⟨[],[(0,⟨[(2,true,.box 60 (alh [27,28,32,22,22,36,22,22,22,3,22,3,3,22]))],[],[]⟩)],c7⟩),(8186,⟨[4],[],c7⟩),(16380,⟨[],[(0,⟨[(0,true,.box 122 [.v 22,.v 3])],[],[(99,.v 4)]⟩)],c7⟩),(32762,⟨[6],[],c7⟩)] (fc (Yf L) (fc (abn L) (fc (oC L) (fc (agq L) (fc (tf L) (fc (zn L) (fc (Xt L) f0))))))) Tryz.func12
def aaR:FT (aaU L):=kf [] (fc (Py L) f0) Tryz.func11
def afT:FT (agD L):=kf [(6,⟨[1],[],c7⟩),(117,⟨[],[(0,⟨[(0,true,.box 122 [.v 22,.v 3]),(2,true,.box 65 (alh [3,3,3,3]))],[],[]⟩)],c7⟩),(234,⟨[1],[],c7⟩),(942,⟨[7],[],c7⟩),(3774,⟨[4,7],[],c7⟩),(120831,⟨[],[(0,⟨[(0,true,.box 122 [.v 22,.v 3]),(2,true,.box 65 [.v 3,.v 3,.v 3,.i .i64 0])],[],[]⟩)],c7⟩),(3866621,⟨[],[(0,⟨[],[],[(82,.v 4)]⟩)],c7⟩),(61865981,⟨[],[(0,⟨[],[],[(95,.v 4)]⟩)],c7⟩)] (fc (tf L) (fc (oC L) f0)) Tryz.func42
def adO:FT (WZ L):=kf [(58,⟨[],[(2,⟨[(0,true,.box 122 [.v 22,.v 3])],[],[(7,.v 62)]⟩)],c6 ⟨[(0,true,.box 122 [.v 22,.v 3])],[(7,[],.aap 65 62)],[(7,.r 2),(8,.v 3)]⟩⟩),(464,⟨[],[(0,⟨[],[],[(21,.v 4)]⟩)],c7⟩),(466,⟨[],[(0,⟨[(0,true,.box 122 [.v 22,.v 3]),(2,false,.aap 65 62)],[],[(7,.r 2)]⟩)],c7⟩),(3731,⟨[25],[],c7⟩),(7460,⟨[],[(0,⟨[(0,true,.box 122 [.v 22,.v 3])],[],[(54,.v 4)]⟩)],c7⟩),(29834,⟨[5],[],c7⟩),(59666,⟨[],[(4,⟨[(2,false,.aap 65 62)],[],[(7,.r 2)]⟩)],c6 ⟨[(2,false,.aap 65 62)],[],[(7,.r 2),(9,.v 3)]⟩⟩),(59690,⟨[3,9,12],[],c7⟩),(954660,⟨[3],[],c7⟩)] (fc (oC L) (fc (zn L) (fc (tf L) (fc (afT L) f0)))) Tryz.func14
def ati:FT (avQ L):=kf [(26,⟨[],[(1,⟨[(0,false,.dead)],[],[(4,.v 3),(5,.v 22)]⟩),(2,⟨[(0,false,.dead)],[],[]⟩)],c6 ⟨[(0,true,.box 56 amv)],[],[(11,.v 3)]⟩⟩)] (fc (NW L) (fc (agJ L) f0)) Tryz.func21
def as9:FT (atC L):=kf [(12,⟨[],[(0,⟨[],[],[(22,.v 4)]⟩)],c7⟩),(58,⟨[],[(1,⟨[],[],[(4,.b false)]⟩),(2,⟨[],[],[]⟩)],c6 ⟨[],[],[(5,.v 3)]⟩⟩),(122,⟨[],[(1,⟨[],[],[(4,.b false)]⟩),(4,⟨[],[],[]⟩)],c6 ⟨[],[],[(6,.v 3)]⟩⟩)] f0 Tryz.func54
def aqc:FT (arE L):=kf [(58,⟨[],[(1,⟨[],[],[(4,.b false)]⟩),(2,⟨[],[],[]⟩)],c6 ⟨[],[],[(5,.v 3)]⟩⟩)] f0 Tryz.func57
def auC:FT (avh L):=kf [(12,⟨[],[(0,⟨[],[],[(73,.v 4)]⟩)],c7⟩),(58,⟨[],[(1,⟨[],[],[(4,.b false)]⟩),(2,⟨[],[],[]⟩)],c6 ⟨[],[],[(5,.v 3)]⟩⟩),(122,⟨[],[(1,⟨[],[],[(4,.b false)]⟩),(4,⟨[],[],[]⟩)],c6 ⟨[],[],[(6,.v 3)]⟩⟩),(250,⟨[],[(1,⟨[],[],[(4,.b false)]⟩),(6,⟨[],[],[]⟩)],c6 ⟨[],[],[(9,.v 3)]⟩⟩),(7826,⟨[],[(0,⟨[],[],[(135,.v 4)]⟩)],c7⟩)] (fc (as9 L) (fc (aqc L) f0)) Tryz.func53
def aui:FT (avs L):=kf [(58,⟨[],[(1,⟨[],[],[(4,.b false)]⟩),(2,⟨[],[],[]⟩)],c6 ⟨[],[],[(5,.v 3)]⟩⟩)] f0 Tryz.func55
def au0:FT (av4 L):=kf [] (fc (aqc L) f0) Tryz.func56
def asA:FT (arZ L):=kf [] (fc (aqc L) f0) Tryz.func35
def avn:FT (avF L):=kf [(58,⟨[],[(1,⟨[],[],[(4,.b false)]⟩),(2,⟨[],[],[]⟩)],c6 ⟨[],[],[(5,.v 3)]⟩⟩)] (fc (asA L) f0) Tryz.func58
def avT:FT (atl L):=kf [] (fc (aqc L) f0) Tryz.func59
def avH:FT (auj L):=kf [] (fc (aqc L) f0) Tryz.func120
def atd:FT (avV L):=kf [(58,⟨[],[(1,⟨[],[],[(4,.b false)]⟩),(2,⟨[],[],[]⟩)],c6 ⟨[],[],[(5,.v 3)]⟩⟩),(7460,⟨[],[(0,⟨[],[],[(47,.v 4)]⟩)],c7⟩),(14926,⟨[],[(1,⟨[],[],[(4,.b false)]⟩),(4,⟨[],[],[]⟩)],c6 ⟨[],[],[(8,.v 3)]⟩⟩)] (fc (aqc L) (fc (avH L) f0)) Tryz.func60
def av1:FT (atM L):=kf [] (fc (aqc L) f0) Tryz.func61
def atK:FT (auK L):=kf [] (fc (aqc L) f0) Tryz.func62
def atn:FT (atb L):=kf [(58,⟨[],[(1,⟨[],[],[(4,.b false)]⟩),(2,⟨[],[],[]⟩)],c6 ⟨[],[],[(5,.v 3)]⟩⟩)] f0 Tryz.func63
def aue:FT (at9 L):=kf [(58,⟨[],[(1,⟨[],[],[(4,.b false)]⟩),(2,⟨[],[],[]⟩)],c6 ⟨[],[],[(5,.v 3)]⟩⟩),(1864,⟨[],[(0,⟨[],[],[(67,.v 4)]⟩)],c7⟩)] (fc (aqc L) f0) Tryz.func64
def auV:FT (auZ L):=kf [] (fc (auC L) (fc (as9 L) (fc (aui L) (fc (au0 L) (fc (aqc L) (fc (avn L) (fc (avT L) (fc (atd L) (fc (av1 L) (fc (atK L) (fc (atn L) (fc (aue L) f0)))))))))))) Tryz.func22
def auH:FT (asp L):=kf [(508,⟨[],[(0,⟨[],[],[(42,.v 4)]⟩)],c7⟩),(32764,⟨[],[(0,⟨[],[],[(89,.v 4)]⟩)],c7⟩),(262138,⟨[],[(2,⟨[],[],[(17,.v 62)]⟩)],c6 ⟨[],[(17,[],.aap 65 62)],[(17,.r 6),(18,.v 3)]⟩⟩),(4194212,⟨[7],[],c7⟩)] (fc (K0 L) (fc (alw L) (fc (ajw L) (fc (ada L) (fc (aaR L) (fc (adO L) (fc (aor L) (fc (Zy L) (fc (ati L) (fc (auV L) (fc (agJ L) f0))))))))))) Tryz.func4
end Go.X.T
namespace Go.X.T
open Go Go.Aml
def ae2{a:Int}(b: -9223372036854775808<=a)(c:a<=9223372036854775807):c3 c4 a=a:=by
 rw[h8];omega
def aoI{a:Int}(b:0<=a)(c:a<=255):Kr.wrap a=a:=by
 unfold yl;simp[yn,u0];omega
def U3{a:Int}(b:0<=a)(c:a<=18446744073709551615):E3.wrap a=a:=by
 unfold yl;simp[yn,u0];omega
def Ok{b:Type}(c:Option b)(Q:b->Prop):Prop:=∃a,c=c6 a/\Q a
def ae{b:Type}{a:b}{Q:b->Prop}(c:Q a):Ok (c6 a) Q:=⟨a,rfl,c⟩
def aD{b c:Type}{e:Option b}{d:b->Option c}{Q:b->Prop}{f:c->Prop}(h:Ok e Q)(g:∀a,Q a->Ok (d a) f):Ok (e.bind d) f:=by
 obtain⟨a,rfl,i⟩:=h;exact g a i
def alt{b:Type}{c:Option b}{Q d:b->Prop}(f:Ok c Q)(e:∀a,Q a->d a):Ok c d:=by
 obtain⟨a,h,g⟩:=f;exact⟨a,h,e a g⟩
def dy{e:Type}{a:Bool}{d c:Option e}{b:e->Prop}(g:a=true->Ok d b)(f:a=false->Ok c b):Ok (bif a then d else c) b:=by
 cases a with
 |true=>exact g rfl
 |false=>exact f rfl
def aV{e:Type}{p:Prop}[Decidable p]{d c:Option e}{b:e->Prop}(g:p->Ok d b)(f:¬p->Ok c b):Ok (bif decide p then d else c) b:=
 dy (λa=>g (of_decide_eq_true a)) (λa=>f (of_decide_eq_false a))
def ok_eq{b:Type}{d:Option b}{a:b}{c:b->Prop}(f:d=c6 a)(e:c a):Ok d c:=⟨a,f,e⟩
def c8{b c:Type}{m:Option b}{a:b}{d:b->Option c}{e:c->Prop}(g:m=c6 a)(f:Ok (d a) e):Ok (m.bind d) e:=by subst g;exact f
def Ok.val{c:Type}{m:Option c}{a:c}(h:Ok m (·=a)):m=c6 a:=by
 obtain⟨b,h,rfl⟩:=h;exact h
def aC{c:Type}{p:Prop}[Decidable p]{a b:c}(d:p:=by omega):(bif decide p then a else b)=a:=by rw[decide_eq_true d];rfl
def aG{b:Type}{p:Prop}[Decidable p]{c a:b}(d:¬p:=by omega):(bif decide p then c else a)=a:=by rw[decide_eq_false d];rfl
def wL{d:Type}{p:Prop}[Decidable p]{c b:d}:(bif decide p then c else b)=if p then c else b:=by
 by_cases a:p
 .rw[aC a,if_pos a]
 .rw[aG a,if_neg a]
def aa{c d:Type}{a:c}{b:c->Option d}:(c6 a).bind b=b a:=rfl
def ew{p q:Prop}[Decidable p][Decidable q]{c:Option Bool}(b:c=c6 (decide q)):(bif decide p then c6 true else c)=c6 (c5 (p\/q)):=by
 subst b
 by_cases a:p
 .rw[aC a,decide_eq_true (Or.inl a)]
 .rw[aG a];congr 1;exact decide_eq_decide.2 ⟨Or.inr,λb=>b.resolve_left a⟩
def fm{p q:Prop}[Decidable p][Decidable q]{c:Option Bool}(a:c=c6 (decide q)):(bif decide p then c else c6 false)=c6 (c5 (p/\q)):=by
 subst a
 by_cases b:p
 .rw[aC b];congr 1;exact decide_eq_decide.2 ⟨λa=>⟨b,a⟩,λa=>a.2⟩
 .rw[aG b,decide_eq_false (λa=>b a.1)]
def qC{b:Type}{a:List b}{i:Int}(h0:0<=i)(c:i<(a.length:Int)):aj a i=c6 (a[i.toNat]'(by omega)):=by
 unfold aj;rw[if_pos h0];exact dk (by omega)
def bn{c:Type}{a:List c}{b:Nat}:aj a (b:Int)=a[b]? :=by
 unfold aj;rw[if_pos (by omega),la]
def fC{a:Type}{b:List a}{i:Nat}{c:a}(d:b[i]?=c6 c):c∈b:=fe d
def l8{f:Type}{c:List f}{a b:Int}(h0:0<=a)(e:a<=b)(d:b<=(c.length:Int)):eG c a b=c6 ((c.take b.toNat).drop a.toNat):=by
 unfold eG;rw[if_pos ⟨h0,e,d⟩]
def pN{e:Type}{c:Nat}{b a:List e}(d:(b.length+a.length)*c<=140737488355328):bj c b a=c6 (b++a):=by
 unfold bj;rw[if_pos d]
def nS{d:Type}{b:Nat}{z:d}{a:Int}(h0:0<=a)(c:a.toNat*b<=140737488355328):gP b z a=c6 (List.replicate a.toNat z):=by
 unfold gP;rw[if_pos ⟨h0,c⟩]
def D7{a b:Int}(c:b≠0):nG a b=c6 (a.tmod b):=by
 unfold nG;rw[if_neg c]
def Ek{c:IntKind}{a b:Int}(d:b≠0):ph c a b=c6 (c.wrap (a.tdiv b)):=by
 unfold ph;rw[if_neg d]
def AD{c:IntKind}{a b:Int}(d:0<=b):iN c a b=c6 (a.fdiv (2^ (min b.toNat c.bits))):=by
 unfold iN;rw[if_pos d]
def ahO{a:IntKind}{c b:Int}(d:0<=b):uU a c b=c6 (a.wrap (c*2^ (min b.toNat a.bits))):=by
 unfold uU;rw[if_pos d]
def aJ{n:Int}(a: -9223372036854775808<=n:=by omega)(b:n<=9223372036854775807:=by omega):c3 c4 n=n:=ae2 a b
def w8{a:Int}(b:0<=a)(c:a<=255):Kr.wrap a=a:=aoI b c
def mB{n:Int}(a:0<=n)(b:n<=18446744073709551615):E3.wrap n=n:=U3 a b
def iO{a c:Type}{f:a->Option (a⊕c)}{b a':a}(d:f b=c6 (.inl a')):bO f b=bO f a':=by
 rw[Qk,d];rfl
def fZ{a c:Type}{f:a->Option (a⊕c)}{d:a}{b:c}(e:f d=c6 (.inr b)):bO f d=c6 b:=by
 rw[Qk,e];rfl
def oa{d j:Type}{f:d->Option (d⊕j)}(i:d->Prop)(e:d->Nat)(k:j->Prop)
 (step:∀a,i a->Ok (f a) λh=>match h with | .inl c=>i c/\e c<e a | .inr b=>k b):∀a,i a->Ok (bO f a) k:=by
 intro a o;generalize n:e a=m
 induction m using sp generalizing a with
 |_ m p=>
  obtain⟨h,l,g⟩:=step a o;cases h with
  |inl c=>
   rw[iO l];exact p _ (n▸g.2) c g.1 rfl
  |inr b=>exact⟨b,fZ l,g⟩
def Bytes(a:List Int):Prop:=∀b∈a,0<=b/\b<=255
def Bytes.nil:Bytes []:=by intro b h;cases h
def Bytes.cons{a:Int}{b:List Int}(h:0<=a/\a<=255)(k:Bytes b):Bytes (a::b):=by
 intro x d;rcases hI.1 d with rfl |c
 .exact h
 .exact k x c
def Bytes.take{a:List Int}(h:Bytes a)(n:Nat):Bytes (a.take n):=λx c=>h x (ie c)
end Go.X.T
namespace Go.Top
abbrev T5:Int:=1099511627776
abbrev SM:Int:=2147483648
abbrev vG:=Int->Int->Int->Prop
structure Tr where
 pl:Int->Int
 L3:Int->Int
def adJ(A:vG)(e b:Int)(c:Tr):Prop:=
 ∀a,e<=a->a<b->(c.pl (a+1)=c.pl a/\c.L3 (a+1)=c.L3 a)\/∃d,A (c.pl a) (c.pl (a+1)) d/\c.L3 a+d<=a+1/\c.L3 (a+1)=a+1
def pG(A:vG)(b:Int)(c:Int->Prop)(g:Int->Int):Prop:=
 ∀p q a,A p q a->c q->g p<T5->max (g p+a) b<=SM->g q<=max (g p+a) b
def eN(A:vG)(a:Int)(g:Int->Int):Prop:=pG A a (λ_=>True) g
structure Tr.Ok (tr:Tr) (T:Int):Prop where
 hi:T<=SM
 L3:∀u,0<=u->u<=T->0<=tr.L3 u/\tr.L3 u<=u
structure Snd (A:vG) (tr:Tr) (T τ:Int) (g:Int->Int):Prop where
 lo:0<=τ
 le:τ<=T
 mv:adJ A τ T tr
 ok:∀u,τ<=u->u<=T->g (tr.pl u)<=tr.L3 u
section
variable {A:vG}{tr:Tr}{T τ:Int}{g g':Int->Int}
def adJ.less{a b c d:Int}(h:adJ A a b tr)(l:a<=c)(j:d<=b):adJ A c d tr:=λe m k=>h e (by omega) (by omega)
def stay(l:tr.Ok T){S:Int->Prop}{f a b:Int}(u:pG A f S g)(z:0<=a)(w:b<=T)(r:adJ A a b tr)(v:f<=a+1)(t:∀d,a<d->d<=b->S (tr.pl d))(h0:g (tr.pl a)<=tr.L3 a):
 ∀d,a<=d->d<=b->g (tr.pl d)<=tr.L3 d:=by
 have p:∀c:Nat,a+c<=b->g (tr.pl (a+c))<=tr.L3 (a+c):=by
  intro c
  induction c with
  |zero=>intro _;simpa using h0
  |succ c s=>
   intro x;have j:=s (by omega);have h:a+((c+1:Nat):Int)=a+(c:Int)+1:=by omega
   have m:=l.L3 (a+c) (by omega) (by omega);have y:=l.hi;rw[h];rcases r (a+c) (by omega) (by omega) with⟨e,i⟩ |⟨k,e,i,n⟩
   .rw[e,i];exact j
   .have q:=u _ _ k e (t _ (by omega) (by omega)) (by unfold T5 SM at*;omega);rw[n];have o:max (g (tr.pl (a+c))+k) f<=a+c+1:=by omega
    exact hz (q (by unfold SM at*;omega)) o
 intro d j m;have:=p (d -a).toNat (by omega);have h:a+((d -a).toNat:Int)=d:=by omega
 rwa [h] at this
def Snd.raise(h:Snd A tr T τ g){c:Int}(j:τ<=c)(e:c<=T)(l:∀a,c<=a->a<=T->g' (tr.pl a)<=g (tr.pl a)):Snd A tr T c g':=
 ⟨by have:=h.lo;omega,e,h.mv.less j (by omega),λa k d=>hz (l a k d) (h.ok a (by omega) d)⟩
def Snd.Ls(e:tr.Ok T)(h:Snd A tr T τ g){L from_ to:Int}(o:τ<=from_)(n:from_<=L)(t:L<=to)(j:to<=T)(k:g' (tr.pl L)<=g (tr.pl L))(l:eN A from_ g'):Snd A tr T to g':=by
 have m:=h.lo;have:=stay e (S:=λ_=>True) (a:=L) (b:=T) l (by omega) (ej _) (h.mv.less (by omega) (ej _)) (by omega) (λ_ _ _=>trivial) (hz k (h.ok L (by omega) (by omega)));exact⟨by omega,j,h.mv.less (by omega) (ej _),λc s d=>this c (by omega) d⟩
def am4(h:Int->Prop)(c b:Int)(p:c<=b)(j:¬∀a,c<=a->a<=b->h a):∃a,c<=a/\a<=b/\¬h a/\∀v,a<v->v<=b->h v:=by
 generalize s:(b -c).toNat=k
 induction k generalizing b with
 |zero=>
  have d:c=b:=by omega
  subst d;refine⟨c,by omega,by omega,λl=>j λa e f=>?_,λv e f=>by omega⟩
  have d:a=c:=by omega
  rw[d];exact l
 |succ k m=>
  by_cases i:h b
  .obtain⟨a,e,f,r,o⟩:=m (b -1) (by omega) (λn=>j λa e f=>by
    by_cases d:a=b
    .rw[d];exact i
    .exact n a e (by omega)) (by omega)
   refine⟨a,e,by omega,r,λv q t=>?_⟩
   by_cases d:v=b
   .rw[d];exact i
   .exact o v q (by omega)
  .exact⟨b,p,ej _,i,λv e f=>by omega⟩
def Snd.agP(n:tr.Ok T)(h:Snd A tr T τ g){S:Int->Prop}[DecidablePred S]{b to blind:Int}{g1:Int->Int}(K:τ<=b)(k:to<=T)(I:0<=blind)(M:blind<to -b)
 (l:∀s e,b<=s->e<=to->s<=e->(∀c,s<=c->c<=e->S (tr.pl c))->e -s<=blind)
 (t:∀c,b<=c->c<=to->¬S (tr.pl c)->g1 (tr.pl c)<=g (tr.pl c)) (H:pG A (to -blind) S g1) (B:g' (tr.pl to)<=g1 (tr.pl to)) (G:eN A to g'):Snd A tr T to g':=by
 have N:=h.lo;have C:g1 (tr.pl to)<=tr.L3 to:=by
  by_cases w:S (tr.pl to)
  .have E:¬∀c,b<=c->c<=to->S (tr.pl c):=λD=>by
    have:=l b to (ej _) (ej _) (by omega) D;omega
   obtain⟨d,y,u,m,x⟩:=am4 (λc=>S (tr.pl c)) b to (by omega) E;have J:d<to:=by
    rcases Int.lt_or_eq_of_le u with h |h
    .exact h
    .subst h;exact absurd w m
   have:=l (d+1) to (by omega) (ej _) (by omega) λc o j=>x c (by omega) j
   exact stay n (S:=S) (a:=d) (b:=to) H (by omega) k (h.mv.less (by omega) (by omega)) (by omega) (λc o j=>x c o j) (hz (t d y u m) (h.ok d (by omega) (by omega))) to (by omega) (ej _)
  .exact hz (t to (by omega) (ej _) w) (h.ok to (by omega) (by omega))
 have:=stay n (S:=λ_=>True) (a:=to) (b:=T) G (by omega) (ej _) (h.mv.less (by omega) (ej _)) (by omega) (λ_ _ _=>trivial) (hz B C);exact⟨by omega,k,h.mv.less (by omega) (ej _),λc L F=>this c (by omega) F⟩
def Tr.ext(tr:Tr)(T d p a:Int):Tr:=⟨λc=>if c<=T then tr.pl c else if c<d then tr.pl T else p,λc=>if c<=T then tr.L3 c else if c<d then tr.L3 T else a⟩
def Tr.abS{d p a c:Int}(h:c<=T):(tr.ext T d p a).pl c=tr.pl c/\(tr.ext T d p a).L3 c=tr.L3 c:=by
 unfold Tr.ext;exact⟨if_pos h,if_pos h⟩
def Tr.ab8{d p a c:Int}(h:T<=c)(j:c<d):(tr.ext T d p a).pl c=tr.pl T/\(tr.ext T d p a).L3 c=tr.L3 T:=by
 unfold Tr.ext
 by_cases e:c<=T
 .have:c=T:=by omega
  subst this;exact⟨if_pos e,if_pos e⟩
 .exact⟨by dsimp only;rw[if_neg e,if_pos j],by dsimp only;rw[if_neg e,if_pos j]⟩
def Tr.acW{c p a:Int}(h:T<c):(tr.ext T c p a).pl c=p/\(tr.ext T c p a).L3 c=a:=by
 unfold Tr.ext;exact⟨by dsimp only;rw[if_neg (by omega),if_neg (by omega)],by dsimp only;rw[if_neg (by omega),if_neg (by omega)]⟩
def Tr.Ok.ext(j:tr.Ok T){c p a:Int}(h0:0<=T)(h:T<c)(l:c<=SM)(k:0<=a/\a<=c):(tr.ext T c p a).Ok c:=⟨l,λd m o=>by
 by_cases e:d<=T
 .rw[(Tr.abS e).2];exact j.L3 d m e
 .by_cases n:d<c
  .rw[(Tr.ab8 (by omega) n).2];have:=j.L3 T h0 (ej _);omega
  .have:d=c:=by omega
   subst this;rw[(Tr.acW h).2];exact k⟩
def Snd.tick(B:tr.Ok T)(h:Snd A tr T τ g)(E:eN A τ g){d p a:Int}(m:T<d)(F:d<=SM)(x:(p=tr.pl T/\a=tr.L3 T)\/∃n,A (tr.pl T) p n/\tr.L3 T+n<=d/\a=d):Snd A (tr.ext T d p a) d τ g:=by
 have C:=h.lo;have D:=h.le;have G:=B.L3 T (by omega) (ej _);have w:=h.ok T D (ej _);refine⟨C,by omega,λc t s=>?_,λc t s=>?_⟩
 .by_cases e:c<T
  .rw[(Tr.abS (show c<=T by omega)).1,(Tr.abS (show c<=T by omega)).2,(Tr.abS (show c+1<=T by omega)).1,(Tr.abS (show c+1<=T by omega)).2];exact h.mv c t e
  .rw[(Tr.ab8 (show T<=c by omega) s).1,(Tr.ab8 (show T<=c by omega) s).2]
   by_cases l:c+1<d
   .rw[(Tr.ab8 (show T<=c+1 by omega) l).1,(Tr.ab8 (show T<=c+1 by omega) l).2];exact .inl ⟨rfl,rfl⟩
   .have u:c+1=d:=by omega
    rw[u,(Tr.acW m).1,(Tr.acW m).2];rcases x with⟨j,k⟩ |⟨n,j,k,o⟩
    .exact .inl ⟨j,k⟩
    .exact .inr ⟨n,j,k,o⟩
 .by_cases e:c<=T
  .rw[(Tr.abS e).1,(Tr.abS e).2];exact h.ok c t e
  .by_cases l:c<d
   .rw[(Tr.ab8 (show T<=c by omega) l).1,(Tr.ab8 (show T<=c by omega) l).2];exact w
   .have u:c=d:=by omega
    rw[u,(Tr.acW m).1,(Tr.acW m).2];rcases x with⟨j,k⟩ |⟨n,j,k,o⟩
    .rw[j,k];exact w
    .rw[o];have y:max (g (tr.pl T)+n) τ<=d:=by omega
     exact hz (E _ _ n j trivial (by unfold T5 SM at*;omega) (by unfold SM at*;omega)) y
end
structure abc where
 t:Int
 num:Int
 bo:List Int
structure aaA (S:Int->Prop) (P M:Int) (tp:Int->Int->Int) (T:Int) (lk:Nat->abc) (c:Nat):Prop where
 bG:∀i,i<c->(lk i).t<=T
 seen:∀i X,i<c->X∈(lk i).bo->S (tp X (lk i).t)
 adj:∀i,i+1<c->(lk i).t<=(lk (i+1)).t/\(((lk (i+1)).num=(lk i).num+1/\(lk (i+1)).t - (lk i).t<=P)\/(lk (i+1)).num=(lk i).num+2)
 win:∀X (i:Nat),i+M.toNat<c->∃j,i<=j/\j<=i+M.toNat/\(S (tp X (lk j).t)->X∈(lk j).bo)
def aaA.mono{d:Int->Prop}{m l T:Int}{tp:Int->Int->Int}{lk:Nat->abc}{c:Nat}(h:aaA d m l tp T lk c):∀i k:Nat,i+k<c->(lk i).num+k<=(lk (i+k)).num:=by
 intro i k
 induction k with
 |zero=>intro _;simp
 |succ k j=>
  intro n;have o:=j (by omega);have a:=(h.adj (i+k) (by omega)).2;have e:i+(k+1)=i+k+1:=by omega
  rw[e];rcases a with a |a <;> omega
def aaA.next{j:Int->Prop}{d m T:Int}{tp:Int->Int->Int}{lk:Nat->abc}{c:Nat}(h:aaA j d m tp T lk c){i a:Nat}(hi:i<c)(k:a<c)(o:(lk a).num=(lk i).num+1):a=i+1/\(lk a).t - (lk i).t<=d:=by
 have e:a=i+1:=by
  by_cases n:a<=i
  .have:=h.mono a (i -a) (by omega);rw[show a+(i -a)=i by omega] at this;omega
  .have:=h.mono i (a -i) (by omega);rw[show i+(a -i)=a by omega] at this;omega
 subst e;refine⟨rfl,?_⟩
 rcases(h.adj i k).2 with l |l <;> omega
def aaA.run{e:Int->Prop}{o l T:Int}{tp:Int->Int->Int}{lk:Nat->abc}{c:Nat}(h:aaA e o l tp T lk c)(ix:Nat->Nat)(m:Nat)(d:∀a,a<=m->ix a<c)(n:∀a,a<m->(lk (ix (a+1))).num=(lk (ix a)).num+1):
 ∀a,a<=m->ix a=ix 0+a:=by
 intro a
 induction a with
 |zero=>intro _;rfl
 |succ a j=>
  intro k;have:=(h.next (d a (by omega)) (d (a+1) k) (n a (by omega))).1;rw[this,j (by omega)];omega
def aqQ(f:Nat->Int)(a:Int)(d:Nat)(o:a<f d):∃e,e<=d/\a<f e/\∀i,i<e->f i<=a:=by
 induction d with
 |zero=>exact⟨0,dv _,o,λi n=>by omega⟩
 |succ d h=>
  by_cases q:a<f d
  .obtain⟨e,u,b,t⟩:=h q;exact⟨e,by omega,b,t⟩
  .by_cases k:∀i,i<d+1->f i<=a
   .exact⟨d+1,dv _,o,k⟩
   .have ⟨i,n,s⟩:∃i,i<d+1/\a<f i:=j6 λl=>k λi n=>by
     by_cases m:f i<=a
     .exact m
     .exact absurd ⟨i,n,by omega⟩ l
    clear h q k
    induction i using sp with
    |_ i h=>
     by_cases p:∀c,c<i->f c<=a
     .exact⟨i,by omega,s,p⟩
     .have ⟨c,j,r⟩:∃c,c<i/\a<f c:=j6 λl=>p λc j=>by
       by_cases m:f c<=a
       .exact m
       .exact absurd ⟨c,j,by omega⟩ l
      exact h c j (by omega) r
def aaA.agP{S:Int->Prop}{j k T:Int}{tp:Int->Int->Int}{lk:Nat->abc}{c:Nat}(h:aaA S j k tp T lk c)(B:0<=j)(W:0<=k){X:Int}(ix:Nat->Nat)(m:Nat)(t:∀d,d<=m->ix d<c)(G:∀d,d<m->(lk (ix (d+1))).num=(lk (ix d)).num+1)
 (K:∀d,d<=m->X∉(lk (ix d)).bo) {s s':Int} (h0:(lk (ix 0)).t<=s) (N:s'<=(lk (ix m)).t) (Q:∀y,s<=y->y<=s'->S (tp X y)):s' -s<=(k+1)*j:=by
 by_cases J:s' -s<=(k+1)*j
 .exact J
 exfalso
 have Y:0<=(k+1)*j:=Int.mul_nonneg (by omega) B;have l:=h.run ix m t G
 let f:Nat->Int:=λd=>(lk (ix d)).t
 obtain⟨a,a1,I,O⟩:=aqQ f s m (show s<f m by show s<(lk (ix m)).t;omega);have V:1<=a:=by
  by_cases e:a=0
  .subst e;have:s<(lk (ix 0)).t:=I;omega
  .omega
 have F:∀d,d<m->f (d+1) -f d<=j:=λd u=>(h.next (t d (by omega)) (t (d+1) u) (G d u)).2
 have key:∀r:Nat,a+r<=m->f (a+r)<=s+(r+1:Int)*j:=by
  intro r
  induction r with
  |zero=>
   intro _;have n:=O (a -1) (by omega);have o:=F (a -1) (by omega);rw[show a -1+1=a by omega] at o;have e:((0:Nat)+1:Int)*j=j:=by simp
   rw[e];show f a<=s+j
   omega
  |succ r w=>
   intro D;have n:=w (by omega);have o:=F (a+r) (by omega);have e:(((r+1:Nat):Int)+1)*j=((r:Int)+1)*j+j:=by rw[show((r+1:Nat):Int)+1=((r:Int)+1)+1 by omega,Int.add_mul ((r:Int)+1),Int.one_mul]
   rw[e];show f (a+r+1)<=_
   omega
 have x:∀r:Nat,r<=k.toNat->a+r<=m:=by
  intro r
  induction r with
  |zero=>intro _;omega
  |succ r w=>
   intro D;have n:=w (by omega)
   by_cases e:a+r=m
   .have o:=key r n;rw[e] at o;have M:((r:Int)+1)*j<=(k+1)*j:=kd (by omega) B;have E:s'<=f m:=N;omega
   .omega
 have R:∀r:Nat,a+r<=m->s<f (a+r):=by
  intro r
  induction r with
  |zero=>intro _;exact I
  |succ r w=>
   intro D;have n:=w (by omega);have P:=(h.adj (ix (a+r)) (by rw[l (a+r) (by omega)];have:=t (a+r+1) (by omega);rw[l (a+r+1) (by omega)] at this;omega)).1;have e:ix (a+r)+1=ix (a+r+1):=by rw[l (a+r) (by omega),l (a+r+1) (by omega)];omega
   rw[e] at P;show s<(lk (ix (a+r+1))).t
   have o:s<(lk (ix (a+r))).t:=n;omega
 obtain⟨d,U,aa,L⟩:=h.win X (ix a) (by
  have:=t (a+k.toNat) (x _ (dv _));rw[l _ (x _ (dv _))] at this;rw[l a a1];omega)
 have u:d=ix (a+(d -ix a)):=by
  have ab:=l a a1;have Z:=l (a+(d -ix a)) (x _ (by omega));omega
 have C:=x (d -ix a) (by omega);have n:=key (d -ix a) C;have o:=R (d -ix a) C;have M:(((d -ix a:Nat):Int)+1)*j<=(k+1)*j:=kd (by omega) B;have E:f (a+(d -ix a))=(lk d).t:=by show(lk (ix (a+(d -ix a)))).t=_;rw[<-u]
 rw[E] at n o;have H:=L (Q _ (by omega) (by omega));rw[u] at H;exact K _ C H
def aaA.look{l:Int->Prop}{s j T:Int}{tp:Int->Int->Int}{lk:Nat->abc}{c:Nat}(h:aaA l s j tp T lk c){x:abc}(ht:x.t=T)(w:∀a,a∈x.bo->l (tp a T))
 (y:∀k,0<c->k=lk (c -1)->(x.num=k.num+1/\T -k.t<=s)\/x.num=k.num+2)
 (u:∀a,j.toNat<c+1->∃d,c -j.toNat<=d/\d<=c/\(l (tp a (if d=c then x else lk d).t)->a∈(if d=c then x else lk d).bo)):aaA l s j tp T (λi=>if i=c then x else lk i) (c+1):=by
 refine⟨λi hi=>?_,λi a hi n=>?_,λi hi=>?_,λa i hi=>?_⟩
 .by_cases e:i=c
  .rw[if_pos e,ht];exact ej _
  .rw[if_neg e];exact h.bG i (by omega)
 .by_cases e:i=c
  .rw[if_pos e] at n⊢;rw[ht];exact w a n
  .rw[if_neg e] at n⊢;exact h.seen i a (by omega) n
 .by_cases e:i+1=c
  .rw[if_neg (show i≠c by omega),if_pos e,ht];have m:=h.bG i (by omega);exact⟨m,y (lk i) (by omega) (by rw[<-e];rfl)⟩
  .rw[if_neg (show i≠c by omega),if_neg e];exact h.adj i (by omega)
 .by_cases e:i+j.toNat=c
  .obtain⟨d,m,t,o⟩:=u a (by omega);exact⟨d,by omega,by omega,o⟩
  .obtain⟨d,m,t,o⟩:=h.win a i (by omega);refine⟨d,m,t,?_⟩
   rw[if_neg (show d≠c by omega)];exact o
end Go.Top
namespace Go.X.T
open Go Go.Aml
def nV{e g:Type}{f:e->Option (e⊕g)}(c:Nat)(a:Nat->e)(b:g)(k:∀i,i<c->f (a i)=c6 (.inl (a (i+1))))(l:f (a c)=c6 (.inr b)):bO f (a 0)=c6 b:=by
 have h:∀d i,i+d=c->bO f (a i)=c6 b:=by
  intro d
  induction d with
  |zero=>intro i m;have:i=c:=by omega
         subst this;exact fZ l
  |succ d j=>intro i m;rw[iO (k i (by omega))];exact j (i+1) (by omega)
 exact h c 0 (by omega)
def di{m o:Type}{f:m->Option (m⊕o)}(e:Nat)(g:Nat->m->Prop)(h:o->Prop)(u:∀i a,i<e->g i a->Ok (f a) λc=>match c with | .inl p=>g (i+1) p | .inr b=>h b)
 (v:∀a,g e a->Ok (f a) λc=>match c with | .inl _=>False | .inr b=>h b):∀a,g 0 a->Ok (bO f a) h:=by
 have q:∀j i a,i+j=e->g i a->Ok (bO f a) h:=by
  intro j
  induction j with
  |zero=>
   intro i a s l;have:i=e:=by omega
   subst this;obtain⟨c,k,d⟩:=v a l;cases c with
   |inl n=>exact d.elim
   |inr b=>exact⟨b,fZ k,d⟩
  |succ j t=>
   intro i a s l;obtain⟨c,k,d⟩:=u i a (by omega) l;cases c with
   |inl n=>rw[iO k];exact t (i+1) n (by omega) d
   |inr b=>exact⟨b,fZ k,d⟩
 intro a r;exact q e 0 a (by omega) r
def jv{a:Type}(r:Nat->Option a):Nat->Nat->Option a
 |_,0=>c7
 |i,c+1=>match r i with
  |some b=>c6 b
  |none=>jv r (i+1) c
def xk{g:Type}{r:Nat->Option g}:∀{k i:Nat},jv r i k=c7↔∀a,i<=a->a<i+k->r a=c7
 |0,i=>⟨λ_ a f d=>by omega,λ_=>rfl⟩
 |k+1,i=>by
  unfold jv;cases e:r i with
  |some b=>exact⟨λc=>by simp at c,λc=>by have:=c i (dv _) (by omega);rw[e] at this;cases this⟩
  |none=>
   show jv r (i+1) k=c7↔_
   rw[xk];refine⟨λc a f d=>?_,λc a f d=>c a (by omega) (by omega)⟩
   by_cases h:a=i
   .rw[h];exact e
   .exact c a (by omega) (by omega)
def yO{f:Type}{r:Nat->Option f}{b:f}:∀{k i:Nat},jv r i k=c6 b->∃d,i<=d/\d<i+k/\r d=c6 b/\∀c,i<=c->c<d->r c=c7
 |0,i,a=>by cases a
 |k+1,i,a=>by
  unfold jv at a;cases e:r i with
  |some o=>rw[e] at a;injection a with a;subst a;exact⟨i,dv _,by omega,e,λc l h=>by omega⟩
  |none=>
   rw[e] at a;obtain⟨d,l,h,m,j⟩:=yO (r:=r) (i:=i+1) (k:=k) a;refine⟨d,by omega,by omega,m,λc p g=>?_⟩
   by_cases n:c=i
   .rw[n];exact e
   .exact j c (by omega) g
def Kp{c a:Type}(e:Option c)(d:a):c⊕a:=match e with |some b=>.inl b |none=>.inr d
def Xv{a c:Type}(d:Option a)(i:Nat):Int⊕(a⊕c):=match d with |some b=>.inr (.inl b) |none=>.inl ((i:Int)+1)
def Hf{g j:Type}{f:Int->Option (Int⊕(g⊕j))}(a:Nat)(r:Nat->Option g)(e:j)(m:∀i:Nat,i<a->f (i:Int)=c6 (Xv (r i) i))(n:f (a:Int)=c6 (.inr (.inr e))):
 bO f 0=c6 (Kp (jv r 0 a) e):=by
 have k:∀c i,i+c=a->bO f (i:Int)=c6 (Kp (jv r i c) e):=by
  intro c
  induction c with
  |zero=>intro i o;have:i=a:=by omega
         subst this;exact fZ n
  |succ c l=>
   intro i o;have d:=m i (by omega);unfold jv;cases h:r i with
   |some b=>rw[h] at d;exact fZ d
   |none=>
    rw[h] at d;rw[iO d];have:=l (i+1) (by omega);rw[show((i+1:Nat):Int)=(i:Int)+1 by omega] at this;exact this
 exact k a 0 (by omega)
def sy(b:Nat->Bool)(i:Nat):Option Unit:=bif b i then c6 () else c7
def oD{g:Type}{f:Int->Option (Int⊕(Unit⊕g))}(a:Nat)(b:Nat->Bool)(d:g)(j:∀i:Nat,i<a->f (i:Int)=c6 (bif b i then .inr (.inl ()) else .inl ((i:Int)+1)))(h:f (a:Int)=c6 (.inr (.inr d))):
 bO f 0=c6 (if ∀i,i<a->b i=false then .inr d else .inl ()):=by
 rw[Hf a (sy b) d (λi e=>by rw[j i e];unfold sy;cases b i <;> rfl) h]
 congr 1
 by_cases c:∀i,i<a->b i=false
 .rw[if_pos c,(xk (r:=sy b) (i:=0) (k:=a)).2 λn _ p=>by unfold sy;rw[c n (by omega)];rfl]
  rfl
 .rw[if_neg c];cases m:jv (sy b) 0 a with
  |some o=>rfl
  |none=>exact absurd (λi e=>by
   have:=(xk.1 m) i (ei _) (by omega);unfold sy at this;cases l:b i with
   |false=>rfl
   |true=>rw[l] at this;cases this) c
def mj{a:Type}(p:a->Bool)(c:List a)(i:Nat):Option Int:=match c[i]? with |some b=>bif p b then c6 (i:Int) else c7 |none=>c7
def gg{a:Type}(p:a->Bool)(b:List a):Int:=match jv (mj p b) 0 b.length with |some i=>i |none=>-1
def fF{c:Type}{l:List c}{P:c->Option Bool}{p:c->Bool}{f:Int->Option (Int⊕(Int⊕Unit))}(n:l.length<=4611686018427387904)(j:∀a,a∈l->P a=c6 (p a))
 (g:∀b,f b=bif c5 (b<(l.length:Int)) then(aj l b).bind λa=>(P a).bind λh=>bif h then c6 (.inr (.inl b)) else c6 (.inl (c3 c4 (b+1))) else c6 (.inr (.inr ()))):
 ((bO f 0).bind λm=>Sum.elim (λk=>c6 k) (λ_=>c6 (-1)) m)=c6 (gg p l):=by
 rw[Hf l.length (mj p l) () (λi d=>?_) (by rw[g,aG])]
 .unfold gg;cases jv (mj p l) 0 l.length <;> rfl
 .rw[g,aC,bn,dk d,aa,j _ (j5 d),aa];unfold mj;rw[dk d];cases e:p l[i] with
  |true=>simp only[e,cond_true];rfl
  |false=>simp only[e,cond_false];rw[aJ];rfl
def Aw{h:Type}{p:h->Bool}{f:List h}:(0<=gg p f)↔∃c,c∈f/\p c=true:=by
 unfold gg;cases g:jv (mj p f) 0 f.length with
 |none=>
  refine⟨λg=>by simp at g,?_⟩
  rintro⟨c,e,d⟩;obtain⟨i,k,rfl⟩:=ih.1 e;have:=(xk.1 g) i (ei _) (by omega);unfold mj at this;rw[dk k] at this;simp only[d,cond_true] at this;cases this
 |some b=>
  obtain⟨j,_,l,a,_⟩:=yO g;unfold mj at a;cases e:f[j]? with
  |none=>rw[e] at a;cases a
  |some c=>
   rw[e] at a;cases d:p c with
   |false=>simp only[d,cond_false] at a;cases a
   |true=>
    simp only[d,cond_true] at a;injection a with a
    refine⟨λ_=>⟨c,fC e,d⟩,λ_=>?_⟩
    show(0:Int)<=b
    omega
def HN{g:Type}{p:g->Bool}{c:List g}(j:0<=gg p c):∃(i:Nat) (d:g),gg p c=(i:Int)/\c[i]?=c6 d/\p d=true/\∀(e:Nat) (f:g),e<i->c[e]?=c6 f->p f=false:=by
 unfold gg at j⊢;cases l:jv (mj p c) 0 c.length with
 |none=>rw[l] at j;simp at j
 |some b=>
  obtain⟨e,_,s,a,o⟩:=yO l;unfold mj at a;cases k:c[e]? with
  |none=>rw[k] at a;cases a
  |some d=>
   rw[k] at a;cases h:p d with
   |false=>simp only[h,cond_false] at a;cases a
   |true=>
    simp only[h,cond_true] at a;injection a with a
    refine⟨e,d,a.symm,k,h,λq f m n=>?_⟩
    have:=o q (ei _) m;unfold mj at this;rw[n] at this;cases r:p f with
    |false=>rfl
    |true=>simp only[r,cond_true] at this;cases this
def gm{a:Type}{p:a->Bool}{b:List a}:c5 (0<=gg p b)=b.any p:=by
 rw[sT,decide_eq_true_iff,Aw,List.any_eq_true]
def cF(a b c:Int):cp LC a b c=c6 (c5 (b<=a/\a<=c)):=by
 unfold cp;exact fm rfl
def cj(c b:Int)(a:List Int):Prop:=∀i:Nat,i<a.length->c<=a.getD i 0/\a.getD i 0<=b/\(0<i->a.getD (i -1) 0<a.getD i 0)
instance (a b:Int) (c:List Int):Decidable (cj a b c):=by unfold cj;exact Nat.decidableBallLT _ _
def pu{b:Type}{c:List b}{i:Nat}{d a:b}(e:c[i]?=c6 a):c.getD i d=a:=by rw[List.getD_eq_getElem?_getD,e];rfl
def uu{a:List Int}{i:Nat}(b:i<a.length):aj a (i:Int)=c6 (a.getD i 0):=by rw[bn,dk b,pu (dk b)]
def kw(a:List Int)(d b:Int)(l:a.length<=4611686018427387904):iU LC a d b=c6 (c5 (cj d b a)):=by
 unfold iU;have k:bO (λg=>wx LC a d b g) 0=c6 (if ∀i,i<a.length->(λi:Nat=>c5 (¬(d<=a.getD i 0/\a.getD i 0<=b/\(0<i->a.getD (i -1) 0<a.getD i 0)))) i=false then .inr () else .inl ()):=by
  refine oD a.length _ () (λi e=>?_) ?_
  .unfold wx;rw[aC,uu e,aa];have j:(bif c5 (0<(i:Int)) then(aj a (c3 c4 ((i:Int) -1))).bind λh=>c6 (c5 (a.getD i 0<=h)) else c6 false)=c6 (c5 (0<i/\a.getD i 0<=a.getD (i -1) 0)):=by
    by_cases h0:0<i
    .rw[aC,aJ,show(i:Int) -1=((i -1:Nat):Int) by omega,uu (by omega),aa]
     congr 1
     exact decide_eq_decide.2 ⟨λc=>⟨h0,c⟩,λc=>c.2⟩
    .rw[aG]
     congr 1
     exact(decide_eq_false λc=>h0 c.1).symm
   rw[j,ew (ew rfl),aa,aJ]
   by_cases f:d<=a.getD i 0/\a.getD i 0<=b/\(0<i->a.getD (i -1) 0<a.getD i 0)
   .rw[decide_eq_false (by omega),decide_eq_false (by rw[hD];exact f)];rfl
   .rw[decide_eq_true (show a.getD i 0<d\/b<a.getD i 0\/(0<i/\a.getD i 0<=a.getD (i -1) 0) by omega),decide_eq_true f];rfl
  .unfold wx;rw[aG]
 rw[show LC.loop (λg=>wx LC a d b g) 0=_ from k,aa]
 by_cases c:cj d b a
 .rw[if_pos (λi e=>decide_eq_false (by rw[hD];exact c i e)),decide_eq_true c];rfl
 .rw[if_neg (λf=>c λi e=>by have:=of_decide_eq_false (f i e);rw[hD] at this;exact this),decide_eq_false c];rfl
def cj.mem{a b:Int}{c:List Int}(h:cj a b c){x:Int}(d:x∈c):a<=x/\x<=b:=by
 obtain⟨i,hi,rfl⟩:=ih.1 d;have:=h i hi;rw[pu (dk hi)] at this;exact⟨this.1,this.2.1⟩
def cj.lt{a b:Int}{d:List Int}(h:cj a b d):∀{i c:Nat},i<c->c<d.length->d.getD i 0<d.getD c 0:=by
 intro i c m
 induction c with
 |zero=>omega
 |succ c k=>
  intro l;have j:=(h (c+1) l).2.2 (by omega);rw[show c+1 -1=c by omega] at j
  by_cases e:i=c
  .rw[e];exact j
  .exact Int.lt_trans (k (by omega) (by omega)) j
def cj.len{a b:Int}{c:List Int}(h:cj a b c)(k:a<=b+1):(c.length:Int)<=b -a+1:=by
 have key:∀i:Nat,i<c.length->a+i<=c.getD i 0:=by
  intro i
  induction i with
  |zero=>intro hi;have:=(h 0 hi).1;omega
  |succ i d=>
   intro hi;have j:=d (by omega);have e:=h.lt (show i<i+1 by omega) hi;omega
 by_cases h0:c.length=0
 .omega
 .have j:=key (c.length -1) (by omega);have e:=(h (c.length -1) (by omega)).2.1;omega
def cj.nil{a b:Int}:cj a b []:=λi hi=>by simp at hi
def cj.one{a b x:Int}(c:a<=x)(d:x<=b):cj a b [x]:=λi hi=>by
 have:i=0:=by simpa using hi
 subst this;exact⟨c,d,λh=>by omega⟩
def jx(a:Nat)(r:aZ):Prop:=
 (0<=r.an/\r.an<a/\0<=r.To/\r.To<a/\r.an≠r.To)/\(1<=r.aj3/\r.aj3<=100000/\1<=r.bT/\r.bT<=1000)/\
 (1<=r.anC.eF/\r.anC.eF<=r.anC.fk/\r.anC.fk<=262144)/\(-2199023255552<=r.eI.eF/\r.eI.eF<=r.eI.fk/\r.eI.fk<=2199023255552)
instance (a:Nat) (r:aZ):Decidable (jx a r):=by unfold jx;infer_instance
def cP(a:ak):Prop:=a.ai.length<=64/\a.af.length<=128/\(∀p,p∈a.ai->-10000<=p.eU/\p.eU<=10000)/\∀r,r∈a.af->jx a.ai.length r
instance (a:ak):Decidable (cP a):=by unfold cP;infer_instance
def Tp(a:bI)(c b:Int):yQ LC a c b=c6 (c5 (c<=a.eF/\a.eF<=a.fk/\a.fk<=b)):=by
 unfold yQ;exact fm (fm rfl)
def de{d:Type}{b:Bool}{c a:d}:(bif (!b) then c else a)=bif b then a else c:=by cases b <;> rfl
def fh{p q:Prop}[Decidable p][Decidable q]{b:Option Bool}(d:b=c6 (decide q)):(bif (!decide p) then c6 true else b)=c6 (c5 (¬p\/q)):=by
 by_cases a:p
 .rw[decide_eq_true a,oq,cond_false,d]
  congr 1
  exact decide_eq_decide.2 ⟨.inr,λc=>c.resolve_left (λe=>e a)⟩
 .rw[decide_eq_false a,o7,cond_true,decide_eq_true (.inl a)]
def lA{p:Prop}[Decidable p]:c6 (!decide p)=c6 (c5 (¬p)):=by rw[decide_not]
def VM(a:ak):∃j:Int,zG LC a=c6 j/\(j=0↔cP a):=by
 unfold zG;rw[ew rfl,aa]
 by_cases h0:64<(a.ai.length:Int)\/128<(a.af.length:Int)
 .rw[aC h0];exact⟨2,rfl,⟨λb=>absurd b (by decide),λb=>by have h:=b.1;have A:=b.2.1;omega⟩⟩
 rw[aG h0];have z:bO (λe=>yL LC a e) 0=c6 (if ∀i,i<a.ai.length->(λi:Nat=>match a.ai[i]? with |some p=>c5 (p.eU< -10000\/10000<p.eU) |none=>false) i=false then .inr () else .inl ()):=by
  refine oD _ _ () (λi c=>?_) ?_
  .unfold yL;rw[aC,bn,dk c,aa,ew rfl,aa,aJ]
   by_cases f:a.ai[i].eU< -10000\/10000<a.ai[i].eU
   .rw[decide_eq_true f];simp only[dk c,decide_eq_true f,cond_true]
   .rw[decide_eq_false f];simp only[dk c,decide_eq_false f,cond_false]
  .unfold yL;rw[aG]
 rw[show LC.loop (λe=>yL LC a e) 0=_ from z,aa]
 by_cases h:∀p,p∈a.ai->-10000<=p.eU/\p.eU<=10000
 .rw[if_pos (λi c=>by
   dsimp only;rw[dk c];have:=h _ (j5 c);exact decide_eq_false (by omega))]
  rw[yv];have u:bO (λe=>vX LC a e) 0=c6 (Kp (jv (λi=>match a.af[i]? with
   |some r=>if ¬(0<=r.an/\r.an<a.ai.length/\0<=r.To/\r.To<a.ai.length/\r.an≠r.To) then c6 (4:Int) else if jx a.ai.length r then c7 else c6 1
   |none=>c7) 0 a.af.length) ()):=by
   refine Hf _ _ () (λi c=>?_) ?_
   .unfold vX;rw[aC,bn,dk c,aa,ew (ew (ew (ew rfl))),aa];dsimp only;generalize a.af[i]=r
    by_cases k:0<=r.an/\r.an<a.ai.length/\0<=r.To/\r.To<a.ai.length/\r.an≠r.To
    .rw[aG,if_neg (λb=>b k),ew (ew (ew rfl)),aa]
     by_cases q:1<=r.aj3/\r.aj3<=100000/\1<=r.bT/\r.bT<=1000
     .rw[aG,Tp,Tp,aa,aa,lA,fh rfl,aa]
      by_cases g:jx a.ai.length r
      .rw[if_pos g,aG (by have x:=g.2.2.1;have d:=g.2.2.2;omega),aJ];rfl
      .rw[if_neg g,aC (by
        by_cases s:1<=r.anC.eF/\r.anC.eF<=r.anC.fk/\r.anC.fk<=262144
        .exact .inr λy=>g ⟨k,q,s,y⟩
        .exact .inl s)];rfl
     .rw[aC,if_neg (λb=>q b.2.1)];rfl
    .rw[aC,if_pos k];rfl
   .unfold vX;rw[aG]
  rw[show LC.loop (λe=>vX LC a e) 0=_ from u,aa];cases n:jv (λi=>match a.af[i]? with
   |some r=>if ¬(0<=r.an/\r.an<a.ai.length/\0<=r.To/\r.To<a.ai.length/\r.an≠r.To) then c6 (4:Int) else if jx a.ai.length r then c7 else c6 1
   |none=>c7) 0 a.af.length with
  |some j=>
   obtain⟨m,_,x,d,_⟩:=yO n;have t:m<a.af.length:=by omega
   rw[dk t] at d;dsimp only at d;have o:j≠0/\¬jx a.ai.length a.af[m]:=by
    split at d
    .rename_i l;injection d with d
     exact⟨by omega,λb=>l b.1⟩
    .split at d
     .cases d
     .rename_i l;injection d with d
      exact⟨by omega,l⟩
   exact⟨j,rfl,⟨λb=>absurd b o.1,λb=>absurd (b.2.2.2 _ (j5 t)) o.2⟩⟩
  |none=>
   refine⟨0,rfl,⟨λ_=>⟨by omega,by omega,h,λr w=>?_⟩,λ_=>rfl⟩⟩
   obtain⟨i,c,rfl⟩:=ih.1 w;have:=(xk.1 n) i (ei _) (by omega);rw[dk c] at this;dsimp only at this
   split at this
   .cases this
   .split at this
    .assumption
    .cases this
 .rw[if_neg (λf=>h λp v=>by
   obtain⟨i,c,rfl⟩:=ih.1 v;have:=f i c;dsimp only at this;rw[dk c] at this;have:=of_decide_eq_false this;omega)]
  exact⟨1,rfl,⟨λb=>absurd b (by decide),λb=>absurd b.2.2.1 h⟩⟩
def ko(a:ak):ij LC a=c6 (c5 (cP a)):=by
 obtain⟨d,b,c⟩:=VM a;unfold ij;rw[b,aa]
 congr 1
 exact decide_eq_decide.2 c
def Sm{a:Type}(b:List a):Prop:=b.length<=1000000
def pr{f:Type}{b:Nat}{a:List f}(c:b<=100)(d:Sm a):bj b [] a=c6 a:=by
 rw[pN]
 .rfl
 .have e:a.length<=1000000:=d;have:a.length*b<=1000000*100:=vd e c;simp only[ta,j2];omega
def dm{d:Type}{b:Nat}{a:List d}{c:d}(e:b<=100)(f:a.length<=2000000):bj b a [c]=c6 (a++[c]):=by
 refine pN ?_
 have:(a.length+1)*b<=2000001*100:=vd (by omega) e;simp only[m4,ta,j2];omega
def bV{a:List Int}(b:Sm a):cc LC a=c6 a:=pr (by decide) b
def mV{a:List bP}(b:Sm a):kF LC a=c6 a:=pr (by decide) b
def nk{a:List aZ}(b:Sm a):kQ LC a=c6 a:=pr (by decide) b
def Ep{a:List bC}(b:Sm a):rf LC a=c6 a:=pr (by decide) b
def zS{a:List bI}(b:Sm a):q9 LC a=c6 a:=pr (by decide) b
def wE{a:List cy}(b:Sm a):pI LC a=c6 a:=pr (by decide) b
def jg{a:Type}{b done rest:List a}{c:a}(d:b=done++c::rest):aj b (done.length:Int)=c6 c:=by
 subst d;rw[bn,e6 (dv _),q5]
 rfl
def jm{b e g:Type}{f:e->Option (e⊕g)}(a:List b)(c:List b->Int->e)(d:List b->g)
 (k:∀(done:List b) (h:b) (n:List b),a=done++h::n->f (c done (done.length:Int))=c6 (.inl (c (done++[h]) ((done.length:Int)+1)))) (m:f (c a (a.length:Int))=c6 (.inr (d a))):bO f (c [] 0)=c6 (d a):=by
 have:=nV (f:=f) a.length (λi=>c (a.take i) (i:Int)) (d a) (λi o=>?_) (by simpa using m)
 .simpa using this
 .have j:=k (a.take i) a[i] (a.drop (i+1)) (by rw[<-List.drop_eq_getElem_cons o,k8]);have l:(a.take i).length=i:=by rw[dt];omega
  rw[l,List.take_append_getElem] at j;exact j
def iy{a:Type}{b done e:List a}{c:a}(d:b=done++c::e):(done.length:Int)<(b.length:Int):=by
 subst d;rw[ea,m4];omega
def ks{b:Type}{c done e:List b}{a:b}(d:c=done++a::e):a∈c:=by subst d;simp
def MZ(a:Int):∀c,(mM a c).Perm (a::c)
 |[]=>.refl _
 |b::c=>by
  unfold mM;cases c5 (a<=b) with
  |true=>exact .refl _
  |false=>exact((MZ a c).cons b).trans (.swap a b c)
def uK:∀a,(dQ a).Perm a
 |[]=>.refl _
 |b::a=>(MZ b (dQ a)).trans ((uK a).cons b)
def uP(a:List Int):(dQ a).length=a.length:=(uK a).length_eq
def zF{a:List Int}(b:Sm a):rl LC a=c6 (dQ a):=by
 unfold rl rC;have c:a.length<=1000000:=b;rw[show x2 a.length 140737488355328=true from ng (by omega)]
 rfl
def Iy{a:List Int}(b:Sm a):rG LC a=c6 (dQ a):=by
 unfold rG Kx IA;rw[pr (by decide) b,aa,aa,zF b,aa]
def lz(a:List Int):Prop:=cj 1 65535 (dQ a)
instance (a:List Int):Decidable (lz a):=by unfold lz;infer_instance
def KN{a:List Int}(b:Sm a):ym LC a=c6 (c5 (lz a)):=by
 unfold ym qK;have c:a.length<=1000000:=b;rw[aa,Iy b,aa,kw _ _ _ (by rw[uP];omega),aa]
 rfl
def O6{a:List Int}(b:Sm a):AI LC a=c6 (c5 (lz a)):=KN b
def cj.nodup{a b:Int}{d:List Int}(h:cj a b d):d.Nodup:=by
 refine List.pairwise_iff_getElem.2 λi l hi c k e=>?_
 have j:=h.lt k c;rw[pu (dk hi),pu (dk c),e] at j;omega
def lz.nodup{a:List Int}(h:lz a):a.Nodup:=(uK a).nodup_iff.1 (cj.nodup h)
def lS(a:Nat)(r:aS):Prop:=r.ai.length≠0/\cj 0 ((a:Int) -1) r.ai/\(1<=r.dX/\r.dX<=600)/\(0<=r.dY/\r.dY<=10)/\0<=r.cR/\r.cR<=60
instance (a:Nat) (r:aS):Decidable (lS a r):=by unfold lS;infer_instance
def uG(a:ak)(b:List aS):Prop:=cP a/\b.length<=32/\∀r,r∈b->lS a.ai.length r
instance (a:ak) (b:List aS):Decidable (uG a b):=by unfold uG;infer_instance
def X7{d:ak}{r:aS}(g:d.ai.length<=64)(f:r.ai.length<=4611686018427387904):wN LC r d=c6 (!c5 (lS d.ai.length r)):=by
 unfold wN;rw[aJ,kw _ _ _ f,aa,cF,aa,cF,aa,cF,aa,lA,fh (fh (fh rfl)),ew rfl,lA]
 congr 1
 apply decide_eq_decide.2
 unfold lS
 by_cases e:(r.ai.length:Int)=0
 .exact⟨λ_ a=>a.1 (by omega),λ_=>.inl e⟩
 .refine⟨λa c=>?_,λa=>.inr ?_⟩
  .rcases a with a |a |a |a |a
   .exact e a
   .exact a c.2.1
   .exact a c.2.2.1
   .exact a c.2.2.2.1
   .exact a c.2.2.2.2
  .refine gb λb=>a ?_
   simp only[not_or,hD] at b;exact⟨by omega,b.1,b.2.1,b.2.2.1,b.2.2.2⟩
def ot{c:Type}{p:c->Prop}[DecidablePred p]{b:List c}:(!b.any λa=>!c5 (p a))=c5 (∀a,a∈b->p a):=by
 rw[sT,decide_eq_true_iff];simp
abbrev Fit{a:Type}(b:List a):Prop:=b.length<=4611686018427387904
def Pm(a:ak)(l:List aS)(g:∀r,r∈l->Fit r.ai):wI LC a l=c6 (c5 (uG a l)):=by
 unfold wI;rw[ko,aa]
 by_cases c:cP a
 .rw[aC c]
  by_cases e:(l.length:Int)<=32
  .rw[aC e];have i:El LC l a=c6 (l.any λr=>!c5 (lS a.ai.length r)):=by
    unfold El Fh;have:=fF (l:=l) (P:=λr=>wN LC r a) (p:=λr=>!c5 (lS a.ai.length r)) (f:=λd=>Ha LC l a d) (by omega) (λr h=>X7 c.1 (g r h)) (λd=>rfl);rw[show(LC.loop (λd=>Ha LC l a d) 0).bind _=_ from this,aa,gm]
   rw[i,aa,ot]
   congr 1
   exact decide_eq_decide.2 ⟨λb=>⟨c,by omega,b⟩,λb=>b.2.2⟩
  .rw[aG e,decide_eq_false (λb=>e (by have:=b.2.1;omega))]
 .rw[aG c,decide_eq_false (λb=>c b.1)]
def jo(a:ak)(p:Int):Int:=match a.ai[p.toNat]? with |some b=>b.eU |none=>0
def fy(a:ak)(r:aZ)(b:Bool):Int:=if b then -(jo a r.To -jo a r.an) else jo a r.To -jo a r.an
def wt(a:ak)(r:aZ)(b:Bool)(d c e:Int):Int:=
 if r.eN=true\/r.jy=false then -1 else(10*r.aj3+(if r.aj3<10*fy a r b then d else if r.aj3< -10*fy a r b then c else e) -1)/ (if r.aj3<10*fy a r b then d else if r.aj3< -10*fy a r b then c else e)
def Ph{a:ak}(g:cP a){i:Nat}{r:aZ}(j:a.af[i]?=c6 r)(b:Bool)(p:kD)(f:(1<=p.up/\p.up<=100)/\(1<=p.down/\p.down<=100)/\1<=p.level/\p.level<=100):
 xu LC a (i:Int) b p=c6 (wt a r b p.up p.down p.level):=by
 obtain⟨⟨z,I,o,E,D⟩,⟨B,G,C,H⟩,_⟩:=g.2.2.2 r (fC j);unfold xu;rw[bn,j,aa];unfold wt;have A:(bif r.eN then c6 true else c6 (!r.jy))=c6 (c5 (r.eN=true\/r.jy=false)):=by cases r.eN <;> cases r.jy <;> rfl
 rw[A,aa]
 by_cases e:r.eN=true\/r.jy=false
 .rw[aC e,if_pos e]
 rw[aG e,if_neg e];have u:aj a.ai r.To=c6 (a.ai[r.To.toNat]'(by omega)):=qC o (by omega);have l:aj a.ai r.an=c6 (a.ai[r.an.toNat]'(by omega)):=qC z (by omega);have h:jo a r.To=(a.ai[r.To.toNat]'(by omega)).eU:=by unfold jo;rw[dk (by omega)]
 have k:jo a r.an=(a.ai[r.an.toNat]'(by omega)).eU:=by unfold jo;rw[dk (by omega)]
 have s:=g.2.2.1 _ (j5 (show r.To.toNat<a.ai.length by omega));have t:=g.2.2.1 _ (j5 (show r.an.toNat<a.ai.length by omega));rw[u,aa,l,aa, <-h, <-k];rw[<-h] at s;rw[<-k] at t;have q:(bif b then c6 (c3 c4 (0 -c3 c4 (jo a r.To -jo a r.an))) else c6 (c3 c4 (jo a r.To -jo a r.an)))=c6 (fy a r b):=by
  unfold fy;rw[aJ (n:=jo a r.To -jo a r.an),aJ (n:=0 - (jo a r.To -jo a r.an))];cases b
  .rfl
  .simp only[cond_true,if_true];congr 1;omega
 have F: -20000<=fy a r b/\fy a r b<=20000:=by unfold fy;split <;> omega
 rw[q,aa,aJ (n:=10*fy a r b),aJ (n:=-10*fy a r b)];have x:(bif c5 (r.aj3<10*fy a r b) then c6 p.up else(bif c5 (r.aj3< -10*fy a r b) then c6 p.down else c6 p.level).bind λw=>c6 w)=c6 (if r.aj3<10*fy a r b then p.up else if r.aj3< -10*fy a r b then p.down else p.level):=by
  by_cases c:r.aj3<10*fy a r b
  .rw[aC c,if_pos c]
  .rw[aG c,if_neg c]
   by_cases d:r.aj3< -10*fy a r b
   .rw[aC d,if_pos d];rfl
   .rw[aG d,if_neg d];rfl
 rw[x,aa];have y:1<=(if r.aj3<10*fy a r b then p.up else if r.aj3< -10*fy a r b then p.down else p.level)/\(if r.aj3<10*fy a r b then p.up else if r.aj3< -10*fy a r b then p.down else p.level)<=100:=by
  split
  .exact f.1
  .split
   .exact f.2.1
   .exact f.2.2
 generalize (if r.aj3<10*fy a r b then p.up else if r.aj3< -10*fy a r b then p.down else p.level)=v at y⊢;rw[aJ (n:=10*r.aj3),aJ (n:=10*r.aj3+v),aJ (n:=10*r.aj3+v -1),Ek (by omega),aa];have m:(10*r.aj3+v -1).tdiv v=(10*r.aj3+v -1)/v:=Int.tdiv_eq_ediv_of_nonneg (by omega);have h0:0<=(10*r.aj3+v -1)/v:=Int.ediv_nonneg (by omega) (by omega);have c:(10*r.aj3+v -1)/v<=10*r.aj3+v -1:=r4 _ (by omega);rw[m,aJ]
def aoC{a:ak}{r:aZ}{b:Bool}{d c e:Int}(h:1<=r.aj3/\r.aj3<=100000)(f:(1<=d/\d<=100)/\(1<=c/\c<=100)/\1<=e/\e<=100):wt a r b d c e= -1\/(1<=wt a r b d c e/\wt a r b d c e<=1000099):=by
 unfold wt
 split
 .exact .inl rfl
 .right
  have g:1<=(if r.aj3<10*fy a r b then d else if r.aj3< -10*fy a r b then c else e)/\(if r.aj3<10*fy a r b then d else if r.aj3< -10*fy a r b then c else e)<=100:=by
   split
   .exact f.1
   .split
    .exact f.2.1
    .exact f.2.2
  generalize (if r.aj3<10*fy a r b then d else if r.aj3< -10*fy a r b then c else e)=v at g⊢;have i:(10*r.aj3+v -1)/v<=10*r.aj3+v -1:=r4 _ (by omega);refine⟨?_,by omega⟩
  refine Int.le_ediv_of_mul_le (by omega) ?_
  omega
def wT(a:ak)(i:Int)(b:Bool)(e c d:Int):Int:=if cP a/\0<=i then(match a.af[i.toNat]? with |some r=>wt a r b e c d |none=>-1) else -1
def rF(a:ak)(i:Int)(b:Bool){u d l:Int}(c:(1<=u/\u<=100)/\(1<=d/\d<=100)/\1<=l/\l<=100):wT a i b u d l= -1\/(1<=wT a i b u d l/\wT a i b u d l<=1000099):=by
 unfold wT
 split
 .rename_i e
  split
  .rename_i r f;have:=(e.1.2.2.2 r (fC f)).2.1;exact aoC ⟨this.1,this.2.1⟩ c
  .exact .inl rfl
 .exact .inl rfl
def Oz(a:ak)(i:Int):((ij LC a).bind λb=>bif (!b) then c6 true else bif c5 (i<0) then c6 true else c6 (c5 ((a.af.length:Int)<=i)))=c6 (c5 (¬cP a\/i<0\/(a.af.length:Int)<=i)):=by
 rw[ko,aa,fh (ew rfl)]
def Cv(c:ak)(i:Int)(b:Bool):rO LC c i b=c6 (wT c i b 6 9 12):=by
 unfold rO;rw[Oz,aa];unfold wT
 by_cases a:¬cP c\/i<0\/(c.af.length:Int)<=i
 .rw[aC a]
  split
  .rename_i d;have j:(c.af.length:Int)<=i:=by
    rcases a with a |a |a
    .exact absurd d.1 a
    .omega
    .exact a
   rw[hQ (by omega)]
  .rfl
 .rw[aG a];have e:cP c:=gb λh=>a (.inl h)
  have f:i.toNat<c.af.length:=by
   have:¬(c.af.length:Int)<=i:=λd=>a (.inr (.inr d))
   have:¬i<0:=λd=>a (.inr (.inl d))
   omega
  have h0:¬i<0:=λd=>a (.inr (.inl d))
  rw[if_pos ⟨e,by omega⟩,dk f];unfold FX G5;have g:i=((i.toNat:Nat):Int):=by omega
  rw[aa]
  conv=>lhs;rw[g]
  rw[Ph e (dk f) b _ (by decide)]
  rfl
def AF(c:ak)(i:Int)(b:Bool):nK LC c i b=c6 (wT c i b 2 3 4):=by
 unfold nK;rw[Oz,aa];unfold wT
 by_cases a:¬cP c\/i<0\/(c.af.length:Int)<=i
 .rw[aC a]
  split
  .rename_i d;have j:(c.af.length:Int)<=i:=by
    rcases a with a |a |a
    .exact absurd d.1 a
    .omega
    .exact a
   rw[hQ (by omega)]
  .rfl
 .rw[aG a];have e:cP c:=gb λh=>a (.inl h)
  have f:i.toNat<c.af.length:=by
   have:¬(c.af.length:Int)<=i:=λd=>a (.inr (.inr d))
   have:¬i<0:=λd=>a (.inr (.inl d))
   omega
  have h0:¬i<0:=λd=>a (.inr (.inl d))
  rw[if_pos ⟨e,by omega⟩,dk f];unfold Fx;have g:i=((i.toNat:Nat):Int):=by omega
  rw[aa]
  conv=>lhs;rw[g]
  rw[Ph e (dk f) b _ (by decide)]
  rfl
def mQ(a:ak)(i p:Int):Int:=
 if 0<=i then(match a.af[i.toNat]? with |some r=>if p=r.an then wT a i false 6 9 12 else if p=r.To then wT a i true 6 9 12 else -1 |none=>-1) else -1
def Tt(a:ak)(i p:Int)(f:a.af.length<=4611686018427387904):yM LC a i p=c6 (mQ a i p):=by
 unfold yM mQ;rw[aJ,cF,aa,de]
 by_cases b:0<=i/\i<=(a.af.length:Int) -1
 .have e:i.toNat<a.af.length:=by omega
  have g:aj a.af i=c6 a.af[i.toNat]:=qC b.1 (by omega);rw[aC b,g,aa,aa,if_pos b.1,dk e];dsimp only
  by_cases d:p=a.af[i.toNat].an
  .rw[aC d,if_pos d,Cv,aa]
  .rw[aG d,if_neg d]
   by_cases c:p=a.af[i.toNat].To
   .rw[aC c,if_pos c,Cv,aa]
   .rw[aG c,if_neg c]
 .rw[aG b]
  by_cases h0:0<=i
  .rw[if_pos h0,hQ (by omega)]
  .rw[if_neg h0]
def sq(b:ak)(a:bC):Prop:=(0<=a.abG/\a.abG<=(b.ai.length:Int) -1)/\(if a.akw= -1 then a.ami=0 else 0<=mQ b a.akw a.abG/\1<=a.ami/\a.ami<=2147483648)
instance (a:ak) (b:bC):Decidable (sq a b):=by unfold sq;infer_instance
def Vs{c:ak}(a:bC)(d:cP c):BS LC c a=c6 (c5 (sq c a)):=by
 have f:=d.1;have e:=d.2.1;unfold BS sq;rw[aJ,cF,aa,de,Tt _ _ _ (by omega),aa,cF,aa,fm (p:=0<=mQ c a.akw a.abG) rfl]
 by_cases b:a.akw= -1
 .simp only[if_pos b];rw[aC b];exact fm rfl
 .simp only[if_neg b];rw[aG b];exact fm rfl
def sj(a:aB)(i:Nat):Prop:=∃r c b e,a.aQ[i]?=c6 r/\a.cn[i]?=c6 c/\a.cf[i]?=c6 b/\a.bp[i]?=c6 e/\(-1<=c/\c<=65535)/\(-1<=b/\b<=a.aa0)/\(c= -1↔b= -1)/\e.length=a.aN.length/\∀d,d∈e->0<=d/\d<=r.dY
def fw(a:aB):Prop:=uG a.ao a.aQ/\(1<=a.aN.length/\a.aN.length<=12)/\a.aw.length=a.aN.length/\lz a.aw/\(0<=a.aa0/\a.aa0<=2147483648)/\a.cn.length=a.aQ.length/\a.cf.length=a.aQ.length/\a.bp.length=a.aQ.length/\
 (∀i,i<a.aQ.length->sj a i)/\∀b,b∈a.aN->sq a.ao b
noncomputable instance (a:aB) (i:Nat):Decidable (sj a i):=m6 _
noncomputable instance (a:aB):Decidable (fw a):=m6 _
def abJ{l:List Int}{b:aB}{i:Nat}{r:aS}(e:b.aQ[i]?=c6 r)(d:Fit l):BW LC l b (i:Int)=c6 (l.any λa=>!c5 (0<=a/\a<=r.dY)):=by
 unfold BW Iq;have:=fF (l:=l) (P:=λa=>Ao LC a b (i:Int)) (p:=λa=>!c5 (0<=a/\a<=r.dY)) (f:=λc=>Kl LC l b (i:Int) c) d (λa g=>by
  unfold Ao;rw[bn,e,aa,cF,aa]) (λc=>rfl)
 rw[show(LC.loop (λc=>Kl LC l b (i:Int) c) 0).bind _=_ from this,aa,gm]
def ajZ{l:List bC}{a:aB}(d:cP a.ao)(e:Fit l):zH LC l a=c6 (l.any λg=>!c5 (sq a.ao g)):=by
 unfold zH Gd;have:=fF (l:=l) (P:=λc=>DB LC c a) (p:=λc=>!c5 (sq a.ao c)) (f:=λb=>Gl LC l a b) e (λc h=>by
  unfold DB;rw[Vs _ d,aa]) (λb=>rfl)
 rw[show(LC.loop (λb=>Gl LC l a b) 0).bind _=_ from this,aa,gm]
def HA{c:Type}{p:c->Prop}[DecidablePred p]{b:List c}:(b.any λa=>!c5 (p a))=c5 (¬∀a,a∈b->p a):=by
 rw[<-Bool.not_not (b.any _),ot,decide_not]
def xf(c:aB)(I:∀r,r∈c.aQ->Fit r.ai):pV LC c=c6 (c5 (fw c)):=by
 unfold pV;rw[Pm _ _ I,aa,cF,aa]
 by_cases g:uG c.ao c.aQ
 rotate_left
 .rw[decide_eq_false g];simp only[o7,cond_true,aa];rw[decide_eq_false (λa=>g a.1)]
 by_cases n:1<=(c.aN.length:Int)/\(c.aN.length:Int)<=12
 rotate_left
 .rw[decide_eq_true g,decide_eq_false n];simp only[o7,oq,cond_true,cond_false,aa];rw[decide_eq_false (λa=>n (by have:=a.2.1;omega))]
 by_cases A:(c.aw.length:Int)=(c.aN.length:Int)
 rotate_left
 .rw[decide_eq_true g,decide_eq_true n];simp only[oq,cond_false];rw[aC A,aa];simp only[cond_true];rw[decide_eq_false (λa=>A (by have:=a.2.2.1;omega))]
 rw[KN (by show c.aw.length<=1000000;omega),aa,cF,aa,ew (ew rfl),fh rfl,fh rfl,ew rfl,fh rfl,fh rfl,aa]
 by_cases y:lz c.aw/\(0<=c.aa0/\c.aa0<=2147483648)/\(c.cn.length:Int)=c.aQ.length/\(c.cf.length:Int)=c.aQ.length/\(c.bp.length:Int)=c.aQ.length
 rotate_left
 .rw[aC (by
   refine .inr (.inr (.inr (gb λe=>y ?_)))
   simp only[not_or,hD] at e;exact⟨e.1,e.2.1,e.2.2.1,e.2.2.2.1,e.2.2.2.2⟩)]
  rw[decide_eq_false (λa=>y (by obtain⟨_,_,_,m,s,E,G,F,_⟩:=a;exact⟨m,s,by omega,by omega,by omega⟩))]
 obtain⟨m,s,E,G,F⟩:=y;rw[aG (by
  intro a;rcases a with a |a |a |a |a |a |a |a
  .exact a g
  .exact a n
  .exact a A
  .exact a m
  .exact a s
  .exact a E
  .exact a G
  .exact a F)]
 have P:=g.2.1;have K:bO (λB=>xm LC c B) 0=c6 (if ∀i,i<c.aQ.length->(λi:Nat=>c5 (¬sj c i)) i=false then .inr () else .inl ()):=by
  refine oD _ _ () (λi l=>?_) ?_
  .obtain⟨r,z⟩:∃r,c.aQ[i]?=c6 r:=⟨_,dk l⟩;obtain⟨d,C⟩:∃d,c.cn[i]?=c6 d:=⟨_,dk (by omega)⟩;obtain⟨b,x⟩:∃b,c.cf[i]?=c6 b:=⟨_,dk (by omega)⟩;obtain⟨f,D⟩:∃f,c.bp[i]?=c6 f:=⟨_,dk (by omega)⟩;have j:sj c i↔((-1<=d/\d<=65535)/\(-1<=b/\b<=c.aa0)/\(d= -1↔b= -1)/\f.length=c.aN.length/\∀h,h∈f->0<=h/\h<=r.dY):=by
    constructor
    .rintro⟨L,O,N,M,t,p,u,v,w⟩;rw[z] at t;rw[C] at p;rw[x] at u;rw[D] at v;injection t with t;injection p with p;injection u with u;injection v with v
     subst t p u v;exact w
    .exact λa=>⟨r,d,b,f,z,C,x,D,a⟩
   unfold xm;rw[aC,bn,C,aa,cF,aa,bn,x,aa,cF,aa,aa,aa,bn,D,aa,aa];have w:(bif (c5 (d= -1) != c5 (b= -1)) then c6 true else c6 (c5 ((f.length:Int)≠(c.aN.length:Int))))=c6 (c5 (¬(d= -1↔b= -1)\/(f.length:Int)≠(c.aN.length:Int))):=by
    by_cases H:d= -1 <;> by_cases k:b= -1 <;> simp[H,k]
   rw[w,fh rfl,fh rfl,aa,aJ]
   by_cases q:(-1<=d/\d<=65535)/\(-1<=b/\b<=c.aa0)/\(d= -1↔b= -1)/\f.length=c.aN.length
   .rw[aG (by
     rintro(a |a |a |a)
     .exact a q.1
     .exact a q.2.1
     .exact a q.2.2.1
     .exact a (by have:=q.2.2.2;omega)),abJ z (by have:=q.2.2.2;show f.length<=_;omega),aa,HA]
    by_cases k:∀h,h∈f->0<=h/\h<=r.dY
    .rw[decide_eq_false (λa=>a k),decide_eq_false (λa=>a (j.2 ⟨q.1,q.2.1,q.2.2.1,q.2.2.2,k⟩))];rfl
    .rw[decide_eq_true k,decide_eq_true (show ¬sj c i from λa=>k (j.1 a).2.2.2.2)];rfl
   .rw[aC (by
     refine gb λe=>q ?_
     simp only[not_or,hD] at e;exact⟨e.1,e.2.1,e.2.2.1,by have:=e.2.2.2;omega⟩),decide_eq_true (show ¬sj c i from λa=>q ⟨(j.1 a).1,(j.1 a).2.1,(j.1 a).2.2.1,(j.1 a).2.2.2.1⟩)]
    rfl
  .unfold xm;rw[aG]
 rw[show LC.loop (λB=>xm LC c B) 0=_ from K,aa]
 by_cases o:∀i,i<c.aQ.length->sj c i
 .rw[if_pos (λi l=>decide_eq_false (λa=>a (o i l))),yv,ajZ g.1 (by show c.aN.length<=_;omega),aa,ot]
  congr 1
  exact decide_eq_decide.2 ⟨λa=>⟨g,by omega,by omega,m,s,by omega,by omega,by omega,o,a⟩,λa=>a.2.2.2.2.2.2.2.2.2⟩
 .rw[if_neg (λJ=>o λi l=>by have:=of_decide_eq_false (J i l);exact j6 this),Sum.elim_inl,decide_eq_false (λa=>o a.2.2.2.2.2.2.2.2.1)]
end Go.X.T
