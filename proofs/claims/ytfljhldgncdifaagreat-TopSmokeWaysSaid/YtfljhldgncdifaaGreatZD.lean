/- For TopSmokeWays, part 4. -/
import Derived.Test.YtfljhldgncdifaaGreatZC
import Derived.Lib.SliceRun
import Derived.Laws.Entries
import Derived.RangeFuncNested
import Derived.RangeFuncBound
import Derived.RangeFuncCalls
import Derived.RangeFuncLeaves
import Derived.RangeFuncBox
import Derived.WalkKit
import Derived.OwnWalkIn
import Derived.TacticsInMore
import Derived.LoopNIn
import Derived.LoopIn
import Derived.Stop.RegionWithIn
import Derived.BigRegionIn
set_option linter.unusedVariables false
set_option linter.unusedSimpArgs false
set_option maxHeartbeats 0
set_option maxRecDepth 100000
set_option maxHeartbeats 2000000
open Go.Proofs.Tryz renaming prog → c3
open Option renaming some → c4, none → d4
open List renaming getElem?_eq_getElem → c5, eq_nil_of_length_eq_zero → d1, getElem?_map → d2, getD_eq_getElem?_getD → dk, not_mem_nil → dt, getElem?_eq_some_iff → dv, length_cons → e0, all_eq_true → e4, mem_cons → e6, mem_cons_of_mem → ec, length_map → ei, map_eq_nil_iff → ej, append_toArray → eo, mem_singleton → ey, mem_cons_self → ez, size_toArray → eH, push_toArray → f1, mem_map → f2
open Array renaming getElem?_eq_some_iff → c6, getD_eq_getD_getElem? → d0, getElem?_setIfInBounds_self_of_lt → d7, replicate_succ → ee, replicate_zero → ef
open Go.Fence renaming wide → c7
open Go.World renaming putObj_heap_other → d3, alloc_heap_new → dd, putObj_heap_same → dT
open Nat renaming le_of_ble_eq_true → d5, zero_le → d8, beq → d9, ble → ea, le_trans → ev
open Bool renaming and_eq_true → d6
open Go.RowKit.Below renaming heap_alloc → e5
open Go.Result renaming andThen_ok → eE
namespace Go.X.T
open Go Go.Aml Go.Bml Go.X Go.Proofs
def aib(b:Lp):aq BT:=cV 17 [46,3,3] [22] λa=>rJ b a.1 a.2.1 a.2.2
def J7(a:Lp):aq BT:=⟨340,2,0,⟨[],[(0,.ns),(1,.v 3)]⟩,⟨[(0,[],.rows 3 22)],[(0,.r 0)]⟩,λb=>CW a b⟩
def ZV(a:Lp):aq BT:=⟨328,1,0,⟨[],[(0,.v 33)]⟩,⟨[(0,[],.rows 3 22)],[(0,.r 0)]⟩,λb=>He a b⟩
def afF(b:Lp):aq BT:=cV 71 [30,38,3] [4] λa=>Bc b a.1 a.2.1 a.2.2
def VX(a:Lp):aq BT:=cV 138 [] [222] λb=>Fx a
def acv(b:Lp):aq BT:=cV 77 [30,3,4] [3] λa=>nK b a.1 a.2.1 a.2.2
def YY(b:Lp):aq BT:=cV 75 [170,174] [4] λa=>wJ b a.1 a.2
def aeU(b:Lp):aq BT:=cV 259 [275,275] [4] λa=>zX b a.1 a.2
def akn(a:Lp):aq BT:=cV 193 [170] [272] λb=>Bg a b
def ap5(b:Lp):aq BT:=⟨194,4,0,⟨[],[(0,.v 174),(1,.q [.v 3]),(2,.q [.v 3,.v 167,.v 168,.v 168]),(3,.q [.v 272])]⟩,⟨[],[(0,.v 4)]⟩,λa=>EN b (Wh a) (aqq a) (ZI a) (aeS a)⟩
def ahe(b:Lp):aq BT:=⟨73,2,0,⟨[],[(0,.v 167),(1,.f 194 [] [.q [.v 3],.q [.v 3,.v 167,.v 168,.v 168],.q [.v 272]])]⟩,⟨[],[(0,.v 3)]⟩,λa=>Aj b (afq a) (akl a) (aic a) (am5 a)⟩
def amH(b:Lp):aq BT:=⟨117,2,0,⟨[],[(0,.v 170),(1,.v 3)]⟩,⟨[(0,[],.rows 3 22),(2,[],.rows 3 22)],[(0,.r 0),(1,.v 3),(2,.r 1),(3,.v 4)]⟩,λa=>yN b a.1 a.2⟩
def V6(b:Lp):aq BT:=⟨119,2,0,⟨[],[(0,.v 174),(1,.q [.v 22])]⟩,⟨[],[(0,.v 4)]⟩,λa=>ye b a.1 a.2⟩
def aju(b:Lp):aq BT:=⟨73,2,0,⟨[],[(0,.v 167),(1,.f 119 [] [.q [.v 22]])]⟩,⟨[],[(0,.v 3)]⟩,λa=>AM b a.1 a.2⟩
def ao5(b:Lp):aq BT:=⟨118,2,0,⟨[(0,[],.rows 174 167)],[(0,.r 0),(1,.f 119 [] [.q [.v 22]])]⟩,⟨[(0,[],.rows 174 167)],[(0,.r 0)]⟩,λa=>Bm b a.1 a.2⟩
def Y7(b:Lp):aq BT:=⟨72,2,0,⟨[],[(0,.v 30),(1,.v 38)]⟩,⟨[(0,[1],.rows 174 167),(0,[3],.rows 4 168)],[(0,.g [.v 3,.r 0,.v 168,.r 1])]⟩,λa=>DM b a.1 a.2⟩
def alI(b:Lp):aq BT:=cV 52 [30,38,3] [22,22,144,4] λa=>r7 b a.1 a.2.1 a.2.2
def UY(b:Lp):aq BT:=cV 29 [30,3] [3] λa=>v7 b a.1 a.2
def abF(b:Lp):aq BT:=cV 203 [30,38,3] [4] λa=>r6 b a.1 a.2.1 a.2.2
def aod(b:Lp):aq BT:=⟨305,3,0,⟨[],[(0,.v 3),(1,.q [.v 27,.v 28]),(2,.q [.v 22,.v 22,.v 22,.v 3])]⟩,⟨[],[(0,.v 4)]⟩,λa=>w5 b (Zl a) (Wt a) (ace a)⟩
def X6(b:Lp):aq BT:=⟨147,2,0,⟨[],[(0,.v 22),(1,.f 305 [] [.q [.v 27,.v 28],.q [.v 22,.v 22,.v 22,.v 3]])]⟩,⟨[],[(0,.v 3)]⟩,λa=>ER b (Q5 a) (Qh a) (Sc a)⟩
def ad6(b:Lp):aq BT:=⟨256,2,0,⟨[(0,[],.rows 3 22)],[(0,.r 0),(1,.f 305 [] [.q [.v 27,.v 28],.q [.v 22,.v 22,.v 22,.v 3]])]⟩,⟨[(0,[],.rows 3 22)],[(0,.r 0)]⟩,λa=>zr b (Q5 a) (Qh a) (Sc a)⟩
def T9(a:Lp):aq BT:=⟨329,1,0,⟨[(0,[],.rows 3 22)],[(0,.r 0)]⟩,⟨[(0,[],.rows 3 22)],[(0,.r 0)]⟩,λb=>ED a b⟩
def aaG(b:Lp):aq BT:=⟨304,2,0,⟨[],[(0,.v 22),(1,.v 22)]⟩,⟨[(0,[],.rows 3 22)],[(0,.r 0)]⟩,λa=>zT b a.1 a.2⟩
def agr(b:Lp):aq BT:=cV 255 [30,38,46,3] [22] λa=>Bo b a.1 a.2.1 a.2.2.1 a.2.2.2
def alL(b:Lp):aq BT:=⟨257,2,0,⟨[],[(0,.v 3),(1,.q [.v 22])]⟩,⟨[],[(0,.v 4)]⟩,λa=>za b a.1 a.2⟩
def ade(b:Lp):aq BT:=⟨147,2,0,⟨[],[(0,.v 22),(1,.f 257 [] [.q [.v 22]])]⟩,⟨[],[(0,.v 3)]⟩,λa=>zU b a.1 a.2⟩
def aiM(b:Lp):aq BT:=⟨256,2,0,⟨[(0,[],.rows 3 22)],[(0,.r 0),(1,.f 257 [] [.q [.v 22]])]⟩,⟨[(0,[],.rows 3 22)],[(0,.r 0)]⟩,λa=>Av b a.1 a.2⟩
def aoh(b:Lp):aq BT:=cV 188 [30,38,46,22,22,22,3,3] [30,22,67] λa=>zJ b a.1 a.2.1 a.2.2.1 a.2.2.2.1 a.2.2.2.2.1 a.2.2.2.2.2.1 a.2.2.2.2.2.2.1 a.2.2.2.2.2.2.2
def afy(b:Lp):aq BT:=cV 189 [40,52,3] [52,67] λa=>BY b a.1 a.2.1 a.2.2
def ak5(a:Lp):aq BT:=cV 190 [50] [50,67] λb=>vQ a b
def Ud(b:Lp):aq BT:=cV 191 [50,3] [50,67] λa=>qu b a.1 a.2
def ahV(b:Lp):aq BT:=cV 192 [50,3] [50,67] λa=>vJ b a.1 a.2
def anq:bY:=⟨[(0,[35],.rows 83 54)],[(0,.g [.v 27,.v 28,.v 3,.v 31,.v 22,.v 32,.v 22,.v 22,.v 33,.v 27,.v 28,.v 36,.v 22,.v 22,.v 22,.v 3,.v 22,.v 3,.v 3,.v 41,.v 41,.v 22,.v 22,.v 44,.v 3,.v 22,.v 22,.v 22,.v 4,.v 3,.v 3,.v 3,.v 3,.v 44,.v 53,.r 0])]⟩
def V8(a:Lp):aq BT:=⟨44,1,0,⟨[],[(0,.v 56)]⟩,anq,λb=>Cp a b⟩
def acD:bY:=⟨[(0,[19],.rows 101 41),(0,[20],.rows 101 41),(0,[35],.rows 83 54),(0,[],.box 133 [.v 27,.v 28,.v 3,.v 31,.v 22,.v 32,.v 22,.v 22,.v 33,.v 27,.v 28,.v 36,.v 22,.v 22,.v 22,.v 3,.v 22,.v 3,.v 3,.r 0,.r 1,.v 22,.v 22,.v 44,.v 3,.v 22,.v 22,.v 22,.v 4,.v 3,.v 3,.v 3,.v 3,.v 44,.v 53,.r 2,.v 22])],[(0,.p 3),(1,.v 65)]⟩
def aaf:bY:=⟨[(100000,[],.rows 101 41),(100001,[],.rows 101 41),(100002,[],.rows 83 54),(100003,[],.box 133 [.v 27,.v 28,.v 3,.v 31,.v 22,.v 32,.v 22,.v 22,.v 33,.v 27,.v 28,.v 36,.v 22,.v 22,.v 22,.v 3,.v 22,.v 3,.v 3,.r 0,.r 1,.v 22,.v 22,.v 44,.v 3,.v 22,.v 22,.v 22,.v 4,.v 3,.v 3,.v 3,.v 3,.v 44,.v 53,.r 2,.v 22])],[(0,.v 67)]⟩
def afk(b:Lp):aq BT:=⟨103,2,4,acD,aaf,λa=>xR b (kU a) (kT a)⟩
def akX:bY:=⟨[(0,[19],.rows 101 41),(0,[20],.rows 101 41),(0,[35],.rows 83 54)],[(0,.g [.v 27,.v 28,.v 3,.v 31,.v 22,.v 32,.v 22,.v 22,.v 33,.v 27,.v 28,.v 36,.v 22,.v 22,.v 22,.v 3,.v 22,.v 3,.v 3,.r 0,.r 1,.v 22,.v 22,.v 44,.v 3,.v 22,.v 22,.v 22,.v 4,.v 3,.v 3,.v 3,.v 3,.v 44,.v 53,.r 2])]⟩
def apV(a:Lp):aq BT:=⟨44,1,0,⟨[],[(0,.v 56)]⟩,akX,λb=>Dr a b⟩
def ZR:bY:=⟨[(0,[19],.rows 101 41),(0,[20],.rows 101 41),(0,[35],.rows 83 54),(0,[],.box 133 [.v 27,.v 28,.v 3,.v 31,.v 22,.v 32,.v 22,.v 22,.v 33,.v 27,.v 28,.v 36,.v 22,.v 22,.v 22,.v 3,.v 22,.v 3,.v 3,.r 0,.r 1,.v 22,.v 22,.v 44,.v 3,.v 22,.v 22,.v 22,.v 4,.v 3,.v 3,.v 3,.v 3,.v 44,.v 53,.r 2,.v 22])],[(0,.p 3),(1,.v 65)]⟩
def ae0:bY:=⟨[(100000,[],.rows 101 41),(100001,[],.rows 101 41),(100002,[],.rows 83 54),(100003,[],.box 133 [.v 27,.v 28,.v 3,.v 31,.v 22,.v 32,.v 22,.v 22,.v 33,.v 27,.v 28,.v 36,.v 22,.v 22,.v 22,.v 3,.v 22,.v 3,.v 3,.r 0,.r 1,.v 22,.v 22,.v 44,.v 3,.v 22,.v 22,.v 22,.v 4,.v 3,.v 3,.v 3,.v 3,.v 44,.v 53,.r 2,.v 22])],[(0,.v 67)]⟩
def acQ(b:Lp):aq BT:=⟨104,2,4,ZR,ae0,λa=>yV b (kU a) (kT a)⟩
def apo:bY:=⟨[(0,[19],.rows 101 41),(0,[20],.rows 101 41),(0,[35],.rows 83 54),(0,[],.box 133 [.v 27,.v 28,.v 3,.v 31,.v 22,.v 32,.v 22,.v 22,.v 33,.v 27,.v 28,.v 36,.v 22,.v 22,.v 22,.v 3,.v 22,.v 3,.v 3,.r 0,.r 1,.v 22,.v 22,.v 44,.v 3,.v 22,.v 22,.v 22,.v 4,.v 3,.v 3,.v 3,.v 3,.v 44,.v 53,.r 2,.v 22])],[(0,.p 3),(1,.v 65)]⟩
def ang:bY:=⟨[(100000,[],.rows 101 41),(100001,[],.rows 101 41),(100002,[],.rows 83 54),(100003,[],.box 133 [.v 27,.v 28,.v 3,.v 31,.v 22,.v 32,.v 22,.v 22,.v 33,.v 27,.v 28,.v 36,.v 22,.v 22,.v 22,.v 3,.v 22,.v 3,.v 3,.r 0,.r 1,.v 22,.v 22,.v 44,.v 3,.v 22,.v 22,.v 22,.v 4,.v 3,.v 3,.v 3,.v 3,.v 44,.v 53,.r 2,.v 22])],[(0,.v 67)]⟩
def VQ(b:Lp):aq BT:=⟨105,2,4,apo,ang,λa=>yT b (kU a) (kT a)⟩
def acn:bY:=⟨[(2,[],.box 251 [.v 3,.v 3,.v 3,.v 3]),(3,[],.box 120 [.v 22,.v 3,.v 3,.v 3]),(4,[0,19],.rows 101 41),(4,[0,35],.rows 83 54),(4,[0],.box 133 [.v 27,.v 28,.v 3,.v 31,.v 22,.v 32,.v 22,.v 22,.v 33,.v 27,.v 28,.v 36,.v 22,.v 22,.v 22,.v 3,.v 22,.v 3,.v 3,.r 2,.v 41,.v 22,.v 22,.v 44,.v 3,.v 22,.v 22,.v 22,.v 4,.v 3,.v 3,.v 3,.v 3,.v 44,.v 53,.r 3,.v 22]),(4,[],.box 130 [.p 4])],[(0,.v 30),(1,.v 46),(2,.p 0),(3,.p 1),(4,.p 5)]⟩
def ahm:bY:=⟨[(100000,[],.box 251 [.v 3,.v 3,.v 3,.v 3]),(100001,[],.box 120 [.v 22,.v 3,.v 3,.v 3]),(100002,[],.rows 101 41),(100003,[],.rows 83 54),(100004,[],.box 133 [.v 27,.v 28,.v 3,.v 31,.v 22,.v 32,.v 22,.v 22,.v 33,.v 27,.v 28,.v 36,.v 22,.v 22,.v 22,.v 3,.v 22,.v 3,.v 3,.r 2,.v 41,.v 22,.v 22,.v 44,.v 3,.v 22,.v 22,.v 22,.v 4,.v 3,.v 3,.v 3,.v 3,.v 44,.v 53,.r 3,.v 22]),(100005,[],.box 130 [.p 4])],[(0,.v 46),(1,.v 67)]⟩
def aff(b:Lp):aq BT:=⟨167,5,6,acn,ahm,λa=>uX b (aeD a) (acw a) (ahv a) (amb a) (aj7 a)⟩
def Vf:bY:=⟨[(0,[19],.rows 101 41),(0,[35],.rows 83 54),(0,[],.box 133 [.v 27,.v 28,.v 3,.v 31,.v 22,.v 32,.v 22,.v 22,.v 33,.v 27,.v 28,.v 36,.v 22,.v 22,.v 22,.v 3,.v 22,.v 3,.v 3,.r 0,.v 41,.v 22,.v 22,.v 44,.v 3,.v 22,.v 22,.v 22,.v 4,.v 3,.v 3,.v 3,.v 3,.v 44,.v 53,.r 1,.v 22]),(1,[0],.box 251 [.v 3,.v 3,.v 3,.v 3]),(1,[1],.box 120 [.v 22,.v 3,.v 3,.v 3]),(1,[2],.box 130 [.p 2])],[(0,.p 2),(1,.f 167 [] [.p 3,.p 4,.p 5])]⟩
def apK:bY:=⟨[(100000,[],.rows 101 41),(100001,[],.rows 83 54),(100002,[],.box 133 [.v 27,.v 28,.v 3,.v 31,.v 22,.v 32,.v 22,.v 22,.v 33,.v 27,.v 28,.v 36,.v 22,.v 22,.v 22,.v 3,.v 22,.v 3,.v 3,.r 0,.v 41,.v 22,.v 22,.v 44,.v 3,.v 22,.v 22,.v 22,.v 4,.v 3,.v 3,.v 3,.v 3,.v 44,.v 53,.r 1,.v 22]),(100003,[],.box 251 [.v 3,.v 3,.v 3,.v 3]),(100004,[],.box 120 [.v 22,.v 3,.v 3,.v 3]),(100005,[],.box 130 [.p 2])],[]⟩
def YU(b:Lp):aq BT:=⟨166,2,6,Vf,apK,λa=>A5 b (MU a) (Me a) (N4 a)⟩
def aeP:bY:=⟨[(0,[19],.rows 101 41),(0,[35],.rows 83 54),(0,[],.box 133 [.v 27,.v 28,.v 3,.v 31,.v 22,.v 32,.v 22,.v 22,.v 33,.v 27,.v 28,.v 36,.v 22,.v 22,.v 22,.v 3,.v 22,.v 3,.v 3,.r 0,.v 41,.v 22,.v 22,.v 44,.v 3,.v 22,.v 22,.v 22,.v 4,.v 3,.v 3,.v 3,.v 3,.v 44,.v 53,.r 1,.v 22]),(1,[0],.box 3 [.v 3]),(1,[1],.box 120 [.v 22,.v 3,.v 3,.v 3]),(1,[2],.box 312 [.v 3,.v 3,.v 3,.v 3]),(1,[3],.box 3 [.v 3])],[(0,.p 2),(1,.f 232 [] [.p 3,.p 4,.p 5,.p 6])]⟩
def ajB:bY:=⟨[(100000,[],.rows 101 41),(100001,[],.rows 83 54),(100002,[],.box 133 [.v 27,.v 28,.v 3,.v 31,.v 22,.v 32,.v 22,.v 22,.v 33,.v 27,.v 28,.v 36,.v 22,.v 22,.v 22,.v 3,.v 22,.v 3,.v 3,.r 0,.v 41,.v 22,.v 22,.v 44,.v 3,.v 22,.v 22,.v 22,.v 4,.v 3,.v 3,.v 3,.v 3,.v 44,.v 53,.r 1,.v 22]),(100003,[],.box 3 [.v 3]),(100004,[],.box 120 [.v 22,.v 3,.v 3,.v 3]),(100005,[],.box 312 [.v 3,.v 3,.v 3,.v 3]),(100006,[],.box 3 [.v 3])],[]⟩
def ahD(b:Lp):aq BT:=⟨166,2,7,aeP,ajB,λa=>zg b (M2 a) (OW a) (N9 a) (P1 a) (RU a)⟩
def Yl:bY:=⟨[(0,[19],.rows 101 41),(0,[35],.rows 83 54),(0,[],.box 133 [.v 27,.v 28,.v 3,.v 31,.v 22,.v 32,.v 22,.v 22,.v 33,.v 27,.v 28,.v 36,.v 22,.v 22,.v 22,.v 3,.v 22,.v 3,.v 3,.r 0,.v 41,.v 22,.v 22,.v 44,.v 3,.v 22,.v 22,.v 22,.v 4,.v 3,.v 3,.v 3,.v 3,.v 44,.v 53,.r 1,.v 22])],[(0,.p 2),(1,.v 3),(2,.v 3)]⟩
def Vv:bY:=⟨[(100000,[],.rows 101 41),(100001,[],.rows 83 54),(100002,[],.box 133 [.v 27,.v 28,.v 3,.v 31,.v 22,.v 32,.v 22,.v 22,.v 33,.v 27,.v 28,.v 36,.v 22,.v 22,.v 22,.v 3,.v 22,.v 3,.v 3,.r 0,.v 41,.v 22,.v 22,.v 44,.v 3,.v 22,.v 22,.v 22,.v 4,.v 3,.v 3,.v 3,.v 3,.v 44,.v 53,.r 1,.v 22])],[]⟩
def abq(b:Lp):aq BT:=⟨170,3,3,Yl,Vv,λa=>Eb b (Vp a) (apR a) (Y6 a)⟩
def ag8:bY:=⟨[(0,[19],.rows 101 41),(0,[35],.rows 83 54),(0,[],.box 133 [.v 27,.v 28,.v 3,.v 31,.v 22,.v 32,.v 22,.v 22,.v 33,.v 27,.v 28,.v 36,.v 22,.v 22,.v 22,.v 3,.v 22,.v 3,.v 3,.r 0,.r 3,.v 22,.v 22,.v 44,.v 3,.v 22,.v 22,.v 22,.v 4,.v 3,.v 3,.v 3,.v 3,.v 44,.v 53,.r 1,.v 22]),(0,[20],.rows 101 41)],[(0,.p 2),(1,.v 65)]⟩
def alR:bY:=⟨[(100000,[],.rows 101 41),(100001,[],.rows 83 54),(100002,[],.box 133 [.v 27,.v 28,.v 3,.v 31,.v 22,.v 32,.v 22,.v 22,.v 33,.v 27,.v 28,.v 36,.v 22,.v 22,.v 22,.v 3,.v 22,.v 3,.v 3,.r 0,.v 41,.v 22,.v 22,.v 44,.v 3,.v 22,.v 22,.v 22,.v 4,.v 3,.v 3,.v 3,.v 3,.v 44,.v 53,.r 1,.v 22])],[(0,.v 67)]⟩
def ajT(b:Lp):aq BT:=⟨106,2,3,ag8,alR,λa=>wP b (agZ a) (aeX a)⟩
def aps:bY:=⟨[(0,[19],.rows 101 41),(0,[20],.rows 101 41),(0,[35],.rows 83 54),(0,[],.box 133 [.v 27,.v 28,.v 3,.v 31,.v 22,.v 32,.v 22,.v 22,.v 33,.v 27,.v 28,.v 36,.v 22,.v 22,.v 22,.v 3,.v 22,.v 3,.v 3,.r 0,.r 1,.v 22,.v 22,.v 44,.v 3,.v 22,.v 22,.v 22,.v 4,.v 3,.v 3,.v 3,.v 3,.v 44,.v 53,.r 2,.v 22])],[(0,.p 3),(1,.v 65)]⟩
def YF:bY:=⟨[(100000,[],.rows 101 41),(100001,[],.rows 101 41),(100002,[],.rows 83 54),(100003,[],.box 133 [.v 27,.v 28,.v 3,.v 31,.v 22,.v 32,.v 22,.v 22,.v 33,.v 27,.v 28,.v 36,.v 22,.v 22,.v 22,.v 3,.v 22,.v 3,.v 3,.r 0,.r 1,.v 22,.v 22,.v 44,.v 3,.v 22,.v 22,.v 22,.v 4,.v 3,.v 3,.v 3,.v 3,.v 44,.v 53,.r 2,.v 22])],[(0,.v 67)]⟩
def adV(b:Lp):aq BT:=⟨107,2,4,aps,YF,λa=>yb b (kU a) (kT a)⟩
def ajo:bY:=⟨[(0,[19],.rows 101 41),(0,[20],.rows 101 41),(0,[35],.rows 83 54),(0,[],.box 133 [.v 27,.v 28,.v 3,.v 31,.v 22,.v 32,.v 22,.v 22,.v 33,.v 27,.v 28,.v 36,.v 22,.v 22,.v 22,.v 3,.v 22,.v 3,.v 3,.r 0,.r 1,.v 22,.v 22,.v 44,.v 3,.v 22,.v 22,.v 22,.v 4,.v 3,.v 3,.v 3,.v 3,.v 44,.v 53,.r 2,.v 22])],[(0,.p 3),(1,.v 65)]⟩
def aon:bY:=⟨[(100000,[],.rows 101 41),(100001,[],.rows 101 41),(100002,[],.rows 83 54),(100003,[],.box 133 [.v 27,.v 28,.v 3,.v 31,.v 22,.v 32,.v 22,.v 22,.v 33,.v 27,.v 28,.v 36,.v 22,.v 22,.v 22,.v 3,.v 22,.v 3,.v 3,.r 0,.r 1,.v 22,.v 22,.v 44,.v 3,.v 22,.v 22,.v 22,.v 4,.v 3,.v 3,.v 3,.v 3,.v 44,.v 53,.r 2,.v 22])],[(0,.v 67)]⟩
def al7(b:Lp):aq BT:=⟨108,2,4,ajo,aon,λa=>xy b (kU a) (kT a)⟩
def Vj:bY:=⟨[(0,[19],.rows 101 41),(0,[20],.rows 101 41),(0,[35],.rows 83 54),(0,[],.box 133 [.v 27,.v 28,.v 3,.v 31,.v 22,.v 32,.v 22,.v 22,.v 33,.v 27,.v 28,.v 36,.v 22,.v 22,.v 22,.v 3,.v 22,.v 3,.v 3,.r 0,.r 1,.v 22,.v 22,.v 44,.v 3,.v 22,.v 22,.v 22,.v 4,.v 3,.v 3,.v 3,.v 3,.v 44,.v 53,.r 2,.v 22])],[(0,.p 3),(1,.v 65)]⟩
def abb:bY:=⟨[(100000,[],.rows 101 41),(100001,[],.rows 101 41),(100002,[],.rows 83 54),(100003,[],.box 133 [.v 27,.v 28,.v 3,.v 31,.v 22,.v 32,.v 22,.v 22,.v 33,.v 27,.v 28,.v 36,.v 22,.v 22,.v 22,.v 3,.v 22,.v 3,.v 3,.r 0,.r 1,.v 22,.v 22,.v 44,.v 3,.v 22,.v 22,.v 22,.v 4,.v 3,.v 3,.v 3,.v 3,.v 44,.v 53,.r 2,.v 22])],[(0,.v 67)]⟩
def agf(b:Lp):aq BT:=⟨109,2,4,Vj,abb,λa=>vA b (kU a) (kT a)⟩
def alD:bY:=⟨[(0,[19],.rows 101 41),(0,[20],.rows 101 41),(0,[35],.rows 83 54),(0,[],.box 133 [.v 27,.v 28,.v 3,.v 31,.v 22,.v 32,.v 22,.v 22,.v 33,.v 27,.v 28,.v 36,.v 22,.v 22,.v 22,.v 3,.v 22,.v 3,.v 3,.r 0,.r 1,.v 22,.v 22,.v 44,.v 3,.v 22,.v 22,.v 22,.v 4,.v 3,.v 3,.v 3,.v 3,.v 44,.v 53,.r 2,.v 22])],[(0,.p 3),(1,.v 65)]⟩
def ajG:bY:=⟨[(100000,[],.rows 101 41),(100001,[],.rows 101 41),(100002,[],.rows 83 54),(100003,[],.box 133 [.v 27,.v 28,.v 3,.v 31,.v 22,.v 32,.v 22,.v 22,.v 33,.v 27,.v 28,.v 36,.v 22,.v 22,.v 22,.v 3,.v 22,.v 3,.v 3,.r 0,.r 1,.v 22,.v 22,.v 44,.v 3,.v 22,.v 22,.v 22,.v 4,.v 3,.v 3,.v 3,.v 3,.v 44,.v 53,.r 2,.v 22])],[(0,.v 67)]⟩
def aoB(b:Lp):aq BT:=⟨110,2,4,alD,ajG,λa=>vm b (kU a) (kT a)⟩
def Yu:bY:=⟨[(0,[19],.rows 101 41),(0,[20],.rows 101 41),(0,[35],.rows 83 54),(0,[],.box 133 [.v 27,.v 28,.v 3,.v 31,.v 22,.v 32,.v 22,.v 22,.v 33,.v 27,.v 28,.v 36,.v 22,.v 22,.v 22,.v 3,.v 22,.v 3,.v 3,.r 0,.r 1,.v 22,.v 22,.v 44,.v 3,.v 22,.v 22,.v 22,.v 4,.v 3,.v 3,.v 3,.v 3,.v 44,.v 53,.r 2,.v 22])],[(0,.p 3),(1,.v 65)]⟩
def adD:bY:=⟨[(100000,[],.rows 101 41),(100001,[],.rows 101 41),(100002,[],.rows 83 54),(100003,[],.box 133 [.v 27,.v 28,.v 3,.v 31,.v 22,.v 32,.v 22,.v 22,.v 33,.v 27,.v 28,.v 36,.v 22,.v 22,.v 22,.v 3,.v 22,.v 3,.v 3,.r 0,.r 1,.v 22,.v 22,.v 44,.v 3,.v 22,.v 22,.v 22,.v 4,.v 3,.v 3,.v 3,.v 3,.v 44,.v 53,.r 2,.v 22])],[(0,.v 67)]⟩
def aby(b:Lp):aq BT:=⟨111,2,4,Yu,adD,λa=>wR b (kU a) (kT a)⟩
def an7:bY:=⟨[(0,[19],.rows 101 41),(0,[20],.rows 101 41),(0,[35],.rows 83 54),(0,[],.box 133 [.v 27,.v 28,.v 3,.v 31,.v 22,.v 32,.v 22,.v 22,.v 33,.v 27,.v 28,.v 36,.v 22,.v 22,.v 22,.v 3,.v 22,.v 3,.v 3,.r 0,.r 1,.v 22,.v 22,.v 44,.v 3,.v 22,.v 22,.v 22,.v 4,.v 3,.v 3,.v 3,.v 3,.v 44,.v 53,.r 2,.v 22])],[(0,.p 3),(1,.v 65)]⟩
def alX:bY:=⟨[(100000,[],.rows 101 41),(100001,[],.rows 101 41),(100002,[],.rows 83 54),(100003,[],.box 133 [.v 27,.v 28,.v 3,.v 31,.v 22,.v 32,.v 22,.v 22,.v 33,.v 27,.v 28,.v 36,.v 22,.v 22,.v 22,.v 3,.v 22,.v 3,.v 3,.r 0,.r 1,.v 22,.v 22,.v 44,.v 3,.v 22,.v 22,.v 22,.v 4,.v 3,.v 3,.v 3,.v 3,.v 44,.v 53,.r 2,.v 22])],[(0,.v 67)]⟩
def Uo(b:Lp):aq BT:=⟨112,2,4,an7,alX,λa=>yu b (kU a) (kT a)⟩
def aaZ:bY:=⟨[(0,[19],.rows 101 41),(0,[20],.rows 101 41),(0,[35],.rows 83 54),(0,[],.box 133 [.v 27,.v 28,.v 3,.v 31,.v 22,.v 32,.v 22,.v 22,.v 33,.v 27,.v 28,.v 36,.v 22,.v 22,.v 22,.v 3,.v 22,.v 3,.v 3,.r 0,.r 1,.v 22,.v 22,.v 44,.v 3,.v 22,.v 22,.v 22,.v 4,.v 3,.v 3,.v 3,.v 3,.v 44,.v 53,.r 2,.v 22])],[(0,.p 3),(1,.v 3)]⟩
def af2:bY:=⟨[(100000,[],.rows 101 41),(100001,[],.rows 101 41),(100002,[],.rows 83 54),(100003,[],.box 133 [.v 27,.v 28,.v 3,.v 31,.v 22,.v 32,.v 22,.v 22,.v 33,.v 27,.v 28,.v 36,.v 22,.v 22,.v 22,.v 3,.v 22,.v 3,.v 3,.r 0,.r 1,.v 22,.v 22,.v 44,.v 3,.v 22,.v 22,.v 22,.v 4,.v 3,.v 3,.v 3,.v 3,.v 44,.v 53,.r 2,.v 22])],[(0,.v 67)]⟩
def adZ(b:Lp):aq BT:=⟨187,2,4,aaZ,af2,λa=>xg b (ams a) (UW a)⟩
def aqF:bY:=⟨[(0,[19],.rows 101 41),(0,[20],.rows 101 41),(0,[35],.rows 83 54),(0,[],.box 133 [.v 27,.v 28,.v 3,.v 31,.v 22,.v 32,.v 22,.v 22,.v 33,.v 27,.v 28,.v 36,.v 22,.v 22,.v 22,.v 3,.v 22,.v 3,.v 3,.r 0,.r 1,.v 22,.v 22,.v 44,.v 3,.v 22,.v 22,.v 22,.v 4,.v 3,.v 3,.v 3,.v 3,.v 44,.v 53,.r 2,.v 22])],[(0,.p 3),(1,.v 65)]⟩
def aoo:bY:=⟨[(100000,[],.rows 101 41),(100001,[],.rows 101 41),(100002,[],.rows 83 54),(100003,[],.box 133 [.v 27,.v 28,.v 3,.v 31,.v 22,.v 32,.v 22,.v 22,.v 33,.v 27,.v 28,.v 36,.v 22,.v 22,.v 22,.v 3,.v 22,.v 3,.v 3,.r 0,.r 1,.v 22,.v 22,.v 44,.v 3,.v 22,.v 22,.v 22,.v 4,.v 3,.v 3,.v 3,.v 3,.v 44,.v 53,.r 2,.v 22])],[(0,.v 67)]⟩
def W7(b:Lp):aq BT:=⟨113,2,4,aqF,aoo,λa=>tM b (kU a) (kT a)⟩
def adp:bY:=⟨[(0,[19],.rows 101 41),(0,[20],.rows 101 41),(0,[35],.rows 83 54),(0,[],.box 133 [.v 27,.v 28,.v 3,.v 31,.v 22,.v 32,.v 22,.v 22,.v 33,.v 27,.v 28,.v 36,.v 22,.v 22,.v 22,.v 3,.v 22,.v 3,.v 3,.r 0,.r 1,.v 22,.v 22,.v 44,.v 3,.v 22,.v 22,.v 22,.v 4,.v 3,.v 3,.v 3,.v 3,.v 44,.v 53,.r 2,.v 22])],[(0,.p 3),(1,.v 65)]⟩
def ain:bY:=⟨[(100000,[],.rows 101 41),(100001,[],.rows 101 41),(100002,[],.rows 83 54),(100003,[],.box 133 [.v 27,.v 28,.v 3,.v 31,.v 22,.v 32,.v 22,.v 22,.v 33,.v 27,.v 28,.v 36,.v 22,.v 22,.v 22,.v 3,.v 22,.v 3,.v 3,.r 0,.r 1,.v 22,.v 22,.v 44,.v 3,.v 22,.v 22,.v 22,.v 4,.v 3,.v 3,.v 3,.v 3,.v 44,.v 53,.r 2,.v 22])],[(0,.v 67)]⟩
def agl(b:Lp):aq BT:=⟨113,2,4,adp,ain,λa=>Qt b (kU a) (kT a)⟩
def WG:bY:=⟨[(0,[19],.rows 101 41),(0,[20],.rows 101 41),(0,[35],.rows 83 54),(0,[],.box 133 [.v 27,.v 28,.v 3,.v 31,.v 22,.v 32,.v 22,.v 22,.v 33,.v 27,.v 28,.v 36,.v 22,.v 22,.v 22,.v 3,.v 22,.v 3,.v 3,.r 0,.r 1,.v 22,.v 22,.v 44,.v 3,.v 22,.v 22,.v 22,.v 4,.v 3,.v 3,.v 3,.v 3,.v 44,.v 53,.r 2,.v 22])],[(0,.p 3),(1,.v 65)]⟩
def Ui:bY:=⟨[(100000,[],.rows 101 41),(100001,[],.rows 101 41),(100002,[],.rows 83 54),(100003,[],.box 133 [.v 27,.v 28,.v 3,.v 31,.v 22,.v 32,.v 22,.v 22,.v 33,.v 27,.v 28,.v 36,.v 22,.v 22,.v 22,.v 3,.v 22,.v 3,.v 3,.r 0,.r 1,.v 22,.v 22,.v 44,.v 3,.v 22,.v 22,.v 22,.v 4,.v 3,.v 3,.v 3,.v 3,.v 44,.v 53,.r 2,.v 22])],[(0,.v 67)]⟩
def Z7(b:Lp):aq BT:=⟨114,2,4,WG,Ui,λa=>xQ b (kU a) (kT a)⟩
def afP:bY:=⟨[(0,[19],.rows 101 41),(0,[20],.rows 101 41),(0,[35],.rows 83 54),(0,[],.box 133 [.v 27,.v 28,.v 3,.v 31,.v 22,.v 32,.v 22,.v 22,.v 33,.v 27,.v 28,.v 36,.v 22,.v 22,.v 22,.v 3,.v 22,.v 3,.v 3,.r 0,.r 1,.v 22,.v 22,.v 44,.v 3,.v 22,.v 22,.v 22,.v 4,.v 3,.v 3,.v 3,.v 3,.v 44,.v 53,.r 2,.v 22])],[(0,.p 3),(1,.v 65)]⟩
def akP:bY:=⟨[(100000,[],.rows 101 41),(100001,[],.rows 101 41),(100002,[],.rows 83 54),(100003,[],.box 133 [.v 27,.v 28,.v 3,.v 31,.v 22,.v 32,.v 22,.v 22,.v 33,.v 27,.v 28,.v 36,.v 22,.v 22,.v 22,.v 3,.v 22,.v 3,.v 3,.r 0,.r 1,.v 22,.v 22,.v 44,.v 3,.v 22,.v 22,.v 22,.v 4,.v 3,.v 3,.v 3,.v 3,.v 44,.v 53,.r 2,.v 22])],[(0,.v 67)]⟩
def aiD(b:Lp):aq BT:=⟨115,2,4,afP,akP,λa=>xE b (kU a) (kT a)⟩
def ZG(b:Lp):aq BT:=cV 15 [56,65] [56,67] λa=>w7 b a.1 a.2
def afr(b:Lp):aq BT:=cV 20 [56,62] [56] λa=>Rs b a.1 a.2
def ak3(a:Lp):aq BT:=cV 65 [] [159] λb=>Ol a
def acg:bY:=⟨[],[(0,.v 140),(1,.q [.v 27,.v 28,.v 3,.v 31,.v 22,.v 32,.v 22,.v 22,.v 33,.v 27,.v 28,.v 36,.v 22,.v 22,.v 22,.v 3,.v 22,.v 3,.v 3,.v 41,.v 41,.v 22,.v 22,.v 44,.v 3,.v 22,.v 22,.v 22,.v 4,.v 3,.v 3,.v 3,.v 3,.v 44,.v 53,.v 54])]⟩
def ZY(b:Lp):aq BT:=⟨195,2,0,acg,⟨[],[(0,.v 4)]⟩,λa=>Qz b (VG a) (abC a)⟩
def afJ:bY:=⟨[],[(0,.v 44),(1,.f 195 [] [.q [.v 27,.v 28,.v 3,.v 31,.v 22,.v 32,.v 22,.v 22,.v 33,.v 27,.v 28,.v 36,.v 22,.v 22,.v 22,.v 3,.v 22,.v 3,.v 3,.v 41,.v 41,.v 22,.v 22,.v 44,.v 3,.v 22,.v 22,.v 22,.v 4,.v 3,.v 3,.v 3,.v 3,.v 44,.v 53,.v 54]])]⟩
def akB(b:Lp):aq BT:=⟨116,2,0,afJ,⟨[],[(0,.v 3)]⟩,λa=>Ma b (QN a) (P0 a)⟩
def aqa:bY:=⟨[],[(0,.v 44),(1,.f 195 [] [.q [.v 27,.v 28,.v 3,.v 31,.v 22,.v 32,.v 22,.v 22,.v 33,.v 27,.v 28,.v 36,.v 22,.v 22,.v 22,.v 3,.v 22,.v 3,.v 3,.v 41,.v 41,.v 22,.v 22,.v 44,.v 3,.v 22,.v 22,.v 22,.v 4,.v 3,.v 3,.v 3,.v 3,.v 44,.v 53,.v 54]])]⟩
def anU(b:Lp):aq BT:=⟨49,2,0,aqa,⟨[],[(0,.v 4)]⟩,λa=>Th b (QN a) (P0 a)⟩
def afg(b:Lp):aq BT:=cV 122 [56,46] [4] λa=>GK b a.1 a.2
def akN(a:Lp):aq BT:=cV 121 [56] [4] λb=>LL a b
def aqp(a:Lp):aq BT:=cV 123 [56] [4] λb=>PU a b
def ahE:bY:=⟨[],[(0,.v 3),(1,.q [.v 27,.v 28,.v 3,.v 31,.v 22,.v 32,.v 22,.v 22,.v 33,.v 27,.v 28,.v 36,.v 22,.v 22,.v 22,.v 3,.v 22,.v 3,.v 3,.v 41,.v 41,.v 22,.v 22,.v 44,.v 3,.v 22,.v 22,.v 22,.v 4,.v 3,.v 3,.v 3,.v 3,.v 44,.v 53,.v 54])]⟩
def afp(b:Lp):aq BT:=⟨260,2,0,ahE,⟨[],[(0,.v 4)]⟩,λa=>OJ b (SY a) (Mx a)⟩
def Vy:bY:=⟨[],[(0,.v 3),(1,.f 260 [] [.q [.v 27,.v 28,.v 3,.v 31,.v 22,.v 32,.v 22,.v 22,.v 33,.v 27,.v 28,.v 36,.v 22,.v 22,.v 22,.v 3,.v 22,.v 3,.v 3,.v 41,.v 41,.v 22,.v 22,.v 44,.v 3,.v 22,.v 22,.v 22,.v 4,.v 3,.v 3,.v 3,.v 3,.v 44,.v 53,.v 54]])]⟩
def ap0(b:Lp):aq BT:=⟨46,2,0,Vy,⟨[(0,[],.rows 3 22)],[(0,.r 0)]⟩,λa=>QU b (SY a) (Mx a)⟩
def aha(a:Lp):aq BT:=cV 197 [56] [22] λb=>FN a b
def amC(a:Lp):aq BT:=cV 124 [56] [4] λb=>QK a b
def VZ:bY:=⟨[],[(0,.v 88),(1,.q [.v 27,.v 28,.v 3,.v 31,.v 22,.v 32,.v 22,.v 22,.v 33,.v 27,.v 28,.v 36,.v 22,.v 22,.v 22,.v 3,.v 22,.v 3,.v 3,.v 41,.v 41,.v 22,.v 22,.v 44,.v 3,.v 22,.v 22,.v 22,.v 4,.v 3,.v 3,.v 3,.v 3,.v 44,.v 53,.v 54])]⟩
def abQ(b:Lp):aq BT:=⟨199,2,0,VZ,⟨[],[(0,.v 4)]⟩,λa=>Oy b (YR a) (ad4 a)⟩
def ahr:bY:=⟨[],[(0,.v 31),(1,.f 199 [] [.q [.v 27,.v 28,.v 3,.v 31,.v 22,.v 32,.v 22,.v 22,.v 33,.v 27,.v 28,.v 36,.v 22,.v 22,.v 22,.v 3,.v 22,.v 3,.v 3,.v 41,.v 41,.v 22,.v 22,.v 44,.v 3,.v 22,.v 22,.v 22,.v 4,.v 3,.v 3,.v 3,.v 3,.v 44,.v 53,.v 54]])]⟩
def ama(b:Lp):aq BT:=⟨221,2,0,ahr,⟨[],[(0,.v 3)]⟩,λa=>Na b (RK a) (QT a)⟩
def Vk:bY:=⟨[],[(0,.v 31),(1,.f 199 [] [.q [.v 27,.v 28,.v 3,.v 31,.v 22,.v 32,.v 22,.v 22,.v 33,.v 27,.v 28,.v 36,.v 22,.v 22,.v 22,.v 3,.v 22,.v 3,.v 3,.v 41,.v 41,.v 22,.v 22,.v 44,.v 3,.v 22,.v 22,.v 22,.v 4,.v 3,.v 3,.v 3,.v 3,.v 44,.v 53,.v 54]])]⟩
def apP(b:Lp):aq BT:=⟨153,2,0,Vk,⟨[],[(0,.v 4)]⟩,λa=>Rp b (RK a) (QT a)⟩
def agW(a:Lp):aq BT:=cV 126 [56] [4] λb=>Nd a b
def amn(a:Lp):aq BT:=cV 125 [56] [4] λb=>Rh a b
def VE(b:Lp):aq BT:=⟨133,2,0,⟨[],[(0,.v 3),(1,.q [.v 22])]⟩,⟨[],[(0,.v 4)]⟩,λa=>uh b a.1 a.2⟩
def aje(b:Lp):aq BT:=⟨147,2,0,⟨[],[(0,.v 22),(1,.f 133 [] [.q [.v 22]])]⟩,⟨[],[(0,.v 3)]⟩,λa=>Jg b a.1 a.2⟩
def aoP(b:Lp):aq BT:=⟨86,2,0,⟨[],[(0,.v 22),(1,.f 133 [] [.q [.v 22]])]⟩,⟨[],[(0,.v 4)]⟩,λa=>CG b a.1 a.2⟩
def YN(b:Lp):aq BT:=⟨134,2,0,⟨[],[(0,.v 3),(1,.q [.f 133 [] [.q [.v 22]]])]⟩,⟨[],[(0,.v 4)]⟩,λa=>zq b a.1 a.2⟩
def alu(b:Lp):aq BT:=⟨147,2,0,⟨[],[(0,.v 22),(1,.f 134 [] [.q [.f 133 [] [.q [.v 22]]]])]⟩,⟨[],[(0,.v 3)]⟩,λa=>FW b a.1 a.2⟩
def UH(b:Lp):aq BT:=⟨86,2,0,⟨[],[(0,.v 22),(1,.f 134 [] [.q [.f 133 [] [.q [.v 22]]]])]⟩,⟨[],[(0,.v 4)]⟩,λa=>zo b a.1 a.2⟩
def abm(b:Lp):aq BT:=cV 69 [140,3,22,3] [4,4] λa=>Cx b a.1 a.2.1 a.2.2.1 a.2.2.2
def anY(b:Lp):aq BT:=cV 27 [46,22,3] [90] λa=>Ew b a.1 a.2.1 a.2.2
def Xq(a:Lp):aq BT:=cV 127 [56] [4] λb=>Ow a b
def adL(b:Lp):aq BT:=⟨264,3,0,⟨[],[(0,.v 75),(1,.q [.v 3]),(2,.q [.v 3])]⟩,⟨[],[(0,.v 4)]⟩,λa=>Lf b a.1 a.2.1 a.2.2⟩
def aqr(b:Lp):aq BT:=⟨306,2,0,⟨[],[(0,.v 53),(1,.f 264 [] [.q [.v 3],.q [.v 3]])]⟩,⟨[],[(0,.v 3)]⟩,λa=>Qo b a.1 a.2.1 a.2.2⟩
def aal(b:Lp):aq BT:=⟨263,2,0,⟨[],[(0,.v 53),(1,.f 264 [] [.q [.v 3],.q [.v 3]])]⟩,⟨[],[(0,.v 4)]⟩,λa=>O7 b a.1 a.2.1 a.2.2⟩
def aga(b:Lp):aq BT:=cV 202 [56,3,3] [4] λa=>KD b a.1 a.2.1 a.2.2
def alx:bY:=⟨[],[(0,.v 83),(1,.q [.v 27,.v 28,.v 3,.v 31,.v 22,.v 32,.v 22,.v 22,.v 33,.v 27,.v 28,.v 36,.v 22,.v 22,.v 22,.v 3,.v 22,.v 3,.v 3,.v 41,.v 41,.v 22,.v 22,.v 44,.v 3,.v 22,.v 22,.v 22,.v 4,.v 3,.v 3,.v 3,.v 3,.v 44,.v 53,.v 54])]⟩
def Ua(b:Lp):aq BT:=⟨201,2,0,alx,⟨[],[(0,.v 4)]⟩,λa=>OU b (UL a) (aaD a)⟩
def aaF:bY:=⟨[],[(0,.v 54),(1,.f 201 [] [.q [.v 27,.v 28,.v 3,.v 31,.v 22,.v 32,.v 22,.v 22,.v 33,.v 27,.v 28,.v 36,.v 22,.v 22,.v 22,.v 3,.v 22,.v 3,.v 3,.v 41,.v 41,.v 22,.v 22,.v 44,.v 3,.v 22,.v 22,.v 22,.v 4,.v 3,.v 3,.v 3,.v 3,.v 44,.v 53,.v 54]])]⟩
def afK(b:Lp):aq BT:=⟨262,2,0,aaF,⟨[],[(0,.v 3)]⟩,λa=>NP b (NM a) (PH a)⟩
def ale:bY:=⟨[],[(0,.v 54),(1,.f 201 [] [.q [.v 27,.v 28,.v 3,.v 31,.v 22,.v 32,.v 22,.v 22,.v 33,.v 27,.v 28,.v 36,.v 22,.v 22,.v 22,.v 3,.v 22,.v 3,.v 3,.v 41,.v 41,.v 22,.v 22,.v 44,.v 3,.v 22,.v 22,.v 22,.v 4,.v 3,.v 3,.v 3,.v 3,.v 44,.v 53,.v 54]])]⟩
def aqg(b:Lp):aq BT:=⟨200,2,0,ale,⟨[],[(0,.v 4)]⟩,λa=>Sa b (NM a) (PH a)⟩
def aab(a:Lp):aq BT:=cV 128 [56] [4] λb=>NV a b
def afU(a:Lp):aq BT:=cV 129 [56] [4] λb=>Nl a b
def Wk(a:Lp):aq BT:=cV 130 [56] [4] λb=>Ng a b
def acO(a:Lp):aq BT:=cV 23 [56] [22] λb=>N8 a b
def aih(a:Lp):aq BT:=cV 9 [] [4] λb=>vn a
def Zq(a:Lp):aq BT:=⟨10,1,0,⟨[],[(0,.v 22)]⟩,⟨[(0,[],.box 122 [.v 22,.i .i64 0])],[(0,.p 0)]⟩,λb=>NC a b⟩
def afa(b:Lp):aq BT:=cV 19 [3,3] [3] λa=>Ie b a.1 a.2
def akI(b:Lp):aq BT:=⟨13,2,1,⟨[(0,[],.box 122 [.v 22,.v 3])],[(0,.p 0),(1,.v 3)]⟩,⟨[(100000,[],.box 122 [.v 22,.v 3])],[(0,.v 3)]⟩,λa=>eO b (bD.mk a.1 a.2.1) a.2.2⟩
def abV(b:Lp):aq BT:=⟨32,2,1,⟨[(0,[],.box 122 [.v 22,.v 3])],[(0,.p 0),(1,.v 3)]⟩,⟨[(100000,[],.box 122 [.v 22,.v 3])],[(0,.v 4)]⟩,λa=>mK b (bD.mk a.1 a.2.1) a.2.2⟩
def ahA(b:Lp):aq BT:=⟨40,2,1,⟨[(0,[],.box 122 [.v 22,.v 3])],[(0,.p 0),(1,.v 22)]⟩,⟨[(100000,[],.box 122 [.v 22,.v 3])],[(0,.v 3)]⟩,λa=>gQ b (bD.mk a.1 a.2.1) a.2.2⟩
def am1(b:Lp):aq BT:=⟨37,1,1,⟨[(0,[],.box 122 [.v 22,.v 3])],[(0,.p 0)]⟩,⟨[(100000,[],.box 122 [.v 22,.v 3])],[(0,.v 30)]⟩,λa=>zN b (bD.mk a.1 a.2)⟩
def aeh(b:Lp):aq BT:=⟨24,2,1,⟨[(0,[],.box 122 [.v 22,.v 3])],[(0,.p 0),(1,.v 3)]⟩,⟨[(100000,[],.box 122 [.v 22,.v 3])],[(0,.v 22)]⟩,λa=>A9 b (bD.mk a.1 a.2.1) a.2.2⟩
def ajQ(b:Lp):aq BT:=⟨38,2,1,⟨[(0,[],.box 122 [.v 22,.v 3])],[(0,.p 0),(1,.v 30)]⟩,⟨[(100000,[],.box 122 [.v 22,.v 3])],[(0,.v 32)]⟩,λa=>BX b (bD.mk a.1 a.2.1) a.2.2⟩
def apq(b:Lp):aq BT:=⟨39,2,1,⟨[(0,[],.box 122 [.v 22,.v 3])],[(0,.p 0),(1,.v 30)]⟩,⟨[(100000,[],.box 122 [.v 22,.v 3])],[(0,.v 36)]⟩,λa=>Cq b (bD.mk a.1 a.2.1) a.2.2⟩
def Zt(b:Lp):aq BT:=cV 275 [90,3,3] [4] λa=>xG b a.1 a.2.1 a.2.2
def al3(a:Lp):aq BT:=cV 219 [30] [67] λb=>EI a b
def Vh(b:Lp):aq BT:=cV 220 [115,4] [3,3] λa=>Da b a.1 a.2
def abZ(b:Lp):aq BT:=cV 151 [30,3,4,3,3,3] [3] λa=>Gv b a.1 a.2.1 a.2.2.1 a.2.2.2.1 a.2.2.2.2.1 a.2.2.2.2.2
def aox(b:Lp):aq BT:=cV 91 [30,3,4] [3] λa=>wm b a.1 a.2.1 a.2.2
def Yn(b:Lp):aq BT:=cV 26 [22,3] [4] λa=>xb b a.1 a.2
def ael(b:Lp):aq BT:=cV 41 [30,22] [22] λa=>Dt b a.1 a.2
def Ul(b:Lp):aq BT:=⟨12,1,1,⟨[(0,[],.box 122 [.v 22,.v 3])],[(0,.p 0)]⟩,⟨[(100000,[],.box 122 [.v 22,.v 3])],[(0,.v 60)]⟩,λa=>zy b (bD.mk a.1 a.2)⟩
def aaU(a:Lp):aq BT:=cV 11 [60] [56,4] λb=>Cw a b
def agD(b:Lp):aq BT:=⟨42,6,1,⟨[(0,[],.box 122 [.v 22,.v 3])],[(0,.p 0),(1,.v 3),(2,.v 3),(3,.v 3),(4,.v 3),(5,.v 3)]⟩,⟨[(100000,[],.box 122 [.v 22,.v 3])],[(0,.v 65)]⟩,λa=>Di b (bD.mk a.1 a.2.1) a.2.2.1 a.2.2.2.1 a.2.2.2.2.1 a.2.2.2.2.2.1 a.2.2.2.2.2.2⟩
def WZ(b:Lp):aq BT:=⟨14,3,1,⟨[(0,[],.box 122 [.v 22,.v 3])],[(0,.p 0),(1,.v 56),(2,.v 3)]⟩,⟨[(100000,[],.box 122 [.v 22,.v 3])],[(0,.v 62)]⟩,λa=>EJ b (bD.mk a.1 a.2.1) a.2.2.1 a.2.2.2⟩
def adn(b:Lp):aq BT:=cV 18 [30,38,3] [22,22,4] λa=>Be b a.1 a.2.1 a.2.2
def IZ(a:Lp):aq BT:=cV 3 [22] [4] λb=>HT a b
end Go.X.T
namespace Go.X
open Go Go.Aml Go.Bml
structure cN (P:Program) (B:Tb) (n:Nat) (e:Ev B.D n):Prop where
 row:∀(m:Nat) (xs:List (B.D m)) (x:B.D n),e.up (.row m xs)=c4 x->e.tv x= .row m xs
 el:∀(x:B.D n) (m:Nat) (xs:List (B.D m)),e.tv x= .row m xs->m=B.el n
 tv:∀(x:B.D n),pv B (e.tv x)=(B.ty n).enc x
 lt:∀(x:B.D n),cE 0 ((B.ty n).enc x)
 up:∀(t:TV B.D) (x:B.D n),e.up t=c4 x->cE 0 (pv B t)/\Cc (pv B t) ((B.ty n).enc x)
 wid:∀(x:B.D n),((B.ty n).enc x).cells.length=B.sz n
 one:∀(x:B.D n),((B.ty n).enc x).cells.all PV.one=true
 pos:0<B.sz n
 xw:∀(x:B.D n) (vs:List PV),(B.ty n).enc x≠ .bu vs
 ic:B.D n->cH P n=c4 (B.sz n)
 flat:∀(x:B.D n),B.flat n=true->∀(j:Nat) (c:PV),((B.ty n).enc x).cells[j]? =c4 c->∀(F F':Nat->Prop) (w w':World) (v:Value),VI F w c v->VI F' w' c v
structure cK (P:Program) (B:Tb) (n:Nat) (e:Ev B.D n):Prop where
 ok:cN P B n e
 leaf:∀x:B.D n,((B.ty n).enc x).cells=[(B.ty n).enc x]
section
variable {P : Program} {B : Tb}
theorem afw(c:(n:Nat)->Ev B.D n)(b:∀n,B.tv n=(c n).tv)(d:∀n,B.up n=(c n).up)(a:∀n,cN P B n (c n)):cU P B where
 row n m xs x hx:=by rw[b];rw[d] at hx;exact(a n).row m xs x hx
 el n x m xs hx:=by rw[b] at hx;exact(a n).el x m xs hx
 tv n x:=by rw[b];exact(a n).tv x
 lt n x:=(a n).lt x
 up n t x hx:=by rw[d] at hx;exact(a n).up t x hx
 wid n x:=(a n).wid x
 one n x:=(a n).one x
 pos n:=(a n).pos
 xw n x vs:=(a n).xw x vs
 ic n x:=(a n).ic x
 flat n x:=(a n).flat x
theorem amI{n:Nat}{d:Ev B.D n}(b:B.D n->False)(c:0<B.sz n):cN P B n d:=
 ⟨λ_ _ a _=>(b a).elim,λa=>(b a).elim,λa=>(b a).elim,λa=>(b a).elim,λ_ a _=>(b a).elim,λa=>(b a).elim,λa=>(b a).elim,c,λa=>(b a).elim,λa=>(b a).elim,λa=>(b a).elim⟩
variable {n : Nat}
theorem vv{c:Ev B.D n}(row:∀(b:Nat) (e:List (B.D b)) (a:B.D n),c.up (.row b e)=c4 a->c.tv a= .row b e)
 (x:∀(a:B.D n) (b:Nat) (e:List (B.D b)),c.tv a= .row b e->b=B.el n)
 (o:∀(a:B.D n),pv B (c.tv a)=(B.ty n).enc a)
 (lt:∀(a:B.D n),cE 0 ((B.ty n).enc a))
 (m:∀(h:TV B.D) (a:B.D n),c.up h=c4 a->cE 0 (pv B h)/\Cc (pv B h) ((B.ty n).enc a))
 (g:∀a:B.D n,((B.ty n).enc a).one=true) (i:B.sz n=1) (w:cH P n=c4 1)
 (q:∀(a:B.D n),B.flat n=true->∀(t r:Nat->Prop) (s k:World) (v:Value),VI t s ((B.ty n).enc a) v->VI r k ((B.ty n).enc a) v):cK P B n c:=by
 have f:∀a:B.D n,((B.ty n).enc a).cells=[(B.ty n).enc a]:=λa=>by
  have:=g a;generalize (B.ty n).enc a=j at this⊢;cases j <;> first |rfl |(simp[PV.one] at this;done)
 refine⟨⟨row,x,o,lt,m,λa=>by rw[f,i];rfl,λa=>by rw[f];simp[g a],by omega,λa vs l=>?_,λ_=>by rw[w,i],λa u p j d=>?_⟩,f⟩
 ·have:=g a;rw[l] at this;simp[PV.one] at this
 ·rw[f] at d
  match p,d with
  |0,d=>
   simp at d;subst d;exact q a u
theorem vR{h:IntKind}{d:B.D n=Int}(c:∀a,(B.ty n).enc a= .int h (dA d a))(j:B.sz n=1)(l:cH P n=c4 1):cK P B n (fA B.D h d):=by
 refine vv (λe i a b=>by simp[fA] at b) (λa e i b=>by simp[fA] at b) (λa=>by rw[c];rfl) (λa=>by rw[c];exact .int _ _) (λk a b=>?_) (λa=>by rw[c];rfl) j l (λa _ q s p o v g=>by rw[c] at g⊢;cases g;exact .int _ _)
 rw[c];cases k with
 |int r e=>
  simp only[fA] at b;obtain⟨m,f⟩:=a8 b;injection f with f
  subst f;rw[qh m];simp only[pv];refine⟨.int _ _,?_⟩
  have:dA d (dA d.symm e)=e:=by simp[dA]
  rw[this];exact .refl _
 |_=>simp[fA] at b
theorem agM{d:B.D n=Bool}(c:∀a,(B.ty n).enc a= .bool (dA d a))(h:B.sz n=1)(j:cH P n=c4 1):cK P B n (nE B.D d):=by
 refine vv (λe g a b=>by simp[nE] at b) (λa e g b=>by simp[nE] at b) (λa=>by rw[c];rfl) (λa=>by rw[c];exact .bool _) (λi a b=>?_) (λa=>by rw[c];rfl) h j (λa _ m o l k v f=>by rw[c] at f⊢;cases f;exact .bool _)
 rw[c];cases i with
 |bool e=>
  simp only[nE] at b;injection b with h2
  subst h2;simp only[pv];refine⟨.bool _,?_⟩
  have:dA d (dA d.symm e)=e:=by simp[dA]
  rw[this];exact .refl _
 |_=>simp[nE] at b
theorem Lq{d:B.D n=Option Nat}(g:∀b,(B.ty n).enc b=wi (dA d b))(p:B.sz n=1)(u:cH P n=c4 1):cK P B n (iR B.D d):=by
 have j:∀c,dA d (dA d.symm c)=c:=λc=>by simp[dA]
 have i:∀c,cE 0 (wi c):=λc=>by
  cases c with
  |none=>exact .dB
  |some f=>exact .fn _ _ _ (by simp) (by simp)
 refine vv (λo h b a=>by simp[iR] at a) (λb o h a=>by simp[iR] at a) (λb=>?_) (λb=>by rw[g];exact i _) (λt b a=>?_) (λb=>?_) p u (λb _ A y z w v e=>?_)
 ·rw[g];show pv B (.jC (dA d b))=_
  cases dA d b <;> rfl
 ·rw[g];cases t with
  |jC c=>
   simp only[iR] at a;injection a with h2
   subst h2;rw[j];cases c with
   |none=>exact⟨.dB,.refl _⟩
   |some f=>exact⟨i (c4 f),.refl _⟩
  |dB=>
   simp only[iR] at a;injection a with h2
   subst h2;rw[j];exact⟨.dB,.refl _⟩
  |fn f s m=>
   match s,m,a with
   |[],[],a=>
    simp only[iR] at a;injection a with h2
    subst h2;rw[j];exact⟨i (c4 f),.refl _⟩
   |[],_::_,a=>simp[iR] at a
   |_::_,_,a=>simp[iR] at a
  |_=>simp[iR] at a
 ·rw[g];cases dA d b <;> rfl
 ·rw[g] at e⊢;cases k:dA d b with
  |none=>
   rw[k] at e;cases e
   exact .dB
  |some f=>
   rw[k] at e;cases e with
   |fn _ _ _ h r q e l x=>
    have:h=[]:=d1 (by simpa using q.symm);subst this;have:r=[]:=d1 (by simpa using l.symm);subst this;exact .fn f [] [] [] [] rfl (by simp) rfl (by simp)
theorem iA{c:Nat}{d:B.D n=List (B.D c)}(e:∀b,(B.ty n).enc b= .vs (B.sz c) ((dA d b).map (B.ty c).enc))(l:B.sz n=1)(o:cH P n=c4 1)(q:B.el n=c)(p:B.flat n=false):cK P B n (bJ B.D c d):=by
 have f:∀h,dA d (dA d.symm h)=h:=λh=>by simp[dA]
 refine vv (λk i b a=>?_) (λb k i a=>?_) (λb=>by rw[e];rfl) (λb=>by rw[e];exact .vs _ _) (λm b a=>?_) (λb=>by rw[e];rfl) l o (λb j=>by rw[p] at j;cases j)
 ·simp only[bJ] at a⊢
  split at a
  ·rename_i g;subst g;injection a with a
   subst a;rw[f]
  ·cases a
 ·simp only[bJ] at a;injection a with h1 h2
  exact h1.symm.trans q.symm
 ·rw[e];cases m with
  |row k i=>
   simp only[bJ] at a
   split at a
   ·rename_i g;subst g;injection a with a
    subst a;rw[f];exact⟨.vs _ _,.refl _⟩
   ·cases a
  |bg=>
   simp only[bJ] at a;injection a with a
   subst a;rw[f];exact⟨.bg,.nil _⟩
  |z0=>
   simp only[bJ] at a;injection a with a
   subst a;rw[f];exact⟨.z0,.z0 _⟩
  |_=>simp[bJ] at a
theorem alG{f e:Nat}{b:B.D n=List (B.D f)}{l:B.D f=List (B.D e)}(v:∀q,(B.ty f).enc q= .vs (B.sz e) ((dA l q).map (B.ty e).enc))(k:∀d,(B.ty n).enc d= .vs (B.sz f) ((dA b d).map (B.ty f).enc))(x:B.sz n=1)(F:cH P n=c4 1)(G:B.el n=f)(u:B.flat n=false):cK P B n (lx B.D f e b l):=by
 have h:∀p,dA b (dA b.symm p)=p:=λp=>by simp[dA]
 refine vv (λe m d a=>?_) (λd e m a=>?_) (λd=>by rw[k];rfl) (λd=>by rw[k];exact .vs _ _) (λE d a=>?_) (λd=>by rw[k];rfl) x F (λd s=>by rw[u] at s;cases s)
 ·simp only[lx,pM] at a⊢
  split at a
  ·rename_i j;subst j;injection a with a
   subst a;rw[h]
  ·cases a
 ·simp only[lx,pM] at a;injection a with h1 l
  exact h1.symm.trans G.symm
 ·rw[k];cases E with
  |row e m=>
   simp only[lx,pM] at a
   split at a
   ·rename_i j;subst j;injection a with a
    subst a;rw[h];exact⟨.vs _ _,.refl _⟩
   ·cases a
  |bg=>
   simp only[lx,pM] at a;injection a with a
   subst a;rw[h];exact⟨.bg,.nil _⟩
  |z0=>
   simp only[lx,pM] at a;injection a with a
   subst a;rw[h];exact⟨.z0,.z0 _⟩
  |rv o c=>
   simp only[lx,pM] at a;obtain⟨w,a⟩:=a8 a;obtain rfl:=beq_eq w
   split at a
   ·rename_i g z;injection a with a
    subst a;rw[h];have C:∀(c:List (TV B.D)) (g:List (List (B.D e))),uO B.D e c=c4 g->aP B c=(g.map (dA l.symm)).map (B.ty o).enc:=λc=>by
     induction c with
     |nil=>intro g b;simp only[uO] at b;injection b with b;subst b;rfl
     |cons y c D=>
      intro g b;cases y with
      |row i m=>
       simp only[uO] at b
       split at b
       ·rename_i j;subst j
        split at b
        ·rename_i r A;injection b with b
         subst b;simp only[aP,List.map_cons,D r A]
         congr 1
         rw[v];simp[dA,pv]
        ·cases b
       ·cases b
      |_=>simp[uO] at b
    have t:pv B (.rv o c)= .vs (B.sz o) (aP B c):=rfl;rw[t,C c g z];exact⟨.vs _ _,.refl _⟩
   ·cases a
  |_=>simp[lx,pM] at a
def mJ(B:Tb):(ns:List Nat)->bi B.D ns->List PV
 |[],_=>[]
 |[n],a=>[(B.ty n).enc a]
 |n::b::ns,a=>(B.ty n).enc a.1::mJ B (b::ns) a.2
theorem Jo:∀(ns:List Nat) (a:bi B.D ns),(mJ B ns a).length=ns.length
 |[],_=>rfl
 |[_],_=>rfl
 |n::b::ns,a=>by simp only[mJ,e0,Jo (b::ns) a.2]
theorem N3{d:(n:Nat)->Ev B.D n}:∀(ns:List Nat) (a:bi B.D ns),(∀b,b∈ns->cK P B b (d b))->aP B (E6 B.D d ns a)=mJ B ns a
 |[],_,_=>rfl
 |[n],a,c=>by
  exact congrArg (λz=>[z]) ((c n (by simp)).ok.tv a)
 |n::b::ns,a,c=>by
  have g:=(c n (by simp)).ok.tv a.1;have f:=N3 (b::ns) a.2 λh e=>c h (by simp at e⊢;exact .inr e)
  show pv B ((d n).tv a.1)::aP B (E6 B.D d (b::ns) a.2)=(B.ty n).enc a.1::mJ B (b::ns) a.2
  rw[g,f]
theorem zC{j:(n:Nat)->Ev B.D n}:∀(ns:List Nat) (d:bi B.D ns),(∀b,b∈ns->cK P B b (j b))->∀c,c∈mJ B ns d->∃b,b∈ns/\∃f:B.D b,c=(B.ty b).enc f
 |[],_,_,c,a=>by simp[mJ] at a
 |[n],d,h,c,a=>by
  simp only[mJ,ey] at a;exact⟨n,by simp,d,a⟩
 |n::b::ns,d,h,c,a=>by
  simp only[mJ,e6] at a;rcases a with a |a
  ·exact⟨n,by simp,d.1,a⟩
  ·obtain⟨g,e,f,i⟩:=zC (b::ns) d.2 (λg e=>h g (by simp at e⊢;exact .inr e)) c a;exact⟨g,by simp at e⊢;exact .inr e,f,i⟩
theorem Tm{m:(n:Nat)->Ev B.D n}:∀(ns:List Nat) (j:List (TV B.D)) (c:bi B.D ns),(∀g,g∈ns->cK P B g (m g))->Au B.D m ns j=c4 c->
 j.length=ns.length/\(∀f,f∈j->cE 0 (pv B f))/\∀(i:Nat) (e h:PV),(aP B j)[i]? =c4 e->(mJ B ns c)[i]? =c4 h->Cc e h
 |[],[],c,_,_=>⟨rfl,λf k=>(dt k).elim,λi e h a _=>by
  have a:(([]:List PV)[i]?)=c4 e:=a;rw[List.getElem?_nil] at a;cases a⟩
 |[n],[f],c,l,d=>by
  obtain⟨o,p⟩:=(l n (ey.2 rfl)).ok.up f c d;refine⟨rfl,λq k=>by rw[ey.1 k];exact o,λi e h a b=>?_⟩
  match i,a,b with
  |0,a,b=>
   have a:c4 (pv B f)=c4 e:=a;have b:c4 ((B.ty n).enc c)=c4 h:=b;injection a with a
   injection b with b
   subst a;subst b;exact p
  |i+1,a,_=>
   have a:(([]:List PV)[i]?)=c4 e:=a;rw[List.getElem?_nil] at a;cases a
 |n::g::ns,f::j,c,l,d=>by
  obtain⟨t,s⟩:=aid (show CL ((m n).up f) (Au B.D m (g::ns) j)=c4 c from d);obtain⟨o,p⟩:=(l n ez).ok.up f c.1 t;obtain⟨r,u,v⟩:=Tm (g::ns) j c.2 (λx w=>l x (ec _ w)) s;refine⟨congrArg Nat.succ r,λq k=>?_,λi e h a b=>?_⟩
  ·rcases e6.1 k with rfl |k
   ·exact o
   ·exact u q k
  ·match i,a,b with
   |0,a,b=>
    have a:c4 (pv B f)=c4 e:=a;have b:c4 ((B.ty n).enc c.1)=c4 h:=b;injection a with a
    injection b with b
    subst a;subst b;exact p
   |i+1,a,b=>exact v i e h a b
 |[],_::_,_,_,d=>by cases (show(d4:Option (bi B.D []))=c4 _ from d)
 |[n],[],_,_,d=>by cases (show(d4:Option (bi B.D [n]))=c4 _ from d)
 |[n],_::_::_,_,_,d=>by cases (show(d4:Option (bi B.D [n]))=c4 _ from d)
 |n::g::ns,[],_,_,d=>by cases (show(d4:Option (bi B.D (n::g::ns)))=c4 _ from d)
theorem eS{r:(n:Nat)->Ev B.D n}{l:Type}{ns:List Nat}{mk:bi B.D ns->l}{k:l->bi B.D ns}{j:B.D n=l}(e:∀a,a∈ns->cK P B a (r a))(H:∀c,k (mk c)=c)
 (h:∀d,(B.ty n).enc d= .agg (mJ B ns (k (dA j d)))) (p:B.sz n=ns.length) (M:0<ns.length) (s:cH P n=c4 ns.length) (z:B.flat n=true->∀a,a∈ns->B.flat a=true):cN P B n (cw B.D r ns mk k j):=by
 have E:∀m,dA j (dA j.symm m)=m:=λm=>by simp[dA]
 constructor
 case row=>intro L t d b;simp[cw] at b
 case el=>intro d L t b;simp[cw] at b
 case tv=>
  intro d;rw[h];simp only[cw,pv];rw[N3 ns _ e]
 case lt=>
  intro d;rw[h];refine .agg _ λi f=>?_
  obtain⟨a,g,c,rfl⟩:=zC ns _ e i f;exact(e a g).ok.lt c
 case up=>
  intro o d b;rw[h];cases o with
  |agg F=>
   simp only[cw] at b
   split at b
   ·rename_i c x;injection b with b
    subst b;obtain⟨u,A,D⟩:=Tm ns F c e x;rw[E,H];simp only[pv];refine⟨.agg _ λi f=>?_,.agg _ _ ?_ D⟩
    ·rw[db] at f;obtain⟨o,C,rfl⟩:=f2.1 f;exact A o C
    ·rw[db,ei,Jo,u]
   ·cases b
  |_=>simp[cw] at b
 case wid=>
  intro d;rw[h,p];exact Jo _ _
 case one=>
  intro d;rw[h];refine e4.2 λi f=>?_
  obtain⟨a,g,c,rfl⟩:=zC ns _ e i f;have q:=(e a g).ok.one c;rw[(e a g).leaf c] at q;simpa using q
 case pos=>omega
 case xw=>intro d vs b;rw[h] at b;cases b
 case ic=>intro _;rw[s,p]
 case flat=>
  intro d K N i f J G I w v y;rw[h] at f;obtain⟨a,g,c,rfl⟩:=zC ns _ e i (List.mem_of_getElem? f);exact(e a g).ok.flat c (z K a g) 0 _ (by rw[(e a g).leaf c];rfl) J G I w v y
end
theorem ahP(b:List (Nat×Ty))(n:Nat):(n∈b.map (·.1))\/Br b n=⟨Empty,λ_=>.any⟩:=by
 induction b with
 |nil=>exact .inr rfl
 |cons p b a=>
  simp only[Br,List.map_cons,e6];cases c:d9 p.1 n with
  |true=>exact .inl (.inl (beq_eq c).symm)
  |false=>rcases a with a |a
          ·exact .inl (.inr a)
          ·exact .inr a
theorem P5{e:Type _}:∀(c:List (List e)) (q:Nat) (a:e),a∈px c q->∃d,d∈c/\a∈d
 |[],_,a,b=>by simp[px] at b
 |d::c,0,a,b=>⟨d,by simp,b⟩
 |d::c,q+1,a,b=>let ⟨f,h,g⟩:=P5 c q a b;⟨f,by simp[h],g⟩
theorem amT(a:List (Nat×xz))(n:Nat)(b:(a.all λp=>Nat.blt 0 p.2.sz)=true):0<(Eu a n).sz:=by
 induction a with
 |nil=>exact Nat.one_pos
 |cons p a c=>
  simp only[List.all_cons,d6] at b;simp only[Eu];cases d9 p.1 n with
  |true=>exact d5 b.1
  |false=>exact c b.2
theorem Qa{d:Type _}{f:d->Bool}:∀(b:List (List d)) (q:Nat),(b.all λc=>c.all f)=true->(px b q).all f=true
 |[],_,_=>rfl
 |c::b,0,a=>by simp only[List.all_cons,d6] at a;exact a.1
 |c::b,q+1,a=>by simp only[List.all_cons,d6] at a;exact Qa b q a.2
def Sp(p:Nat->Prop):List Nat->Prop
 |[]=>True
 |b::a=>p b/\Sp p a
theorem F2{p:Nat->Prop}:∀(c:List Nat),Sp p c->∀a,a∈c->p a
 |[],_,a,b=>by simp at b
 |e::c,b,a,d=>by
  rcases e6.1 d with rfl |d
  ·exact b.1
  ·exact F2 c b.2 a d
theorem e8{c b:List Nat}(d:(c.all λa=>b.contains a)=true):∀a,a∈c->a∈b:=λa e=>by
 have:=e4.1 d a e;simpa using this
end Go.X
namespace Go.X.T
open Go Go.Aml Go.Bml Go.X Go.Proofs
theorem L3:cK c3 BT 3 (fA DT .i64 rfl):=vR (λ_=>rfl) rfl (by kernel_rfl)
theorem LF3:cK c3 BT 3 (bh 3):=(show bh 3=fA DT .i64 rfl from rfl)▸L3
theorem EF3:cN c3 BT 3 (bf 3):=(show bf 3=fA DT .i64 rfl from rfl)▸L3.ok
theorem L4:cK c3 BT 4 (nE DT rfl):=agM (λ_=>rfl) rfl (by kernel_rfl)
theorem LF4:cK c3 BT 4 (bh 4):=(show bh 4=nE DT rfl from rfl)▸L4
theorem WW:cN c3 BT 4 (bf 4):=(show bf 4=nE DT rfl from rfl)▸L4.ok
theorem L5:cK c3 BT 5 (fA DT .u8 rfl):=vR (λ_=>rfl) rfl (by kernel_rfl)
theorem LF5:cK c3 BT 5 (bh 5):=(show bh 5=fA DT .u8 rfl from rfl)▸L5
theorem EF5:cN c3 BT 5 (bf 5):=(show bf 5=fA DT .u8 rfl from rfl)▸L5.ok
theorem Ox:cK c3 BT 22 (bJ DT 3 rfl):=iA (λ_=>rfl) rfl (by kernel_rfl) rfl rfl
theorem aie:cK c3 BT 22 (bh 22):=(show bh 22=bJ DT 3 rfl from rfl)▸Ox
theorem agc:cN c3 BT 22 (bf 22):=(show bf 22=bJ DT 3 rfl from rfl)▸Ox.ok
theorem Rw:cK c3 BT 27 (bJ DT 117 rfl):=iA (λ_=>rfl) rfl (by kernel_rfl) rfl rfl
theorem ap6:cK c3 BT 27 (bh 27):=(show bh 27=bJ DT 117 rfl from rfl)▸Rw
theorem anO:cN c3 BT 27 (bf 27):=(show bf 27=bJ DT 117 rfl from rfl)▸Rw.ok
theorem Mi:cK c3 BT 28 (bJ DT 115 rfl):=iA (λ_=>rfl) rfl (by kernel_rfl) rfl rfl
theorem Ub:cK c3 BT 28 (bh 28):=(show bh 28=bJ DT 115 rfl from rfl)▸Mi
theorem Z0:cN c3 BT 28 (bf 28):=(show bf 28=bJ DT 115 rfl from rfl)▸Mi.ok
theorem Mr:cK c3 BT 31 (bJ DT 88 rfl):=iA (λ_=>rfl) rfl (by kernel_rfl) rfl rfl
theorem acY:cK c3 BT 31 (bh 31):=(show bh 31=bJ DT 88 rfl from rfl)▸Mr
theorem ahT:cN c3 BT 31 (bf 31):=(show bf 31=bJ DT 88 rfl from rfl)▸Mr.ok
theorem Pw:cK c3 BT 32 (bJ DT 120 rfl):=iA (λ_=>rfl) rfl (by kernel_rfl) rfl rfl
theorem akG:cK c3 BT 32 (bh 32):=(show bh 32=bJ DT 120 rfl from rfl)▸Pw
theorem ait:cN c3 BT 32 (bf 32):=(show bf 32=bJ DT 120 rfl from rfl)▸Pw.ok
theorem Ss:cK c3 BT 33 (lx DT 22 3 rfl rfl):=alG (λ_=>rfl) (λ_=>rfl) rfl (by kernel_rfl) rfl rfl
theorem V7:cK c3 BT 33 (bh 33):=(show bh 33=lx DT 22 3 rfl rfl from rfl)▸Ss
theorem aqi:cN c3 BT 33 (bf 33):=(show bf 33=lx DT 22 3 rfl rfl from rfl)▸Ss.ok
theorem M6:cK c3 BT 36 (bJ DT 90 rfl):=iA (λ_=>rfl) rfl (by kernel_rfl) rfl rfl
theorem WM:cK c3 BT 36 (bh 36):=(show bh 36=bJ DT 90 rfl from rfl)▸M6
theorem acA:cN c3 BT 36 (bf 36):=(show bf 36=bJ DT 90 rfl from rfl)▸M6.ok
theorem Nj:cK c3 BT 41 (bJ DT 101 rfl):=iA (λ_=>rfl) rfl (by kernel_rfl) rfl rfl
theorem afi:cK c3 BT 41 (bh 41):=(show bh 41=bJ DT 101 rfl from rfl)▸Nj
theorem aj9:cN c3 BT 41 (bf 41):=(show bf 41=bJ DT 101 rfl from rfl)▸Nj.ok
theorem Qp:cK c3 BT 44 (bJ DT 140 rfl):=iA (λ_=>rfl) rfl (by kernel_rfl) rfl rfl
theorem am0:cK c3 BT 44 (bh 44):=(show bh 44=bJ DT 140 rfl from rfl)▸Qp
theorem akV:cN c3 BT 44 (bf 44):=(show bf 44=bJ DT 140 rfl from rfl)▸Qp.ok
theorem Tq:cK c3 BT 53 (bJ DT 75 rfl):=iA (λ_=>rfl) rfl (by kernel_rfl) rfl rfl
theorem anF:cK c3 BT 53 (bh 53):=(show bh 53=bJ DT 75 rfl from rfl)▸Tq
theorem Wm:cN c3 BT 53 (bf 53):=(show bf 53=bJ DT 75 rfl from rfl)▸Tq.ok
theorem R6:cK c3 BT 54 (bJ DT 83 rfl):=iA (λ_=>rfl) rfl (by kernel_rfl) rfl rfl
theorem ZQ:cK c3 BT 54 (bh 54):=(show bh 54=bJ DT 83 rfl from rfl)▸R6
theorem akr:cN c3 BT 54 (bf 54):=(show bf 54=bJ DT 83 rfl from rfl)▸R6.ok
theorem Oi:cK c3 BT 62 (bJ DT 65 rfl):=iA (λ_=>rfl) rfl (by kernel_rfl) rfl rfl
theorem ahJ:cK c3 BT 62 (bh 62):=(show bh 62=bJ DT 65 rfl from rfl)▸Oi
theorem amu:cN c3 BT 62 (bf 62):=(show bf 62=bJ DT 65 rfl from rfl)▸Oi.ok
theorem Re:cK c3 BT 67 (fA DT .i64 rfl):=vR (λ_=>rfl) rfl (by kernel_rfl)
theorem apl:cK c3 BT 67 (bh 67):=(show bh 67=fA DT .i64 rfl from rfl)▸Re
theorem anf:cN c3 BT 67 (bf 67):=(show bf 67=fA DT .i64 rfl from rfl)▸Re.ok
theorem LR:cK c3 BT 95 (bJ DT 5 rfl):=iA (λ_=>rfl) rfl (by kernel_rfl) rfl rfl
theorem ap8:cK c3 BT 95 (bh 95):=(show bh 95=bJ DT 5 rfl from rfl)▸LR
theorem Zs:cN c3 BT 95 (bf 95):=(show bf 95=bJ DT 5 rfl from rfl)▸LR.ok
theorem OV:cK c3 BT 107 (bJ DT 97 rfl):=iA (λ_=>rfl) rfl (by kernel_rfl) rfl rfl
theorem ack:cK c3 BT 107 (bh 107):=(show bh 107=bJ DT 97 rfl from rfl)▸OV
theorem ahj:cN c3 BT 107 (bf 107):=(show bf 107=bJ DT 97 rfl from rfl)▸OV.ok
theorem Pg:cK c3 BT 134 (iR DT rfl):=Lq (λ_=>rfl) rfl (by kernel_rfl)
theorem ajY:cK c3 BT 134 (bh 134):=(show bh 134=iR DT rfl from rfl)▸Pg
theorem ahY:cN c3 BT 134 (bf 134):=(show bf 134=iR DT rfl from rfl)▸Pg.ok
theorem Sh:cK c3 BT 138 (bJ DT 142 rfl):=iA (λ_=>rfl) rfl (by kernel_rfl) rfl rfl
theorem Vd:cK c3 BT 138 (bh 138):=(show bh 138=bJ DT 142 rfl from rfl)▸Sh
theorem apJ:cN c3 BT 138 (bf 138):=(show bf 138=bJ DT 142 rfl from rfl)▸Sh.ok
theorem MN:cK c3 BT 159 (bJ DT 161 rfl):=iA (λ_=>rfl) rfl (by kernel_rfl) rfl rfl
theorem We:cK c3 BT 159 (bh 159):=(show bh 159=bJ DT 161 rfl from rfl)▸MN
theorem abY:cN c3 BT 159 (bf 159):=(show bf 159=bJ DT 161 rfl from rfl)▸MN.ok
theorem M9:cK c3 BT 161 (iR DT rfl):=Lq (λ_=>rfl) rfl (by kernel_rfl)
theorem aeM:cK c3 BT 161 (bh 161):=(show bh 161=iR DT rfl from rfl)▸M9
theorem ajA:cN c3 BT 161 (bf 161):=(show bf 161=iR DT rfl from rfl)▸M9.ok
theorem P8:cK c3 BT 167 (bJ DT 174 rfl):=iA (λ_=>rfl) rfl (by kernel_rfl) rfl rfl
theorem amh:cK c3 BT 167 (bh 167):=(show bh 167=bJ DT 174 rfl from rfl)▸P8
theorem akf:cN c3 BT 167 (bf 167):=(show bf 167=bJ DT 174 rfl from rfl)▸P8.ok
theorem Te:cK c3 BT 168 (bJ DT 4 rfl):=iA (λ_=>rfl) rfl (by kernel_rfl) rfl rfl
theorem Yi:cK c3 BT 168 (bh 168):=(show bh 168=bJ DT 4 rfl from rfl)▸Te
theorem Vu:cN c3 BT 168 (bf 168):=(show bf 168=bJ DT 4 rfl from rfl)▸Te.ok
theorem NQ:cK c3 BT 179 (fA DT .u64 rfl):=vR (λ_=>rfl) rfl (by kernel_rfl)
theorem Zg:cK c3 BT 179 (bh 179):=(show bh 179=fA DT .u64 rfl from rfl)▸NQ
theorem aej:cN c3 BT 179 (bf 179):=(show bf 179=fA DT .u64 rfl from rfl)▸NQ.ok
theorem N6:cK c3 BT 181 (fA DT .u64 rfl):=vR (λ_=>rfl) rfl (by kernel_rfl)
theorem ag7:cK c3 BT 181 (bh 181):=(show bh 181=fA DT .u64 rfl from rfl)▸N6
theorem alP:cN c3 BT 181 (bf 181):=(show bf 181=fA DT .u64 rfl from rfl)▸N6.ok
theorem Q3:cK c3 BT 247 (bJ DT 251 rfl):=iA (λ_=>rfl) rfl (by kernel_rfl) rfl rfl
theorem aoK:cK c3 BT 247 (bh 247):=(show bh 247=bJ DT 251 rfl from rfl)▸Q3
theorem amA:cN c3 BT 247 (bf 247):=(show bf 247=bJ DT 251 rfl from rfl)▸Q3.ok
theorem Ly:cK c3 BT 272 (bJ DT 275 rfl):=iA (λ_=>rfl) rfl (by kernel_rfl) rfl rfl
theorem apr:cK c3 BT 272 (bh 272):=(show bh 272=bJ DT 275 rfl from rfl)▸Ly
theorem YB:cN c3 BT 272 (bf 272):=(show bf 272=bJ DT 275 rfl from rfl)▸Ly.ok
theorem OK:cK c3 BT 309 (bJ DT 312 rfl):=iA (λ_=>rfl) rfl (by kernel_rfl) rfl rfl
theorem abP:cK c3 BT 309 (bh 309):=(show bh 309=bJ DT 312 rfl from rfl)▸OK
theorem agB:cN c3 BT 309 (bf 309):=(show bf 309=bJ DT 312 rfl from rfl)▸OK.ok
def O0:List Nat:=[3,4,5,22,27,28,31,32,33,36,41,44,53,54,62,67,95,107,134,138,159,161,167,168,179,181,247,272,309]
theorem eY:∀a,a∈O0->cK c3 BT a (bh a):=F2 O0 ⟨LF3,LF4,LF5,aie,ap6,Ub,acY,akG,V7,WM,afi,am0,anF,ZQ,ahJ,apl,ap8,ack,ajY,Vd,We,aeM,amh,Yi,Zg,ag7,aoK,apr,abP,trivial⟩
theorem aok:cN c3 BT 30 (bf 30):=(show bf 30=cw DT bh [27,28] (λb=>(ak.mk b.1 b.2):bi DT [27,28]->ak) (λc=>(c.ai,c.af)) rfl from rfl)▸eS (λa d=>eY a (e8 (by decide) a d)) (λ_=>rfl) (λ_=>rfl) rfl (by decide) (by kernel_rfl) (by decide)
theorem al6:cN c3 BT 35 (bf 35):=(show bf 35=cw DT bh [27,28,3,31,22,32,22,22,33] (λa=>(aB.mk (ak.mk a.1 a.2.1) a.2.2.1 a.2.2.2.1 a.2.2.2.2.1 a.2.2.2.2.2.1 a.2.2.2.2.2.2.1 a.2.2.2.2.2.2.2.1 a.2.2.2.2.2.2.2.2):bi DT [27,28,3,31,22,32,22,22,33]->aB) (λb=>(b.ao.ai,b.ao.af,b.Time,b.aN,b.aw,b.aQ,b.cn,b.cf,b.bp)) rfl from rfl)▸eS (λc d=>eY c (e8 (by decide) c d)) (λ_=>rfl) (λ_=>rfl) rfl (by decide) (by kernel_rfl) (by decide)
theorem Uv:cN c3 BT 38 (bf 38):=(show bf 38=cw DT bh [22,22,22,3] (λa=>(bE.mk a.1 a.2.1 a.2.2.1 a.2.2.2):bi DT [22,22,22,3]->bE) (λb=>(b.Safe,b.dg,b.dG,b.er)) rfl from rfl)▸eS (λc d=>eY c (e8 (by decide) c d)) (λ_=>rfl) (λ_=>rfl) rfl (by decide) (by kernel_rfl) (by decide)
theorem aoZ:cN c3 BT 40 (bf 40):=(show bf 40=cw DT bh [22,3,3] (λa=>(cd.mk a.1 a.2.1 a.2.2):bi DT [22,3,3]->cd) (λb=>(b.bT,b.dZ,b.ed)) rfl from rfl)▸eS (λc d=>eY c (e8 (by decide) c d)) (λ_=>rfl) (λ_=>rfl) rfl (by decide) (by kernel_rfl) (by decide)
theorem Ya:cN c3 BT 43 (bf 43):=(show bf 43=cw DT bh [22,22] (λb=>(cZ.mk b.1 b.2):bi DT [22,22]->cZ) (λc=>(c.dl,c.dr)) rfl from rfl)▸eS (λa d=>eY a (e8 (by decide) a d)) (λ_=>rfl) (λ_=>rfl) rfl (by decide) (by kernel_rfl) (by decide)
theorem Vi:cN c3 BT 46 (bf 46):=(show bf 46=cw DT bh [44] (λb=>(aL.mk b):bi DT [44]->aL) (λd=>d.aA) rfl from rfl)▸eS (λa c=>eY a (e8 (by decide) a c)) (λ_=>rfl) (λ_=>rfl) rfl (by decide) (by kernel_rfl) (by decide)
theorem aa9:cN c3 BT 48 (bf 48):=(show bf 48=cw DT bh [3,22] (λb=>(bQ.mk b.1 b.2):bi DT [3,22]->bQ) (λc=>(c.Time,c.an)) rfl from rfl)▸eS (λa d=>eY a (e8 (by decide) a d)) (λ_=>rfl) (λ_=>rfl) rfl (by decide) (by kernel_rfl) (by decide)
theorem agd:cN c3 BT 50 (bf 50):=(show bf 50=cw DT bh [22,22,4] (λa=>(bA.mk a.1 a.2.1 a.2.2):bi DT [22,22,4]->bA) (λb=>(b.af,b.Keys,b.Out)) rfl from rfl)▸eS (λc d=>eY c (e8 (by decide) c d)) (λ_=>rfl) (λ_=>rfl) rfl (by decide) (by kernel_rfl) (by decide)
theorem ad9:cN c3 BT 52 (bf 52):=(show bf 52=cw DT bh [3,3,3,3] (λa=>(b7.mk a.1 a.2.1 a.2.2.1 a.2.2.2):bi DT [3,3,3,3]->b7) (λb=>(b.State,b.dD,b.Second,b.Time)) rfl from rfl)▸eS (λc d=>eY c (e8 (by decide) c d)) (λ_=>rfl) (λ_=>rfl) rfl (by decide) (by kernel_rfl) (by decide)
theorem ai0:cN c3 BT 56 (bf 56):=(show bf 56=cw DT bh [27,28,3,31,22,32,22,22,33,27,28,36,22,22,22,3,22,3,3,41,41,22,22,44,3,22,22,22,4,3,3,3,3,44,53,54] (λa=>(aE.mk (aB.mk (ak.mk a.1 a.2.1) a.2.2.1 a.2.2.2.1 a.2.2.2.2.1 a.2.2.2.2.2.1 a.2.2.2.2.2.2.1 a.2.2.2.2.2.2.2.1 a.2.2.2.2.2.2.2.2.1) (ak.mk a.2.2.2.2.2.2.2.2.2.1 a.2.2.2.2.2.2.2.2.2.2.1) a.2.2.2.2.2.2.2.2.2.2.2.1 (bE.mk a.2.2.2.2.2.2.2.2.2.2.2.2.1 a.2.2.2.2.2.2.2.2.2.2.2.2.2.1 a.2.2.2.2.2.2.2.2.2.2.2.2.2.2.1 a.2.2.2.2.2.2.2.2.2.2.2.2.2.2.2.1) (cd.mk a.2.2.2.2.2.2.2.2.2.2.2.2.2.2.2.2.1 a.2.2.2.2.2.2.2.2.2.2.2.2.2.2.2.2.2.1 a.2.2.2.2.2.2.2.2.2.2.2.2.2.2.2.2.2.2.1) a.2.2.2.2.2.2.2.2.2.2.2.2.2.2.2.2.2.2.2.1 a.2.2.2.2.2.2.2.2.2.2.2.2.2.2.2.2.2.2.2.2.1 (cZ.mk a.2.2.2.2.2.2.2.2.2.2.2.2.2.2.2.2.2.2.2.2.2.1 a.2.2.2.2.2.2.2.2.2.2.2.2.2.2.2.2.2.2.2.2.2.2.1) (aL.mk a.2.2.2.2.2.2.2.2.2.2.2.2.2.2.2.2.2.2.2.2.2.2.2.1) (bQ.mk a.2.2.2.2.2.2.2.2.2.2.2.2.2.2.2.2.2.2.2.2.2.2.2.2.1 a.2.2.2.2.2.2.2.2.2.2.2.2.2.2.2.2.2.2.2.2.2.2.2.2.2.1) (bA.mk a.2.2.2.2.2.2.2.2.2.2.2.2.2.2.2.2.2.2.2.2.2.2.2.2.2.2.1 a.2.2.2.2.2.2.2.2.2.2.2.2.2.2.2.2.2.2.2.2.2.2.2.2.2.2.2.1 a.2.2.2.2.2.2.2.2.2.2.2.2.2.2.2.2.2.2.2.2.2.2.2.2.2.2.2.2.1) (b7.mk a.2.2.2.2.2.2.2.2.2.2.2.2.2.2.2.2.2.2.2.2.2.2.2.2.2.2.2.2.2.1 a.2.2.2.2.2.2.2.2.2.2.2.2.2.2.2.2.2.2.2.2.2.2.2.2.2.2.2.2.2.2.1 a.2.2.2.2.2.2.2.2.2.2.2.2.2.2.2.2.2.2.2.2.2.2.2.2.2.2.2.2.2.2.2.1 a.2.2.2.2.2.2.2.2.2.2.2.2.2.2.2.2.2.2.2.2.2.2.2.2.2.2.2.2.2.2.2.2.1) (aL.mk a.2.2.2.2.2.2.2.2.2.2.2.2.2.2.2.2.2.2.2.2.2.2.2.2.2.2.2.2.2.2.2.2.2.1) a.2.2.2.2.2.2.2.2.2.2.2.2.2.2.2.2.2.2.2.2.2.2.2.2.2.2.2.2.2.2.2.2.2.2.1 a.2.2.2.2.2.2.2.2.2.2.2.2.2.2.2.2.2.2.2.2.2.2.2.2.2.2.2.2.2.2.2.2.2.2.2):bi DT [27,28,3,31,22,32,22,22,33,27,28,36,22,22,22,3,22,3,3,41,41,22,22,44,3,22,22,22,4,3,3,3,3,44,53,54]->aE) (λb=>(b.au.ao.ai,b.au.ao.af,b.au.Time,b.au.aN,b.au.aw,b.au.aQ,b.au.cn,b.au.cf,b.au.bp,b.ao.ai,b.ao.af,b.cI,b.bR.Safe,b.bR.dg,b.bR.dG,b.bR.er,b.bM.bT,b.bM.dZ,b.bM.ed,b.cq,b.bZ,b.cW.dl,b.cW.dr,b.bw.aA,b.bz.Time,b.bz.an,b.Keys.af,b.Keys.Keys,b.Keys.Out,b.cL.State,b.cL.dD,b.cL.Second,b.cL.Time,b.bq.aA,b.bS,b.bB)) rfl from rfl)▸eS (λc d=>eY c (e8 (by decide) c d)) (λ_=>rfl) (λ_=>rfl) rfl (by decide) (by kernel_rfl) (by decide)
theorem agR:cN c3 BT 60 (bf 60):=(show bf 60=cw DT bh [27,28,32,22,22,36,22,22,22,3,22,3,3,22] (λa=>(gM.mk (ak.mk a.1 a.2.1) a.2.2.1 a.2.2.2.1 a.2.2.2.2.1 a.2.2.2.2.2.1 (bE.mk a.2.2.2.2.2.2.1 a.2.2.2.2.2.2.2.1 a.2.2.2.2.2.2.2.2.1 a.2.2.2.2.2.2.2.2.2.1) (cd.mk a.2.2.2.2.2.2.2.2.2.2.1 a.2.2.2.2.2.2.2.2.2.2.2.1 a.2.2.2.2.2.2.2.2.2.2.2.2.1) a.2.2.2.2.2.2.2.2.2.2.2.2.2):bi DT [27,28,32,22,22,36,22,22,22,3,22,3,3,22]->gM) (λb=>(b.ao.ai,b.ao.af,b.aQ,b.ai,b.aw,b.cI,b.bR.Safe,b.bR.dg,b.bR.dG,b.bR.er,b.bM.bT,b.bM.dZ,b.bM.ed,b.gZ)) rfl from rfl)▸eS (λc d=>eY c (e8 (by decide) c d)) (λ_=>rfl) (λ_=>rfl) rfl (by decide) (by kernel_rfl) (by decide)
theorem alC:cN c3 BT 65 (bf 65):=(show bf 65=cw DT bh [3,3,3,3] (λa=>(bH.mk a.1 a.2.1 a.2.2.1 a.2.2.2):bi DT [3,3,3,3]->bH) (λb=>(b.Kind,b.A,b.B,b.C)) rfl from rfl)▸eS (λc d=>eY c (e8 (by decide) c d)) (λ_=>rfl) (λ_=>rfl) rfl (by decide) (by kernel_rfl) (by decide)
theorem ajD:cN c3 BT 75 (bf 75):=(show bf 75=cw DT bh [3,3,3,3,3,4,4,3,3] (λa=>(cy.mk a.1 a.2.1 a.2.2.1 a.2.2.2.1 a.2.2.2.2.1 a.2.2.2.2.2.1 a.2.2.2.2.2.2.1 a.2.2.2.2.2.2.2.1 a.2.2.2.2.2.2.2.2):bi DT [3,3,3,3,3,4,4,3,3]->cy) (λb=>(b.Kind,b.eB,b.Priority,b.ku,b.l9,b.sd,b.uV,b.mZ,b.pB)) rfl from rfl)▸eS (λc d=>eY c (e8 (by decide) c d)) (λ_=>rfl) (λ_=>rfl) rfl (by decide) (by kernel_rfl) (by decide)
theorem aoz:cN c3 BT 83 (bf 83):=(show bf 83=cw DT bh [3,3,3,3,3,67,22] (λa=>(dK.mk (bH.mk a.1 a.2.1 a.2.2.1 a.2.2.2.1) a.2.2.2.2.1 a.2.2.2.2.2.1 a.2.2.2.2.2.2):bi DT [3,3,3,3,3,67,22]->dK) (λb=>(b.Event.Kind,b.Event.A,b.Event.B,b.Event.C,b.Time,b.Code,b.ll)) rfl from rfl)▸eS (λc d=>eY c (e8 (by decide) c d)) (λ_=>rfl) (λ_=>rfl) rfl (by decide) (by kernel_rfl) (by decide)
theorem Xi:cN c3 BT 88 (bf 88):=(show bf 88=cw DT bh [3,3,3] (λa=>(bC.mk a.1 a.2.1 a.2.2):bi DT [3,3,3]->bC) (λb=>(b.Place,b.Road,b.Left)) rfl from rfl)▸eS (λc d=>eY c (e8 (by decide) c d)) (λ_=>rfl) (λ_=>rfl) rfl (by decide) (by kernel_rfl) (by decide)
theorem UR:cN c3 BT 90 (bf 90):=(show bf 90=cw DT bh [3,3] (λb=>(bI.mk b.1 b.2):bi DT [3,3]->bI) (λc=>(c.eF,c.fk)) rfl from rfl)▸eS (λa d=>eY a (e8 (by decide) a d)) (λ_=>rfl) (λ_=>rfl) rfl (by decide) (by kernel_rfl) (by decide)
theorem aaM:cN c3 BT 97 (bf 97):=(show bf 97=cw DT bh [3,3,95] (λa=>(fa.mk a.1 a.2.1 a.2.2):bi DT [3,3,95]->fa) (λb=>(b.kO,b.Kind,b.Data)) rfl from rfl)▸eS (λc d=>eY c (e8 (by decide) c d)) (λ_=>rfl) (λ_=>rfl) rfl (by decide) (by kernel_rfl) (by decide)
theorem Ys:cN c3 BT 101 (bf 101):=(show bf 101=cw DT bh [3,3,3,22] (λa=>(aT.mk a.1 a.2.1 a.2.2.1 a.2.2.2):bi DT [3,3,3,22]->aT) (λb=>(b.Reader,b.Number,b.Time,b.aw)) rfl from rfl)▸eS (λc d=>eY c (e8 (by decide) c d)) (λ_=>rfl) (λ_=>rfl) rfl (by decide) (by kernel_rfl) (by decide)
theorem adB:cN c3 BT 106 (bf 106):=(show bf 106=cw DT bh [95,3] (λb=>(qe.mk b.1 b.2):bi DT [95,3]->qe) (λc=>(c.Ho,c.Hp)) rfl from rfl)▸eS (λa d=>eY a (e8 (by decide) a d)) (λ_=>rfl) (λ_=>rfl) rfl (by decide) (by kernel_rfl) (by decide)
theorem abw:cN c3 BT 115 (bf 115):=(show bf 115=cw DT bh [3,3,3,3,4,4,3,3,3,3] (λa=>(aZ.mk a.1 a.2.1 a.2.2.1 a.2.2.2.1 a.2.2.2.2.1 a.2.2.2.2.2.1 (bI.mk a.2.2.2.2.2.2.1 a.2.2.2.2.2.2.2.1) (bI.mk a.2.2.2.2.2.2.2.2.1 a.2.2.2.2.2.2.2.2.2)):bi DT [3,3,3,3,4,4,3,3,3,3]->aZ) (λb=>(b.an,b.To,b.Length,b.bT,b.jy,b.eN,b.Rest.eF,b.Rest.fk,b.eI.eF,b.eI.fk)) rfl from rfl)▸eS (λc d=>eY c (e8 (by decide) c d)) (λ_=>rfl) (λ_=>rfl) rfl (by decide) (by kernel_rfl) (by decide)
theorem agt:cN c3 BT 117 (bf 117):=(show bf 117=cw DT bh [3,4] (λb=>(bP.mk b.1 b.2):bi DT [3,4]->bP) (λc=>(c.eU,c.wj)) rfl from rfl)▸eS (λa d=>eY a (e8 (by decide) a d)) (λ_=>rfl) (λ_=>rfl) rfl (by decide) (by kernel_rfl) (by decide)
theorem alf:cN c3 BT 120 (bf 120):=(show bf 120=cw DT bh [22,3,3,3] (λa=>(aS.mk a.1 a.2.1 a.2.2.1 a.2.2.2):bi DT [22,3,3,3]->aS) (λb=>(b.ai,b.dX,b.dY,b.cR)) rfl from rfl)▸eS (λc d=>eY c (e8 (by decide) c d)) (λ_=>rfl) (λ_=>rfl) rfl (by decide) (by kernel_rfl) (by decide)
theorem aja:cN c3 BT 140 (bf 140):=(show bf 140=cw DT bh [22,138] (λb=>(ay.mk b.1 b.2):bi DT [22,138]->ay) (λc=>(c.aw,c.aH)) rfl from rfl)▸eS (λa d=>eY a (e8 (by decide) a d)) (λ_=>rfl) (λ_=>rfl) rfl (by decide) (by kernel_rfl) (by decide)
theorem an6:cN c3 BT 142 (bf 142):=(show bf 142=cw DT bh [3,22] (λb=>(aM.mk b.1 b.2):bi DT [3,22]->aM) (λc=>(c.Time,c.an)) rfl from rfl)▸eS (λa d=>eY a (e8 (by decide) a d)) (λ_=>rfl) (λ_=>rfl) rfl (by decide) (by kernel_rfl) (by decide)
theorem alV:cN c3 BT 144 (bf 144):=(show bf 144=cw DT bh [3,3] (λb=>(ju.mk b.1 b.2):bi DT [3,3]->ju) (λc=>(c.a0,c.a1)) rfl from rfl)▸eS (λa d=>eY a (e8 (by decide) a d)) (λ_=>rfl) (λ_=>rfl) rfl (by decide) (by kernel_rfl) (by decide)
theorem Un:cN c3 BT 170 (bf 170):=(show bf 170=cw DT bh [3,167,168,168] (λa=>(cm.mk a.1 a.2.1 a.2.2.1 a.2.2.2):bi DT [3,167,168,168]->cm) (λb=>(b.n,b.steps,b.safe,b.bad)) rfl from rfl)▸eS (λc d=>eY c (e8 (by decide) c d)) (λ_=>rfl) (λ_=>rfl) rfl (by decide) (by kernel_rfl) (by decide)
theorem aah:cN c3 BT 174 (bf 174):=(show bf 174=cw DT bh [3,3,3,3] (λa=>(cS.mk a.1 a.2.1 a.2.2.1 a.2.2.2):bi DT [3,3,3,3]->cS) (λb=>(b.gX,b.from_,b.b9,b.time)) rfl from rfl)▸eS (λc d=>eY c (e8 (by decide) c d)) (λ_=>rfl) (λ_=>rfl) rfl (by decide) (by kernel_rfl) (by decide)
theorem Xz:cN c3 BT 222 (bf 222):=(show bf 222=cw DT bh [3,3,3] (λa=>(kD.mk a.1 a.2.1 a.2.2):bi DT [3,3,3]->kD) (λb=>(b.up,b.down,b.level)) rfl from rfl)▸eS (λc d=>eY c (e8 (by decide) c d)) (λ_=>rfl) (λ_=>rfl) rfl (by decide) (by kernel_rfl) (by decide)
theorem adh:cN c3 BT 230 (bf 230):=(show bf 230=cw DT bh [27,28,36,22] (λa=>(pL.mk (ak.mk a.1 a.2.1) a.2.2.1 a.2.2.2):bi DT [27,28,36,22]->pL) (λb=>(b.m.ai,b.m.af,b.KE,b.from_)) rfl from rfl)▸eS (λc d=>eY c (e8 (by decide) c d)) (λ_=>rfl) (λ_=>rfl) rfl (by decide) (by kernel_rfl) (by decide)
theorem aaY:cN c3 BT 251 (bf 251):=(show bf 251=cw DT bh [3,3,3,3] (λa=>(dS.mk a.1 a.2.1 a.2.2.1 a.2.2.2):bi DT [3,3,3,3]->dS) (λb=>(b.Reader,b.Tag,b.an,b.To)) rfl from rfl)▸eS (λc d=>eY c (e8 (by decide) c d)) (λ_=>rfl) (λ_=>rfl) rfl (by decide) (by kernel_rfl) (by decide)
theorem af0:cN c3 BT 275 (bf 275):=(show bf 275=cw DT bh [3,3] (λb=>(da.mk b.1 b.2):bi DT [3,3]->da) (λc=>(c.time,c.roads)) rfl from rfl)▸eS (λa d=>eY a (e8 (by decide) a d)) (λ_=>rfl) (λ_=>rfl) rfl (by decide) (by kernel_rfl) (by decide)
theorem ad0:cN c3 BT 283 (bf 283):=(show bf 283=cw DT bh [3,3] (λb=>(kC.mk b.1 b.2):bi DT [3,3]->kC) (λc=>(c.kind,c.Dn)) rfl from rfl)▸eS (λa d=>eY a (e8 (by decide) a d)) (λ_=>rfl) (λ_=>rfl) rfl (by decide) (by kernel_rfl) (by decide)
theorem aiQ:cN c3 BT 312 (bf 312):=(show bf 312=cw DT bh [3,3,3,3] (λa=>(dC.mk a.1 a.2.1 a.2.2.1 a.2.2.2):bi DT [3,3,3,3]->dC) (λb=>(b.Reader,b.Tag,b.an,b.To)) rfl from rfl)▸eS (λc d=>eY c (e8 (by decide) c d)) (λ_=>rfl) (λ_=>rfl) rfl (by decide) (by kernel_rfl) (by decide)
theorem anI:cN c3 BT 333 (bf 333):=(show bf 333=cw DT bh [22,3,3,3,3,3,3,22,22,4,44,3,3] (λa=>(jf.mk (cd.mk a.1 a.2.1 a.2.2.1) (b7.mk a.2.2.2.1 a.2.2.2.2.1 a.2.2.2.2.2.1 a.2.2.2.2.2.2.1) (bA.mk a.2.2.2.2.2.2.2.1 a.2.2.2.2.2.2.2.2.1 a.2.2.2.2.2.2.2.2.2.1) (aL.mk a.2.2.2.2.2.2.2.2.2.2.1) a.2.2.2.2.2.2.2.2.2.2.2.1 a.2.2.2.2.2.2.2.2.2.2.2.2):bi DT [22,3,3,3,3,3,3,22,22,4,44,3,3]->jf) (λb=>(b.x.bT,b.x.dZ,b.x.ed,b.s.State,b.s.dD,b.s.Second,b.s.Time,b.k.af,b.k.Keys,b.k.Out,b.b.aA,b.t,b.from_)) rfl from rfl)▸eS (λc d=>eY c (e8 (by decide) c d)) (λ_=>rfl) (λ_=>rfl) rfl (by decide) (by kernel_rfl) (by decide)
def RH:List Nat:=[3,4,5,22,27,28,30,31,32,33,35,36,38,40,41,43,44,46,48,50,52,53,54,56,60,62,65,67,75,83,88,90,95,97,101,106,107,115,117,120,134,138,140,142,144,159,161,167,168,170,174,179,181,222,230,247,251,272,275,283,309,312,333]
theorem aqD:∀a,a∈RH->cN c3 BT a (bf a):=F2 RH ⟨EF3,WW,EF5,agc,anO,Z0,aok,ahT,ait,aqi,al6,acA,Uv,aoZ,aj9,Ya,akV,Vi,aa9,agd,ad9,Wm,akr,ai0,agR,amu,alC,anf,ajD,aoz,Xi,UR,Zs,aaM,Ys,adB,ahj,abw,agt,alf,ahY,apJ,aja,an6,alV,abY,ajA,akf,Vu,Un,aah,aej,alP,Xz,adh,amA,aaY,YB,af0,ad0,agB,aiQ,anI,trivial⟩
theorem dM:cU c3 BT:=afw bf (λ_=>rfl) (λ_=>rfl) λa=>by
 rcases ahP (px IQ (a/16)) a with b |b
 ·refine aqD a ?_
  obtain⟨p,g,rfl⟩:=f2.1 b;obtain⟨i,f,d⟩:=P5 _ _ _ g;have h:p.1∈(IQ.flatten.map λp=>p.1):=f2.2 ⟨p,List.mem_flatten.2 ⟨i,f,d⟩,rfl⟩;exact h
 ·have e:Du a=⟨Empty,λ_=>.any⟩:=b;refine amI (λj=>?_) (amT _ _ (Qa _ _ (by decide)))
  have c:(Du a).T:=j;rw[e] at c;exact c.elim
theorem mixed:c3.follows .mixedOrders=true:=by kernel_rfl
abbrev FT(a:aq BT):Prop:=Fits c3 BT a
theorem f0:∀a,a∈([]:List (aq BT))->FT a:=λ_ b=>(dt b).elim
theorem fc{c:aq BT}{d:List (aq BT)}(e:FT c)(f:∀a,a∈d->FT a):∀a,a∈c::d->FT a:=λa b=>by
 rcases e6.1 b with rfl |b
 ·exact e
 ·exact f a b
def chk(a:aq BT)(fn:Func):Bool:=fn.body.isSome&&!(fn.name== "runtime.NumGoroutine")&&ea a.na fn.ntmps&&gB fn.ntmps (fn.body.getD .skip)&&ea a.low (len a.par.dF)&&lY 0 fn.results.toList.length a.az.dE
theorem kf{L:Lp}{a:Lp->aq BT}{e:List (aq BT)}(hs:List (Nat×Hn))(m:∀a,a∈e->FT a){fn:Func}(l:c3.funcs[(a L).cO]? =c4 fn)(c:chk (a L) fn=true:=by kernel_rfl)
 (g:∀b,gl L BT c3 e (a L) fn.results.toList (fn.body.getD .skip) hs b=(a L).F b:=by(intro b;kernel_rfl)):FT (a L):=by
 unfold chk at c;rw[d6,d6,d6,d6,d6] at c;obtain⟨⟨⟨⟨⟨n,i⟩,j⟩,f⟩,k⟩,h⟩:=c;obtain⟨code,d⟩:=Option.isSome_iff_exists.1 n;refine FA (L:=L) (hs:=hs) mixed dM m l d (by simpa using i) (rs:=fn.results.toList) rfl j ?_ k h λb=>?_
 ·rw[d] at f;exact f
 ·have:=g b;rw[d] at this;exact this
end Go.X.T
namespace Go.X
open Go Go.Aml Go.Bml
section
variable {P : Program} {B : Tb}
theorem ahH{p C:Nat}{m:Env}{i:List aO}{e:Option Nat}{f s q r:TypeId}{t:String}{o:Array Edge}{c:Operand}{sz:Nat}{es:List PV}(y:PE m c= .vs sz es)(w:dU P f=c4 r)(x:fL p e=true):
 Hk P p C ⟨e,.binOp .eql f c (.const (.slice d4 0 0)) s,q,t,o,d4⟩ (λI v=>∃b,(b=true->es=[])/\I=li m e (.bool b)/\v=i) m i:=by
 intro g d l j J K A;have n:=y▸j.e.eval c;have E:∃a k cap,d.eval c= .slice a k cap/\(a.isNone=true->es=[]):=by
  generalize d.eval c=z at n;cases n with
  |aW h=>
   cases h with
   |eX _ a cap=>exact⟨a,0,cap,rfl,λ_=>rfl⟩
   |vs _ _ b G cap=>exact⟨c4 ⟨b,G,d4⟩,_,cap,rfl,λh=>by cases h⟩
 obtain⟨a,k,cap,F,H⟩:=E;have D:(execOp d.eval ⟨e,.binOp .eql f c (.const (.slice d4 0 0)) s,q,t,o,d4⟩).run P l= .ok (.value (.bool a.isNone)) l:=by
  have u:d.eval (.const (.slice d4 0 0))= .slice d4 0 0:=rfl;simp[execOp,F,u,eqGuard_at_slice,Lib.run_eql_slice_nil l f r a k cap 0 0 (gD w)]
 unfold Oper.wp;rw[D];exact A _ _ ⟨_,i,g,⟨a.isNone,H,rfl,rfl⟩,⟨j.m,j.e.tn x (.bool _)⟩,GStep.refl _ _ _ _⟩
theorem lc(p:P.follows .mixedOrders=true)(j:cU P B){L:Lp}{c:aq B}{fn:Func}{o i h:Code}{rs:List ResultVar}{y Y K M a:TypeId}{Z N:String}{I Q:Array Edge}{s n:Nat}{xs:bi B.D c.par.bX->List (B.D n)}
 (aa:P.funcs[c.cO]? =c4 fn) (O:fn.body=c4 (.seq o (.seq (.seq (.region s [⟨c4 3,.move (.tmp 0),K,Z,I,d4⟩,⟨c4 4,.binOp .eql y (.tmp 3) (.const (.slice d4 0 0)) Y,M,N,Q,d4⟩].toArray false) i) h)))
 (E:(fn.name== "runtime.NumGoroutine")=false) (W:fn.results=rs.toArray) (F:ea c.na fn.ntmps=true) (S:lY 0 rs.length c.az.dE=true) (C:c.low=0) (T:dU P y=c4 a) (v:ea 5 fn.ntmps=true)
 (A:gB fn.ntmps o=true) (U:gB fn.ntmps i=true) (R:gB fn.ntmps h=true)
 (V:∀d,cz B c.par d=⟨[(0,.row n (xs d))],[]⟩)
 (h0:∀d,exec L B P [] 0 [] o 1 (λa e=>bif d9 a 0 then c4 e else d4) ⟨[(0,.row n (xs d))],[]⟩=c4 ⟨[(2,.bg),(0,.row n (xs d))],[]⟩)
 (G:∀d,xs d=[]->exec L B P [] 0 [] i 1 (λa e=>bif d9 a 0 then exec L B P [] 0 [] h 1 (kL P c rs) e else kL P c rs a e) ⟨[(4,.bool true),(0,.row n (xs d))],[]⟩=(c.F d).bind c4)
 (H:∀d,exec L B P [] 0 [] i 1 (λa e=>bif d9 a 0 then exec L B P [] 0 [] h 1 (kL P c rs) e else kL P c rs a e) ⟨[(4,.bool false),(0,.row n (xs d))],[]⟩=(c.F d).bind c4):Fits P B c:=by
 refine ti j aa O E W F S λd k u=>?_
 rw[V,C];have t:∀c,c∈([]:List (aq B))->Fits P B c:=λ_ q=>(dt q).elim
 have v:5<=fn.ntmps:=d5 v;have z:∀l,l<5->fL fn.ntmps (c4 l)=true:=λl f=>by
  exact Nat.ble_eq_true_of_le (show l+1<=fn.ntmps by omega)
 refine rN ((gO p j t o 1 _ _ _ (h0 d) A (d8 _)).mono λa m H1 g=>?_)
 have J:∀a (m:Env) (H1:List aO),qP B (λa e=>bif d9 a 0 then exec L B P [] 0 [] h 1 (kL P c rs) e else kL P c rs a e) k a m H1->Ce (eT P fn.ntmps 0 h (qP B (kL P c rs) k)) (qP B (kL P c rs) k) a m H1:=by
  intro a m H1 g;cases a with
  |normal=>
   obtain⟨r,f,rfl,rfl⟩:=g;exact(gO p j t h 1 _ _ _ f R (d8 _)).mono nP
  |ret=>exact g
  |exit s=>exact g
  |_=>exact g
 cases a with
 |normal=>
  obtain⟨r,_,f,rfl,rfl⟩:=g;injection f with f
  subst f;refine rN (rN (Lc (aae Pt (z 3 (by omega)) (KR rfl (ahH (sz:=B.sz n) (es:=(xs d).map (B.ty n).enc) (by rfl) T (z 4 (by omega))) ?_))))
  rintro ab H2 ⟨b,D,rfl,rfl⟩;refine Of ?_
  refine aht (aU B [(4,.bool b),(0,.row n (xs d))]) ⟨rfl,rfl,trivial⟩ ?_
  have X:exec L B P [] 0 [] i 1 (λa e=>bif d9 a 0 then exec L B P [] 0 [] h 1 (kL P c rs) e else kL P c rs a e) ⟨[(4,.bool b),(0,.row n (xs d))],[]⟩=c4 k:=by
   cases b with
   |true=>rw[G d (ej.1 (D rfl)),u];rfl
   |false=>rw[H d,u];rfl
  exact(gO p j t i 1 _ _ _ X U (d8 _)).mono λa x w q=>J a x w (nP a x w q)
 |ret=>obtain⟨r,_,f,_⟩:=g;cases f
 |exit s=>obtain⟨r,_,f,_⟩:=g;cases f
 |_=>exact g.elim
end
end Go.X
namespace Go.X.T
open Go Go.Aml Go.Bml Go.X Go.Proofs
theorem oh(L:Lp):FT (RL L):=lc (L:=L) (n:=117) (xs:=λa=>a) (rs:=[.tmp 2]) mixed dM Tryz.func96 rfl rfl rfl rfl rfl rfl rfl rfl rfl rfl rfl (λ_=>rfl) (λ_=>by kernel_rfl) (λa b=>by cases b;kernel_rfl) (λa=>by kernel_rfl)
theorem sP(L:Lp):FT (Mq L):=lc (L:=L) (n:=115) (xs:=λa=>a) (rs:=[.tmp 2]) mixed dM Tryz.func97 rfl rfl rfl rfl rfl rfl rfl rfl rfl rfl rfl (λ_=>rfl) (λ_=>by kernel_rfl) (λa b=>by cases b;kernel_rfl) (λa=>by kernel_rfl)
theorem Md(L:Lp):FT (Pv L):=lc (L:=L) (n:=88) (xs:=λa=>a) (rs:=[.tmp 2]) mixed dM Tryz.func211 rfl rfl rfl rfl rfl rfl rfl rfl rfl rfl rfl (λ_=>rfl) (λ_=>by kernel_rfl) (λa b=>by cases b;kernel_rfl) (λa=>by kernel_rfl)
theorem iY(L:Lp):FT (PI L):=lc (L:=L) (n:=3) (xs:=λa=>a) (rs:=[.tmp 2]) mixed dM Tryz.func99 rfl rfl rfl rfl rfl rfl rfl rfl rfl rfl rfl (λ_=>rfl) (λ_=>by kernel_rfl) (λa b=>by cases b;kernel_rfl) (λa=>by kernel_rfl)
theorem oH(L:Lp):FT (OB L):=lc (L:=L) (n:=3) (xs:=λa=>a) (rs:=[.tmp 2]) mixed dM Tryz.func99 rfl rfl rfl rfl rfl rfl rfl rfl rfl rfl rfl (λ_=>rfl) (λ_=>by kernel_rfl) (λa b=>by cases b;kernel_rfl) (λa=>by kernel_rfl)
theorem O8(L:Lp):FT (C69 L):=lc (L:=L) (n:=88) (xs:=λa=>a) (rs:=[.tmp 2]) mixed dM Tryz.func211 rfl rfl rfl rfl rfl rfl rfl rfl rfl rfl rfl (λ_=>rfl) (λ_=>by kernel_rfl) (λa b=>by cases b;kernel_rfl) (λa=>by kernel_rfl)
theorem G7(L:Lp):FT (C72 L):=lc (L:=L) (n:=90) (xs:=λa=>a) (rs:=[.tmp 2]) mixed dM Tryz.func98 rfl rfl rfl rfl rfl rfl rfl rfl rfl rfl rfl (λ_=>rfl) (λ_=>by kernel_rfl) (λa b=>by cases b;kernel_rfl) (λa=>by kernel_rfl)
theorem IE(L:Lp):FT (C76 L):=lc (L:=L) (n:=75) (xs:=λa=>a) (rs:=[.tmp 2]) mixed dM Tryz.func102 rfl rfl rfl rfl rfl rfl rfl rfl rfl rfl rfl (λ_=>rfl) (λ_=>by kernel_rfl) (λa b=>by cases b;kernel_rfl) (λa=>by kernel_rfl)
theorem yo(L:Lp):FT (abt L):=lc (L:=L) (n:=115) (xs:=λa=>a) (rs:=[.tmp 2]) mixed dM Tryz.func97 rfl rfl rfl rfl rfl rfl rfl rfl rfl rfl rfl (λ_=>rfl) (λ_=>by kernel_rfl) (λa b=>by cases b;kernel_rfl) (λa=>by kernel_rfl)
theorem akq(L:Lp):FT (aoO L):=lc (L:=L) (n:=117) (xs:=λa=>a) (rs:=[.tmp 2]) mixed dM Tryz.func96 rfl rfl rfl rfl rfl rfl rfl rfl rfl rfl rfl (λ_=>rfl) (λ_=>by kernel_rfl) (λa b=>by cases b;kernel_rfl) (λa=>by kernel_rfl)
theorem apm(L:Lp):FT (Vb L):=lc (L:=L) (n:=140) (xs:=λa=>a) (rs:=[.tmp 2]) mixed dM Tryz.func236 rfl rfl rfl rfl rfl rfl rfl rfl rfl rfl rfl (λ_=>rfl) (λ_=>by kernel_rfl) (λa b=>by cases b;kernel_rfl) (λa=>by kernel_rfl)
theorem anc(L:Lp):FT (afV L):=lc (L:=L) (n:=75) (xs:=λa=>a) (rs:=[.tmp 2]) mixed dM Tryz.func102 rfl rfl rfl rfl rfl rfl rfl rfl rfl rfl rfl (λ_=>rfl) (λ_=>by kernel_rfl) (λa b=>by cases b;kernel_rfl) (λa=>by kernel_rfl)
theorem VN(L:Lp):FT (aeW L):=lc (L:=L) (n:=90) (xs:=λa=>a) (rs:=[.tmp 2]) mixed dM Tryz.func98 rfl rfl rfl rfl rfl rfl rfl rfl rfl rfl rfl (λ_=>rfl) (λ_=>by kernel_rfl) (λa b=>by cases b;kernel_rfl) (λa=>by kernel_rfl)
end Go.X.T
namespace Go.X
open Go Go.Aml Go.Bml Go.RowKit
section
variable {P : Program} {B : Tb}
theorem PP{e t:Nat}{g:Oper}{b:Act}{c:World}{k j:Act->World->Prop}{l:Exit->Act->World->Prop}(q:∀d,g.op≠ .defer d)(h:∀b c,k b c->j b c)(a:g.wp P b c k l):g.wpIn (c7.inRound e) t P b c j l:=by
 refine⟨λf _=>trivial,?_⟩
 rw[show(c7.inRound e).round=c4 e from rfl,Oper.semAt_some e b.eval g q];unfold Oper.wp at a;generalize (execOp b.eval g).run P c=r at a;cases r with
 |ok p n=>
  cases p with
  |value v=>exact h _ _ a
  |skip=>exact h _ _ a
  |defer w=>exact h _ _ a
  |enter f args=>
   refine⟨λa=>by simp[c7] at a,(CallsIn.inRound e (callsIn_wide.2 a)).mono λu m i=>?_⟩
   cases u with
   |returned v=>exact h _ _ i
   |panicked d=>exact i
   |outgrown=>exact i
  |row row args=>
   refine⟨λa=>by simp[c7] at a,λd s _=>?_⟩
   obtain⟨v,m,i,o⟩:=a d s;exact⟨v,m,h _ _ i,stepsIn_wide.2 o⟩
  |_=>exact a.elim
 |halt d n=>
  cases d with
  |panic v=>exact a
  |_=>exact a.elim
theorem Mn{l n:Nat}{all:Array Oper}{f:Exit->Act->World->Prop}(j:∀c b,¬f .outgrown c b):∀(e:List Oper) (c:Act) (b:World),(∀d,d∈e->∀p,d.op≠ .defer p)->wpList P all f e c b->wpListIn (c7.inRound l) n P all f e c b
 |[],_,_,_,a=>a
 |d::e,c,b,h,a=>by
  unfold wpList at a;unfold wpListIn;have i:=λc b=>Mn (l:=l) (n:=n) (all:=all) j e c b λd o=>h d (ec _ o)
  split at a
  ·rename_i g;rw[if_pos g];rcases a with a |⟨_,m,k,a⟩
   ·exact PP (h d ez) i a
   ·exact(j m k a).elim
  ·rename_i g;rw[if_neg g];exact⟨λ_ _=>trivial,i _ _ a⟩
theorem GStep.lF{n:Nat}{s g:Gh}{H0 H:List aO}{o d w':World}(h:Bml.GStep n s H0 o g H d)(l:bF g H d)(N:w'.os=d.os)(ht:w'.tape=d.tape)(k:w'.output=d.output)(u:d.heap.size<=w'.heap.size)
 (t:∀b,g.F b->w'.heap[b]? =d.heap[b]?) (y:∀r b C,g.β r=c4 (b,C)->w'.heap[b]? =d.heap[b]?) (A:∀b,b<o.heap.size->w'.heap[b]? =d.heap[b]?):Bml.GStep n s H0 o g H w'/\bF g H w':=by
 refine⟨⟨N.trans h.os,ht.trans h.tape,k.trans h.output,ev h.size u,h.F,λb a=>?_,λb a G=>(A b a).trans (h.rest b a G),h.oY,h.oZ,h.dF⟩,⟨λb a=>Nat.lt_of_lt_of_le (l.fb b a) u,l.inj,l.m8,λr j k=>?_⟩⟩
 ·exact(t b (h.F b a)).trans (h.jh b a)
 ·obtain⟨w,E,m⟩:=l.obj r j k;refine⟨w,E,?_⟩
  cases a:g.β r with
  |none=>rw[a] at m;exact m
  |some O=>
   obtain⟨b,C⟩:=O;rw[a] at m;obtain⟨M,cells,R,J,x,I,F⟩:=m;refine⟨M,cells,by rw[y r b C a];exact R,J,x,I,λi K c Q=>?_⟩
   obtain⟨L,u1,u2,u3⟩:=F i K c Q;exact⟨L,u1,u2,VR.uz (f:=λr v=>∃j,H[r]? =c4 j/\v<=j.aF) (λ_ a=>a) t (λr v j _ k D=>⟨j,k,D,λe=>⟨e,rfl,rfl,rfl⟩⟩) u3 u3.wf⟩
def vy(h:Nat)(P:Program)(k:Nat)(j:Array Value)(f:List Value)(l:World->Prop):Prop:=
 ∀(g:Nat) (c:Nat->World->Prop) (a:World),(∀b a,c b a->l a)->(∀b a d,c b a->Below a.heap.size a d->c b d)->
  (∀b i a,f[b]? =c4 i->c b a->YieldAt c7 (h -1) P g #[i] a λe d=>e= .returned (.bool true)/\c (b+1) d)->
  c 0 a->CallsIn c7 h P k (#[.func (.yield g) #[] #[]]++j) a λe d=>(∃v,e= .returned v)/\c f.length d
theorem Pq{n:Nat}{g:Operand}{ps:Array Tmp}{assign body:Code}{Q:Exit->Act->World->Prop}{a:Act}{w:World}
 {gf:Nat} {lb:Array Value} (hg:a.eval g= .func (.func gf) #[] lb) (eg:∀args w,(callFunc gf args).run P w= .ok (.enter gf args) w)
 {xs:List Value} {Rd:World->Prop} (hseq:vy (n -1) P gf lb xs Rd) (hps:ps.size=1)
 (I:Nat->World->Prop) (hIr:∀k W,I k W->Rd W)
 (hIp:∀k W r o',I k W->W.heap[w.heap.size+1]? =c4 (.loop r)->o'.isCells=false->I k (W.putObj (w.heap.size+1) o'))
 (hIb:∀k W W',I k W->w.heap.size+2<=W.heap.size->Below W.heap.size W W'->I k W')
 (h0:∀r,I 0 ((w.alloc (.deferred (c4 []))).alloc (.loop r)))
 (Im:Nat->Value->Act->World->Prop)
 (hImp:∀k x a1 W r o',Im k x a1 W->W.heap[w.heap.size+1]? =c4 (.loop r)->o'.isCells=false->Im k x a1 (W.putObj (w.heap.size+1) o'))
 (hassign:∀(l k:Nat) (x:Value) (W:World) (K:Act->World->Prop),xs[k]? =c4 x->I k W->(∀a1 W1,KeepsOthers W W1->Im k x a1 W1->K a1 W1)->
  assign.wpIn (c7.inRound l) (n -1 -1) P (Exit.then K (λ_ _ _=>False)) {tmps:=(ps.zip #[x]).foldl (λt (p,v)=>t.setIfInBounds p v) a.tmps,defers:=[]} W)
 (hbody:∀(l k:Nat) (x:Value) (a1:Act) (W:World),xs[k]? =c4 x->Im k x a1 W->body.wpIn (c7.inRound l) (n -1 -1) P (λe _ W'=>e= .normal/\KeepsOthers W W'/\I (k+1) W') a1 W)
 (hdone:∀(W:World),I xs.length W->W.heap[w.heap.size]? =c4 (.deferred (c4 []))->Q .normal {a with defers:={target:=.collected w.heap.size,args:=#[]}::a.defers} W):
 (Code.rangeFunc g ps assign body).wpIn c7 n P Q a w:=by
 refine wpIn_rangeFunc ?_
 intro fn hfn;obtain⟨rec,hrec⟩:∃rec:LoopState->Option Code->Loop,rec=λst pe=>{state:=st,pending:=pe,fn,tmps:=a.tmps,params:=ps,assign,body,defers:=w.heap.size}:=⟨_,rfl⟩
 obtain⟨W1,hW1⟩:∃W1,(w.alloc (.deferred (c4 []))).alloc (.loop (rec .ready d4))=W1:=⟨_,rfl⟩;have hL1:W1.heap[w.heap.size+1]? =c4 (.loop (rec .ready d4)):=by
  rw[<-hW1];have:=dd (w.alloc (.deferred (c4 []))) (.loop (rec .ready d4));rwa [World.size_alloc] at this
 have hK1:W1.heap[w.heap.size]? =c4 (.deferred (c4 [])):=by
  rw[<-hW1];exact(e5 _ _ _ (by simp)).trans (dd w _)
 have hI1:I 0 W1:=by rw[<-hW1];exact h0 _
 refine⟨w.heap.size+1,[{target:=.collected w.heap.size,args:=#[]}],W1,{target:=.fn (.func gf) lb,args:=#[.func (.yield (w.heap.size+1)) #[] #[]]},W1,gf,
  #[.func (.yield (w.heap.size+1)) #[] #[]]++lb,W1,?_,?_,λ_ _=>trivial,?_,λh=>by simp[c7] at h,?_⟩
 ·rw[<-hW1,hrec];exact run_enterLoop_outer _ _ _ _ _
 ·simp only[resolve,hg];simp[go_sem]
 ·simp[invoke,go_sem,eg]
 ·refine(hseq (w.heap.size+1)
   (λk W=>I k W/\W.heap[w.heap.size+1]? =c4 (.loop (rec .ready d4))/\W.heap[w.heap.size]? =c4 (.deferred (c4 []))) W1
   (λk W h=>hIr k W h.1) (λk W W' h hb=>by
    have h1:=(c6.1 h.2.1).1;exact⟨hIb k W W' h.1 (by omega) hb,(hb.block _ (by omega)).trans h.2.1,(hb.block _ (by omega)).trans h.2.2⟩) ?_ ⟨hI1,hL1,hK1⟩).mono ?_
  ·rintro k x W hx ⟨hi,hl,hk⟩;have hlt:w.heap.size+1<W.heap.size:=(c6.1 hl).1;have hy:=run_yield (P:=P) (args:=#[x]) hl (by rw[hrec];simp[hps]);rw[hrec] at hy;refine⟨fn,_,assign,body,hy,roundIn_of_wpIn hfn (hassign _ k x W _ hx hi λa1 Wa hka him=>?_)⟩
   have hla:=hka.same _ _ hl rfl;have hkka:=hka.same _ _ hk rfl;have hlta:w.heap.size+1<Wa.heap.size:=(c6.1 hla).1;refine⟨_,run_beginRound hla (by rw[hrec]),?_⟩
   have hl2:(Wa.putObj (w.heap.size+1) (.loop {rec .ready d4 with state:=.busy})).heap[w.heap.size+1]? =c4 (.loop {rec .ready d4 with state:=.busy}):=dT hlta;have hk2:(Wa.putObj (w.heap.size+1) (.loop {rec .ready d4 with state:=.busy})).heap[w.heap.size]? =c4 (.deferred (c4 [])):=(d3 (by omega)).trans hkka;refine wpIn_mono (hbody _ k x a1 _ hx (hImp _ _ _ _ _ _ him hla rfl)) ?_
   rintro e a3 W3 ⟨rfl,hk3,hi3⟩;have hl3:=hk3.same _ _ hl2 rfl;have hr:=run_endRound (P:=P) d4 hl3;rw[hrec] at hr;rw[hrec] at hl3;refine⟨_,_,hr,rfl,hIp _ _ _ _ hi3 hl3 rfl,?_,(d3 (by omega)).trans (hk3.same _ _ hk2 rfl)⟩
   rw[hrec];exact dT (c6.1 hl3).1
  ·rintro e W2 ⟨⟨v,rfl⟩,hi,hl,hk⟩;exact⟨d4,_,by have:=run_endLoop (P:=P) hl (by rw[hrec];simp);rw[hrec] at this;exact this,hdone _ (hIp _ _ _ _ hi hl rfl) ((d3 (by omega)).trans hk)⟩
end
section
variable {P : Program} {B : Tb}
structure jV (nl:Nat) (B:Tb) (g2:Gh) (H2:List aO) (w2:World) (W:World) (g:Gh) (H:List (Ob B.D)):Prop where
 m:bF g (av B H) W
 st:Bml.GStep nl g2 H2 w2 g (av B H) W
 sz:w2.heap.size+2<=W.heap.size
 nF:∀b,b=w2.heap.size\/b=w2.heap.size+1->¬g.F b/\∃o,W.heap[b]? =c4 o/\o.isCells=false
theorem PA{g:Gh}{H:List aO}{c:World}(a:bF g H c){r b f:Nat}(d:g.β r=c4 (b,f)):∃h,c.heap[b]? =c4 h/\h.isCells=true:=by
 have j:=a.m8 r b f d;have e:=(a.obj r _ (c5 j)).mem;rw[d] at e;obtain⟨_,cells,i,_⟩:=e;exact⟨_,i,rfl⟩
section
variable {nl : Nat} {g2 : Gh} {H2 : List aO} {w2 W : World} {g : Gh} {H : List (Ob B.D)}
theorem jV.lF(h:jV nl B g2 H2 w2 W g H){a:Nat}{o o':Obj}(s:a=w2.heap.size\/a=w2.heap.size+1)
 (n:W.heap[a]? =c4 o) (w:o.isCells=false) (x:o'.isCells=false):jV nl B g2 H2 w2 (W.putObj a o') g H:=by
 have y:a<W.heap.size:=(c6.1 n).1;have k:∀b,b≠a->(W.putObj a o').heap[b]? =W.heap[b]? :=λb c=>d3 (λe=>c e)
 have m:(W.putObj a o').heap.size=W.heap.size:=by simp[World.putObj]
 obtain⟨t,u⟩:=GStep.lF (w':=W.putObj a o') h.st h.m rfl rfl rfl (by rw[m];exact Nat.le_refl _)
  (λb c=>k b λe=>by subst e;exact(h.nF b s).1 c)
  (λr b C c=>k b λe=>by
   subst e;obtain⟨l,d,j⟩:=PA h.m c;rw[n] at d;injection d with d
   rw[<-d,w] at j;cases j)
  (λb c=>k b (by rcases s with e |e <;> omega))
 refine⟨u,t,by rw[m];exact h.sz,λb c=>⟨(h.nF b c).1,?_⟩⟩
 by_cases e:b=a
 ·subst e;exact⟨o',dT y,x⟩
 ·obtain⟨l,d,j⟩:=(h.nF b c).2;exact⟨l,by rw[k b e];exact d,j⟩
theorem jV.below(h:jV nl B g2 H2 w2 W g H){d:World}(a:Below W.heap.size W d):jV nl B g2 H2 w2 d g H:=by
 have o:=h.sz;obtain⟨j,k⟩:=GStep.lF (w':=d) h.st h.m a.os a.tape a.output a.size (λb c=>a.block b (h.m.fb b c)) (λr b C c=>a.block b (h.m.qD c)) (λb c=>a.block b (by omega));refine⟨k,j,ev h.sz a.size,λb c=>?_⟩
 obtain⟨n,l,e,m⟩:=h.nF b c;exact⟨n,l,(a.block b (c6.1 e).1).trans e,m⟩
theorem jV.next(h:jV nl B g2 H2 w2 W g H){j:World}{o:Gh}{H':List (Ob B.D)}(t:bF o (av B H') j)(c:Bml.GStep nl g (av B H) W o (av B H') j):jV nl B g2 H2 w2 j o H'/\KeepsOthers W j:=by
 have l:∀b a,W.heap[b]? =c4 a->a.isCells=false->∀r C,g.β r≠c4 (b,C):=λb a d n r C w=>by
  obtain⟨A,k,s⟩:=PA h.m w;rw[d] at k;injection k with k
  rw[<-k,n] at s;cases s
 refine⟨⟨t,h.st.trans c,ev h.sz c.size,λb u=>?_⟩,c.size,λb a d n=>(c.rest b (c6.1 d).1 (l b a d n)).trans d⟩
 obtain⟨y,a,e,m⟩:=h.nF b u;refine⟨λx=>?_,a,(c.rest b (c6.1 e).1 (l b a e m)).trans e,m⟩
 rcases c.oY b x with h |h |⟨r,C,h⟩
 ·exact y h
 ·have:=(c6.1 e).1;omega
 ·exact l b a e m r C h
theorem F5(y:cU P B){l n nt u:Nat}{M:List Nat}{c:List Oper}{d:En B.D}{j:Act}{p:Type}{r:p}{k:St B.D->Option p}{Q:Exit->Act->World->Prop}(v:jV nl B g2 H2 w2 W g H)(G:fI g (av B H) W nt (aU B d) j)
 (A:ops B P [] M c (λ_ K=>k K) 0 c [] ⟨d,H⟩=c4 r) (D:∀e,e∈c->fL nt e.dst=true) (O:∀e,e∈c->∀i,e.op≠ .defer i)
 (S:∀m t o s,k m=c4 r->KeepsOthers W o->jV nl B g2 H2 w2 o s m.H->fI s (av B m.H) o nt (aU B m.E) t->Q .normal t o):(Code.region u c.toArray false).wpIn (c7.inRound l) n P Q j W:=by
 have T:∀i,i∈([]:List (aq B))->Fits P B i:=λ_ a=>(dt a).elim
 obtain⟨U,h,C,J⟩:=qg y T A;have z:=yW (nt:=nt) (n:=nl) (Q:=λf d H=>f= .normal/\d=aU B h.E/\H=av B h.H) C D ⟨rfl,rfl,rfl⟩;have F:=z g j W ⟨v.m,G⟩ (eI nt nl g (av B H) W λf d H=>f= .normal/\d=aU B h.E/\H=av B h.H) (λ_ _ _ a=>a);have x:=Mn (l:=l) (n:=n) (λj V a=>a) c _ W O F;refine wpIn_mono (wpIn_region_lit x) ?_
 intro f R I b;cases f with
 |normal=>
  obtain⟨X,H3,N,⟨_,rfl,rfl⟩,q,L⟩:=b;obtain⟨w,E⟩:=v.next q.m L;exact S h R I N J E w q.e
 |exit u=>
  obtain⟨_,_,_,⟨a,_⟩,_⟩:=b;cases a
 |ret=>
  obtain⟨_,_,_,⟨a,_⟩,_⟩:=b;cases a
 |goto l=>
  obtain⟨_,_,_,⟨a,_⟩,_⟩:=b;cases a
 |panic i=>exact b.elim
 |outgrown=>exact b.elim
end
def mO(b a:Nat)(c:List (B.D a)):Nat->List (Ob B.D)
 |0=>[⟨1,1,.box b [.bg]⟩]
 |d+1=>[⟨1,1,.box b [.fl 1 1]⟩,⟨1,1,.rows a (c.take (d+1))⟩]
def LY{a:Nat}(d:B.D a->St B.D)(c:B.D a->List (B.D a)->St B.D)(e:List (B.D a))(b:B.D a):Nat->St B.D
 |0=>d b
 |f+1=>c b (e.take (f+1))
def QR(q:Nat):Nat->Option Nat
 |0=>c4 0
 |1=>c4 q
 |_=>d4
theorem Ku{q i r:Nat}(a:QR q i=c4 r):(i=0/\r=0)\/(i=1/\r=q):=by
 match i,a with
 |0,a=>injection a with a;exact .inl ⟨rfl,a.symm⟩
 |1,a=>injection a with a;exact .inr ⟨rfl,a.symm⟩
theorem Y5(J:cU P B){g:Gh}{n:World}{N G k a v q:Nat}{j:List (B.D a)}{m:List (Ob B.D)}(h0:nth m 0=c4 ⟨N,1,.box k [.fl q v]⟩)(F:nth m q=c4 ⟨G,v,.rows a j⟩)(V:q≠0)(u:bF g (av B m) n):
 ∃t,bF t (av B [⟨1,1,.box k [.fl 1 1]⟩,⟨1,1,.rows a j⟩]) n/\Bml.GStep 1 g (av B m) n t (av B [⟨1,1,.box k [.fl 1 1]⟩,⟨1,1,.rows a j⟩]) n:=by
 have w:(av B m)[0]? =c4 (⟨k,1,[.agg [.fl q v]],1⟩:aO):=df h0;have eq:(av B m)[q]? =c4 (⟨a,B.sz a,j.map (B.ty a).enc,v⟩:aO):=df F;refine⟨dj g (QR q) (λ_=>False),bF.re u (λ_ e=>e.elim) (λi X r e E=>?_) (λi r e=>?_) (λi y c=>?_),GStep.re λi R I h=>?_⟩
 ·rcases Ku e with⟨o,b⟩ |⟨o,b⟩ <;> rcases Ku E with⟨T,O⟩ |⟨T,O⟩ <;> omega
 ·show i<2
  rcases Ku e with⟨o,b⟩ |⟨o,b⟩ <;> omega
 ·match i,c with
  |0,c=>
   have c:c4 (⟨k,1,[.agg [.fl 1 1]],1⟩:aO)=c4 y:=c;injection c with c
   subst c;refine⟨Nat.one_pos,λi C d=>?_,(λe=>by cases e),λr f=>?_⟩
   ·match i,d with
    |0,d=>injection d with d;subst d;rfl
   ·have f:c4 0=c4 r:=f;injection f with f
    subst f;refine⟨⟨k,1,[.agg [.fl q v]],1⟩,w,rfl,rfl,rfl,λi x s l=>?_⟩
    obtain⟨C,d,L⟩:=gw l
    match i,d with
    |0,d=>
     injection d with d
     subst d
     match x,L with
     |0,_=>
      injection l with l
      subst l;refine⟨.fl q v,rfl,λA p=>?_⟩
      cases p with
      |aW e=>cases e
      |fl _ _ R _ h U Q S=>
       rw[eq] at h;injection h with h
       subst h;refine .fl 1 1 ⟨a,B.sz a,j.map (B.ty a).enc,1⟩ A rfl (Nat.le_refl _) Q λ_=>?_
       have:=S rfl;unfold SL at this⊢;exact this
  |1,c=>
   have c:c4 (⟨a,B.sz a,j.map (B.ty a).enc,1⟩:aO)=c4 y:=c;injection c with c
   subst c;have D:=u.obj q ⟨a,B.sz a,j.map (B.ty a).enc,v⟩ eq;refine⟨D.pos,D.width,(λe=>by cases e),λr f=>?_⟩
   have f:c4 q=c4 r:=f;injection f with f
   subst f;refine⟨⟨a,B.sz a,j.map (B.ty a).enc,v⟩,eq,rfl,rfl,rfl,λi x s l=>⟨s,l,λA p=>?_⟩⟩
   have K:cE 0 s:=nR (λC d=>by
    obtain⟨z,_,rfl⟩:=f2.1 d;exact J.lt a z) l
   exact .aW ((p.dH K).mono (λ_ M=>.inl M) λ_ _=>rfl)
 ·match i,I with
  |0,_=>
   rw[w] at h;injection h with h
   subst h;exact⟨⟨k,1,[.agg [.fl 1 1]],1⟩,rfl,Nat.le_refl _,λ_=>⟨rfl,rfl,rfl⟩⟩
theorem pA{b:Nat}{fn:Func}{code:Code}(e:P.funcs[b]? =c4 fn)(d:fn.body=c4 code)(c:(fn.name== "runtime.NumGoroutine")=false)(args:Array Value)(a:World):(callFunc b args).run P a= .ok (.enter b args) a:=by
 simp only[callFunc,Sem.run_bind];have f:(program:Sem Program).run P a= .ok P a:=rfl;rw[f];simp only[eE,e];rw[c];simp[d]
theorem akH{a:List Value}{d t:Nat}(b:a.length<=d):(a.toArray++Array.replicate (d -a.toArray.size) undef).getD t undef=a.getD t undef:=by
 rw[d0,dk];rcases Nat.lt_or_ge t a.length with b |b
 ·simp[Array.getElem?_append,b]
 ·rw[List.getElem?_eq_none b];rw[Array.getElem?_append_right (by simpa using b)];rcases Nat.lt_or_ge (t -a.length) (d -a.length) with c |c
  ·simp[c]
  ·simp[c]
theorem Ot{g:Gh}{H:List (Ob B.D)}{c:En B.D}{b:World}{a:List Value}{nt:Nat}(e:bF g (av B H) b)(d:a.length<=nt)(f:∀t,VR g (av B H) b (pv B (lk c t)) (a.getD t undef)):
 Rel g nt (aU B c) (av B H) {tmps:=a.toArray++Array.replicate (nt -a.toArray.size) undef,defers:=[]} b:=by
 refine⟨e,rfl,?_,λt=>?_⟩
 ·simp;omega
 ·rw[ep];have:=akH (t:=t) d;rw[this];exact f t
theorem O9(a7:P.follows .mixedOrders=true)(Q:cU P B){L:Lp}{c:aq B}{fn:Func}{aj ag:Code}{cp bZ bK:Nat}{J M:List Oper}{n t gf by_:Nat}{ba bS:TypeId}{aN bD:String}{aQ b5:Array Edge}{xs:bi B.D c.par.bX->List (B.D n)}{V:B.D n->St B.D}{af:B.D n->List (B.D n)->St B.D}{R0:B.D n->List (B.D n)->List (Ob B.D)}{R1:B.D n->List (B.D n)->List (Ob B.D)}{q0 v0 s0 s0' q1 v1 s1 s1':Nat}
 (a1:P.funcs[c.cO]? =c4 fn) (o:fn.body=c4 (.seq aj (.seq (.seq ag (.block 0 (.rangeFunc (.tmp 6) #[7] (.region cp J.toArray false) (.block 1 (.region bZ M.toArray false)))))
  (.seq (.region bK [⟨c4 12,.load t (.tmp 2),ba,aN,aQ,d4⟩,⟨c4 4,.assign (.tmp 12),bS,bD,b5,d4⟩].toArray false) .ret))))
 (bh:(fn.name== "runtime.NumGoroutine")=false) (cc:fn.results=#[.tmp 4]) (cE:c.na=2) (aS:ea 13 fn.ntmps=true) (bH:c.low=0) (bf:dP P t=c4 false) (b9:1<=by_)
 (bY:gB fn.ntmps aj=true) (co:gB fn.ntmps ag=true) (bt:∀u,u∈J->fL fn.ntmps u.dst=true) (bE:∀u,u∈J->∀c,u.op≠ .defer c) (bn:∀u,u∈M->fL fn.ntmps u.dst=true) (ct:∀u,u∈M->∀c,u.op≠ .defer c)
 (bP:∀x,cz B c.par x=⟨[(0,.bg),(1,.fn gf [] [.vp [.row n (xs x)] 0])],[]⟩)
 (cd:∀x,∃aF,exec L B P [] 0 [] aj 1 (λC l=>bif d9 C 0 then c4 l else d4) ⟨[(0,.bg),(1,.fn gf [] [.vp [.row n (xs x)] 0])],[]⟩=c4 ⟨aF,[⟨1,1,.box t [.bg]⟩]⟩/\
  ∃ah,exec L B P [] 0 [] ag 1 (λC l=>bif d9 C 0 then c4 l else d4) ⟨aF,[⟨1,1,.box t [.bg]⟩]⟩=c4 ⟨ah,[⟨1,1,.box t [.bg]⟩]⟩/\lk ah 6= .fn gf [] [.vp [.row n (xs x)] 0]/\lk ah 2= .ptr 0 1 0 0)
 (bx:∀args w,(callFunc gf args).run P w= .ok (.enter gf args) w)
 (cm:∀aC (aG:Nat->Prop) (w:World) (pv:Value) (h:List (B.D n)),2<=aC->h.length<=140737488355328->VI aG w (.dw [.vs (B.sz n) (h.map (B.ty n).enc)] 0) pv->∃I:List Value,I.length=h.length/\(∀(i:Nat) (e:B.D n) (v:Value),h[i]? =c4 e->I[i]? =c4 v->VI aG w ((B.ty n).enc e) v)/\
  vy aC P gf #[pv] I (λW=>∀b,aG b->W.heap[b]? =w.heap[b]?))
 (b7:∀e:B.D n,ops B P [] [2] J (λ_ l=>c4 l) 0 J [] ⟨[(7,B.tv n e),(2,.ptr 0 1 0 0)],[⟨1,1,.box t [.bg]⟩]⟩=c4 (V e))
 (ca:∀(e:B.D n) (h:List (B.D n)),ops B P [] [2] J (λ_ l=>c4 l) 0 J [] ⟨[(7,B.tv n e),(2,.ptr 0 1 0 0)],[⟨1,1,.box t [.fl 1 1]⟩,⟨1,1,.rows n h⟩]⟩=c4 (af e h))
 (aB:∀(e:B.D n),ops B P [] [2] M (λ_ l=>c4 l.H) 0 M [] (V e)=(bj by_ [] [e]).bind λG=>c4 (R0 e G))
 (bk:∀(e:B.D n) (h:List (B.D n)),ops B P [] [2] M (λ_ l=>c4 l.H) 0 M [] (af e h)=(bj by_ h [e]).bind λG=>c4 (R1 e G))
 (bM:∀e G,nth (R0 e G) 0=c4 ⟨s0,1,.box t [.fl q0 v0]⟩/\nth (R0 e G) q0=c4 ⟨s0',v0,.rows n G⟩/\q0≠0)
 (bO:∀e G,nth (R1 e G) 0=c4 ⟨s1,1,.box t [.fl q1 v1]⟩/\nth (R1 e G) q1=c4 ⟨s1',v1,.rows n G⟩/\q1≠0)
 (ap:∀x r,c.F x=c4 r->(xs x).length*by_<=140737488355328/\(cz B c.az r)=⟨[(0,.fl 0 0)],[⟨0,0,.rows n (xs x)⟩]⟩/\take B 0 c.az ⟨[(0,.fl 1 1)],[⟨1,1,.box t [.fl 1 1]⟩,⟨1,1,.rows n (xs x)⟩]⟩ c4=c4 r/\(xs x=[]->take B 0 c.az ⟨[(0,.bg)],[⟨1,1,.box t [.bg]⟩]⟩ c4=c4 r)):Fits P B c:=by
 have aS:13<=fn.ntmps:=d5 aS;have bd:∀c,c∈([]:List (aq B))->Fits P B c:=λ_ s=>(dt s).elim
 refine⟨pA a1 o bh,λx r bw g w bW cD aR a3=>?_⟩
 obtain⟨aO,bm,bF,cn⟩:=ap x r bw;rw[bP] at aR a3⊢;rw[bH];obtain⟨aF,b4,ah,bN,b6,bQ⟩:=cd x;generalize cu:xs x=h at*;have bR:=Ot aR (by omega:bW.length<=fn.ntmps) a3;refine(callsIn_wide (n:=10)).1 (callsIn_of_wp_marks a1 o trivial ?_ rfl)
 refine wpIn_seq (wpIn_wide.2 (gO a7 Q bd aj 1 _ _ _ b4 bY (d8 _) g _ w bR _ λC ac bT N=>?_))
 cases C with
 |normal=>
  obtain⟨_,_,cb,⟨cG,_,aK,rfl,rfl⟩,cr,bL⟩:=N;injection aK with aK
  subst aK;refine wpIn_seq (wpIn_seq (wpIn_wide.2 (gO a7 Q bd ag 1 _ _ _ bN co (d8 _) cb ac bT cr _ λC y w2 N=>?_)))
  cases C with
  |normal=>
   obtain⟨_,_,g2,⟨cx,_,au,rfl,rfl⟩,O,bC⟩:=N;injection au with au
   subst au;have a4:=O.e.defers;have a6:=O.e.size;have ae:=O.e.at_ 6;rw[ep,b6] at ae;have be:∃pv,y.tmps.getD 6 undef= .func (.func gf) #[] #[pv]/\VI g2.F w2 (.dw [.vs (B.sz n) (h.map (B.ty n).enc)] 0) pv:=by
    generalize y.tmps.getD 6 undef=z at ae;have ae:VR g2 _ w2 (.fn gf [] [.dw [.vs (B.sz n) (h.map (B.ty n).enc)] 0]) z:=ae;cases ae with
    |aW s=>
     cases s with
     |fn _ _ _ ck vs A _ m aM=>
      obtain rfl:=d1 A.symm
      match vs,m with
      |[pv],_=>exact⟨pv,rfl,aM 0 _ pv rfl rfl⟩
    |fn _ _ _ ck vs A _ m aM=>
     obtain rfl:=d1 A.symm
     match vs,m with
     |[pv],_=>
      refine⟨pv,rfl,?_⟩
      have:=aM 0 _ pv rfl rfl;cases this with
      |aW s=>exact s
   obtain⟨ce,bs,bq⟩:=be;obtain⟨I,bz,cl,cs⟩:=cm 9 g2.F w2 ce h (by omega) (ev (Nat.le_mul_of_pos_right _ b9) aO) bq;have ax:=O.e.at_ 2;rw[ep,bQ] at ax;refine wpIn_block (Pq (n:=10) (xs:=I) (a:=y) (w:=w2) bs bx cs rfl
    (λk W=>∃g,jV 1 B g2 (av B [⟨1,1,.box t [.bg]⟩]) w2 W g (mO t n h k))
    (λk W s=> ?rd) (λk W r o' s R aH=> ?put) (λk W aJ s cw bU=> ?below) (λY=> ?start)
    (λk v ac W=>∃(e:B.D n) (l:St B.D) (g:Gh),h[k]? =c4 e/\l=LY V af h e k/\jV 1 B g2 (av B [⟨1,1,.box t [.bg]⟩]) w2 W g l.H/\fI g (av B l.H) W fn.ntmps (aU B l.E) ac)
    (λk x ac W r o' s R aH=> ?mput) (λci k v W ar aE D ad=> ?assign) (λci k v ac W aE D=> ?body) (λW D a0=> ?done))
   case rd=>
    obtain⟨g,s⟩:=s;exact s.st.jh
   case put=>
    obtain⟨g,s⟩:=s;exact⟨g,s.lF (.inr rfl) R rfl aH⟩
   case below=>
    obtain⟨g,s⟩:=s;exact⟨g,s.below bU⟩
   case start=>
    refine⟨g2,?_⟩
    have cy:((w2.alloc (.deferred (c4 []))).alloc (.loop Y)).heap.size=w2.heap.size+2:=by simp
    have az:∀b,b<w2.heap.size->((w2.alloc (.deferred (c4 []))).alloc (.loop Y)).heap[b]? =w2.heap[b]? :=λb o=>(e5 _ _ b (by simp;omega)).trans (e5 _ _ b o)
    obtain⟨s1,b1⟩:=GStep.lF (w':=(w2.alloc (.deferred (c4 []))).alloc (.loop Y)) (GStep.refl 1 g2 (av B [⟨1,1,.box t [.bg]⟩]) w2) O.m rfl rfl rfl (by omega) (λb o=>az b (O.m.fb b o)) (λr b cA o=>az b (O.m.qD o)) az;refine⟨b1,s1,by omega,λb o=>⟨λap=>?_,?_⟩⟩
    ·have:=O.m.fb b ap;omega
    ·rcases o with rfl |rfl
     ·exact⟨.deferred (c4 []),(e5 (w2.alloc (.deferred (c4 []))) _ w2.heap.size (by simp)).trans (dd w2 _),rfl⟩
     ·refine⟨.loop Y,?_,rfl⟩
      have:=dd (w2.alloc (.deferred (c4 []))) (.loop Y)
      rwa [World.size_alloc] at this
   case mput=>
    obtain⟨e,l,g,A,m,X,ay⟩:=s;have ai:=X.lF (o':=o') (.inr rfl) R rfl aH;refine⟨e,l,g,A,m,ai,ay.defers,ay.size,λq=>?_⟩
    have a2:=ay.at_ q;exact VR.uz (f:=λr v=>∃u,(av B l.H)[r]? =c4 u/\v<=u.aF) (λ_ o=>o) (λb o=>d3 (λC=>by subst C;exact(X.nF _ (.inr rfl)).1 o)) (λr v u _ R an=>⟨u,R,an,λC=>⟨C,rfl,rfl,rfl⟩⟩) a2 a2.wf
   case assign=>
    obtain⟨T,D⟩:=D;have F:k<h.length:=by
     have:=(dv.1 aE).1;omega
    obtain⟨e,S⟩:∃e,h[k]? =c4 e:=⟨_,c5 F⟩;have bp:=cl k _ v S aE;have cf:((#[7]:Array Nat).zip #[v]).foldl (λt (p,v)=>t.setIfInBounds p v) y.tmps=y.tmps.setIfInBounds 7 v:=by simp
    rw[cf];have b2:fI T (av B (mO t n h k)) W fn.ntmps (aU B [(7,B.tv n e),(2,.ptr 0 1 0 0)]) {tmps:=y.tmps.setIfInBounds 7 v,defers:=[]}:=by
     refine⟨rfl,by simp;exact a6,λq=>?_⟩
     rw[ep]
     by_cases bc:q=7
     ·subst bc;have ab:(lk [(7,B.tv n e),(2,.ptr 0 1 0 0)] 7:TV B.D)=B.tv n e:=rfl;have al:(y.tmps.setIfInBounds 7 v).getD 7 undef=v:=by
       rw[d0,d7 (by omega)]
       rfl
      rw[ab,al,Q.tv];exact .aW (bp.mono D.st.F D.st.jh)
     ·by_cases m:q=2
      ·subst m;have ab:(lk [(7,B.tv n e),(2,.ptr 0 1 0 0)] 2:TV B.D)= .ptr 0 1 0 0:=rfl;have al:(y.tmps.setIfInBounds 7 v).getD 2 undef=y.tmps.getD 2 undef:=by
        rw[d0,d0,Array.getElem?_setIfInBounds_ne (by omega)]
       rw[ab,al];exact ax.step D.st (.ptr 0 1 0 0 (by omega))
      ·have ab:(lk [(7,B.tv n e),(2,.ptr 0 1 0 0)] q:TV B.D)= .any:=by
        have bJ:d9 7 q=false:=by cases o:d9 7 q with |false=>rfl |true=>exact absurd (beq_eq o).symm bc
        have am:d9 2 q=false:=by cases o:d9 2 q with |false=>rfl |true=>exact absurd (beq_eq o).symm m
        simp only[lk,bJ,am,cond_false]
       rw[ab];exact .aW (.any _)
    have aA:ops B P [] [2] J (λ_ l=>c4 l) 0 J [] ⟨[(7,B.tv n e),(2,.ptr 0 1 0 0)],mO t n h k⟩=c4 (LY V af h e k):=by
     cases k with
     |zero=>exact b7 _
     |succ k=>exact ca _ _
    exact F5 Q (k:=c4) D b2 aA bt bE λb8 aT aJ a9 U A m X=>ad aT aJ A ⟨e,_,a9,S,(Option.some.inj U),m,X⟩
   case body=>
    obtain⟨e,l,T,S,U,bV,bA⟩:=D;have F:k<h.length:=(dv.1 S).1;have a8:h[k]=e:=by
     rw[c5 F] at S;injection S
    have aP:(k+1)*by_<=140737488355328:=ev (Nat.mul_le_mul_right _ F) aO;have aV:h.take k++[h[k]]=h.take (k+1):=(List.take_succ_eq_append_getElem F).symm;have aA:∃ak,ops B P [] [2] M (λ_ l=>c4 l.H) 0 M [] l=c4 ak/\∃aa aY v q,nth ak 0=c4 ⟨aa,1,.box t [.fl q v]⟩/\nth ak q=c4 ⟨aY,v,.rows n (h.take (k+1))⟩/\q≠0:=by
     cases k with
     |zero=>
      have aL:bj by_ [] [e]=c4 (h.take 1):=by
       unfold bj;rw[if_pos (by simpa using aP)];exact congrArg c4 (by rw[<-aV,a8];rfl)
      have A:=aB e;rw[aL, <-show l=V e from U] at A;have m:=bM e (h.take 1);exact⟨_,A,s0,s0',v0,q0,m.1,m.2.1,m.2.2⟩
     |succ k=>
      have aL:bj by_ (h.take (k+1)) [e]=c4 (h.take (k+1+1)):=by
       unfold bj;rw[if_pos (by rw[List.length_take,Nat.min_eq_left (by omega)];exact aP)];exact congrArg c4 (by rw[<-aV,a8])
      have A:=bk e (h.take (k+1));rw[aL, <-show l=af e (h.take (k+1)) from U] at A;have m:=bO e (h.take (k+1+1));exact⟨_,A,s1,s1',v1,q1,m.1,m.2.1,m.2.2⟩
    obtain⟨ak,bl,aa,aY,cB,q,aZ,aX,b3⟩:=aA;refine wpIn_block (F5 Q (k:=λl=>c4 l.H) bV bA bl bn ct λb8 aT aJ a9 U A m X=>?_)
    rw[<-Option.some.inj U] at aZ aX;obtain⟨aI,aw,aD⟩:=Y5 Q aZ aX b3 m.m;obtain⟨bX,cC⟩:=m.next (H':=mO t n h (k+1)) aw aD;exact⟨rfl,A,aI,bX⟩
   case done=>
    obtain⟨T,D⟩:=D;obtain⟨K,Z⟩:∃K:Act,K={y with defers:={target:=.collected w2.heap.size,args:=#[]}::y.defers}:=⟨_,rfl⟩;rw[<-Z];have cq:K.eval=y.eval:=by rw[Z];rfl
    have b0:∃cv aa,nth (mO t n h I.length) 0=c4 ⟨aa,1,.box t [cv]⟩/\take B 0 c.az ⟨[(0,cv)],mO t n h I.length⟩ c4=c4 r:=by
     rw[bz];cases bb:h.length with
     |zero=>exact⟨.bg,1,rfl,cn (d1 bb)⟩
     |succ aC=>
      simp only[mO];rw[<-bb,List.take_length];exact⟨.fl 1 1,1,rfl,bF⟩
    obtain⟨cv,aa,aB,bo⟩:=b0;have ch:Rel T fn.ntmps [(2,.ptr 0 1 0 0)] (av B (mO t n h I.length)) y W:=by
     refine⟨D.m,a4,a6,λq=>?_⟩
     by_cases m:q=2
     ·subst m;exact ax.step D.st (.ptr 0 1 0 0 (by omega))
     ·have am:d9 2 q=false:=by cases o:d9 2 q with |false=>rfl |true=>exact absurd (beq_eq o).symm m
      have:Bml.look [(2,PV.ptr 0 1 0 0)] q=PV.any:=by simp only[Bml.look,am,cond_false]
      rw[this];exact .aW (.any _)
    obtain⟨v,cj,a5⟩:=AT (P:=P) (d:=c4 12) (ty:=ba) (pos:=aN) (aft:=aQ) (gd:=d4) (t:=t) (x:=.tmp 2) (E:=[(2,.ptr 0 1 0 0)]) (H:=av B (mO t n h I.length)) (r:=0) (v:=1) (i:=0) (j:=0) (c:=pv B cv) rfl (df aB) rfl bf rfl T fn.ntmps y W ch;refine wpIn_seq (wpIn_region_lit (wpListIn_plain rfl λar ad=>⟨λf _=>trivial,?_⟩))
    rw[Oper.semAt_eq _ _ _ (λc s=>by cases s),cq,cj];refine ad _ _ (wpListIn_plain rfl λar ad=>⟨λf _=>trivial,?_⟩)
    rw[Oper.semAt_eq _ _ _ (λc s=>by cases s)];have br:(K.put (c4 12) v).eval (.tmp 12)=v:=by
     rw[Z];show((y.tmps.setIfInBounds 12 v).getD 12 undef)=v
     rw[d0,d7 (by omega)]
     rfl
    show ar ((K.put (c4 12) v).put (c4 4) ((K.put (c4 12) v).eval (.tmp 12))) W
    rw[br];refine ad _ _ (wpListIn_nil (wpIn_ret ?_))
    have bI:((K.put (c4 12) v).put (c4 4) v).defers=[{target:=.collected w2.heap.size,args:=#[]}]:=by
     rw[Z];show _::y.defers=_
     rw[a4]
    have cg:(((K.put (c4 12) v).put (c4 4) v).tmps).getD 4 undef=v:=by
     rw[Z];show((y.tmps.setIfInBounds 12 v).setIfInBounds 4 v).getD 4 undef=v
     rw[d0,d7 (by simp;omega)]
     rfl
    show LeavesInM _ _ _ _ _ _ ((K.put (c4 12) v).put (c4 4) v).defers .returning W
    rw[bI];refine⟨by simp,.inl ⟨_,_,rfl,run_takeDeferred a0,?_⟩⟩
    refine⟨v,by rw[results_tmp cc,cg],v,?_⟩
    have ai:=D.lF (o':=.deferred d4) (.inl rfl) a0 rfl rfl;have bB:VR T (av B (mO t n h I.length)) (W.putObj w2.heap.size (.deferred d4)) (pv B cv) v:=VR.uz (f:=λr v=>∃u,(av B (mO t n h I.length))[r]? =c4 u/\v<=u.aF) (λ_ o=>o) (λb o=>d3 (λC=>by subst C;exact(D.nF _ (.inl rfl)).1 o)) (λr v u _ R an=>⟨u,R,an,λC=>⟨C,rfl,rfl,rfl⟩⟩) a5 a5.wf;obtain⟨cF,ao,aI,aw,aD,bv⟩:=EK Q bo ai.m;injection ao with ao
    subst ao;refine⟨aI,rfl,aw,((bL.trans bC).trans (ai.st.less (d8 _))).trans aD,?_⟩
    have:=bv 0 v bB;rw[bm] at this⊢;exact this
  |_=>first |exact N.elim |(obtain⟨_,_,_,⟨_,_,F,_⟩,_⟩:=N;cases F) |(obtain⟨_,_,_,F,_⟩:=N;exact F.elim)
 |_=>first |exact N.elim |(obtain⟨_,_,_,⟨_,_,F,_⟩,_⟩:=N;cases F) |(obtain⟨_,_,_,F,_⟩:=N;exact F.elim)
end
end Go.X
namespace Go.X.T
open Go Go.Aml Go.Bml Go.X Go.RowKit Go.Proofs
attribute [local go_sem] Oper.semAt_some
theorem an0(m:Nat)(hm:2<=m)(l b off sb so cap N:Nat)(ad:Option Addr)(hN:N<=140737488355328)(val:Nat->Int)(J:Nat->World->Prop)
 (hr:∀k W,J k W->W.cell? ⟨b,off,d4⟩=c4 (.slice ad N cap)/\∀i:Nat,i<N->ad=c4 ⟨sb,so,d4⟩/\W.cell? ⟨sb,so+i,d4⟩=c4 (.int .i64 (val i)))
 (hy:∀k W,k<N->J k W->YieldAt c7 (m -1) c3 l #[.int .i64 (val k)] W λe W'=>e= .returned (.bool true)/\J (k+1) W') (W:World) (h0:J 0 W):
 CallsIn c7 m c3 269 #[.func (.yield l) #[] #[],.pointer (c4 ⟨b,off,d4⟩)] W λe W'=>(∃v,e= .returned v)/\J N W':=by
 have h269:c7.fn 269:=trivial;refine callsIn_of_wp Tryz.func269 rfl h269 ?_ rfl
 have hc0:=(hr 0 W h0).1;simp only[Tryz.ntmps269,eH,e0,List.length_nil,Nat.reduceAdd,Nat.reduceSub,ee,ef,f1,eo,List.nil_append,List.cons_append]
 gi_wp2
 gi_loopw [7] (λvi (wr:World)=>∃k:Nat,vi= .int .i64 (k:Int)/\k<=N/\J k wr) (λvi _=>match vi with | .int _ k=>N -k.toNat |_=>0)
 case atStart=>exact⟨0,rfl,d8 _,h0⟩
 case round=>
  obtain⟨k,rfl,hk,hJ⟩:=hrel;obtain⟨hc,he⟩:=hr k _ hJ
  by_cases hlt:k<N
  ·obtain⟨rfl,hek⟩:=he k hlt;obtain⟨fn,tmps,assign,body,hyy,hR⟩:=hy k wr hlt hJ
   gi_wp2
   refine⟨λh=>by simp[c7] at h,hR.mono ?_⟩
   rintro e W3 ⟨rfl,hJ3⟩
   gi_wp2
   go_roundw
   case rel=>exact⟨k+1,congrArg (Value.int .i64) (by omega),by omega,hJ3⟩
   case measure=>
    show N - ((k:Int)+1).toNat<N - (k:Int).toNat
    omega
  ·have:k=N:=by omega
   subst this
   gi_wp2
   go_end0
   exact⟨⟨_,rfl⟩,hJ⟩
theorem akF(m:Nat)(hm:2<=m)(l b off sb so cap N:Nat)(ad:Option Addr)(hN:N<=140737488355328)(pa pb:Nat->Option Addr)(na ca nb cb:Nat->Nat)(J:Nat->World->Prop)
 (hr:∀k W,J k W->W.cell? ⟨b,off,d4⟩=c4 (.slice ad N cap)/\∀i:Nat,i<N->ad=c4 ⟨sb,so,d4⟩/\W.cell? ⟨sb,so+i*2,d4⟩=c4 (.slice (pa i) (na i) (ca i))/\W.cell? ⟨sb,so+i*2+1,d4⟩=c4 (.slice (pb i) (nb i) (cb i)))
 (hJb:∀k W W',J k W->Below W.heap.size W W'->J k W')
 (hy:∀k W,k<N->J k W->YieldAt c7 (m -1) c3 l #[.agg #[.slice (pa k) (na k) (ca k),.slice (pb k) (nb k) (cb k)]] W λe W'=>e= .returned (.bool true)/\J (k+1) W') (W:World) (h0:J 0 W):
 CallsIn c7 m c3 326 #[.func (.yield l) #[] #[],.pointer (c4 ⟨b,off,d4⟩)] W λe W'=>(∃v,e= .returned v)/\J N W':=by
 have h326:c7.fn 326:=trivial;refine callsIn_of_wp Tryz.func326 rfl h326 ?_ rfl
 have hc0:=(hr 0 W h0).1;simp only[Tryz.ntmps326,eH,e0,List.length_nil,Nat.reduceAdd,Nat.reduceSub,ee,ef,f1,eo,List.nil_append,List.cons_append]
 gi_wp2
 gi_loopw [7] (λvi (wr:World)=>∃k:Nat,vi= .int .i64 (k:Int)/\k<=N/\J k wr) (λvi _=>match vi with | .int _ k=>N -k.toNat |_=>0)
 case atStart=>exact⟨0,rfl,d8 _,h0⟩
 case round=>
  obtain⟨k,rfl,hk,hJ⟩:=hrel;obtain⟨hc,he⟩:=hr k _ hJ
  by_cases hlt:k<N
  ·obtain⟨rfl,hek,hek2⟩:=he k hlt;have hJ2:=hJb k wr (wr.alloc (.cells #[.slice (pa k) (na k) (ca k),.slice (pb k) (nb k) (cb k)] 140)) hJ ((Below.refl _ _).alloc (Nat.le_refl _) _);obtain⟨fn,tmps,assign,body,hyy,hR⟩:=hy k _ hlt hJ2
   gi_wp2
   refine⟨λh=>by simp[c7] at h,hR.mono ?_⟩
   rintro e W3 ⟨rfl,hJ3⟩
   gi_wp2
   go_roundw
   case rel=>exact⟨k+1,congrArg (Value.int .i64) (by omega),by omega,hJ3⟩
   case measure=>
    show N - ((k:Int)+1).toNat<N - (k:Int).toNat
    omega
  ·have:k=N:=by omega
   subst this
   gi_wp2
   go_end0
   exact⟨⟨_,rfl⟩,hJ⟩
theorem aoU(p:Nat)(l:Nat->Prop)(j:World)(pv:Value)(a:List Int)(L:2<=p)(O:a.length<=140737488355328)(J:VI l j (.dw [.vs 1 (a.map (PV.int .i64))] 0) pv):
 ∃n:List Value,n.length=a.length/\(∀(i:Nat) (o:Int) (v:Value),a[i]? =c4 o->n[i]? =c4 v->VI l j (.int .i64 o) v)/\vy p c3 269 #[pv] n (λd=>∀b,l b->d.heap[b]? =j.heap[b]?):=by
 cases J with
 |dw _ _ b T y H U aa e=>
  have E:=U 0 _ rfl;have q:=e 0 _ rfl;have R:∃h f k cap,y 0= .slice h a.length cap/\∀i:Nat,i<a.length->h=c4 ⟨f,k,d4⟩/\l f/\j.cell? ⟨f,k+i,d4⟩=c4 (.int .i64 (a.getD i 0)):=by
   generalize r:a.map (PV.int .i64)=I at q;generalize y 0=z at q;cases q with
   |eX _ M cap=>
    have:a=[]:=ej.1 r;subst this;exact⟨M,0,0,cap,rfl,λi c=>by simp at c⟩
   |vs _ _ D N cap u2 X C W S Y K=>
    refine⟨_,D,N,cap,by rw[<-r];simp,λi c=>⟨rfl,C,?_⟩⟩
    have u:cellOf I i 0=c4 (.int .i64 (a.getD i 0)):=by
     rw[<-r];unfold cellOf;rw[d2,c5 c,dk,c5 c]
     rfl
    have x:=S i 0 _ u;have t:=K i 0 _ u;rw[Nat.mul_one,Nat.add_zero] at x;rw[x];generalize u2 i 0=z at t⊢;cases t
    rfl
  obtain⟨h,f,k,cap,P,s⟩:=R;refine⟨a.map (Value.int .i64),by simp,λi o v F e=>?_,λG Q d w Z V h0=>?_⟩
  ·rw[d2,F] at e;injection e with e
   subst e;exact .int _ _
  ·refine(an0 p L G b T f k cap a.length h O (λi=>List.getD (α:=Int) a i 0) Q (λm d g=>⟨?_,λi c=>⟨(s i c).1,?_⟩⟩) (λm d A g=>?_) d h0).mono λac ab B=>⟨B.1,by rw[ei];exact B.2⟩
   ·rw[oW (w m d g) H, <-P];exact E
   ·rw[oW (w m d g) (s i c).2.1];exact(s i c).2.2
   ·refine V m _ d ?_ g
    rw[d2,c5 A,dk,c5 A]
    rfl
theorem anR(L:Nat)(y:Nat->Prop)(n:World)(pv:Value)(d:List ay)(aj:2<=L)(al:d.length<=140737488355328)(ah:VI y n (.dw [.vs 2 (d.map ay.enc)] 0) pv):
 ∃H:List Value,H.length=d.length/\(∀(i:Nat) (h:ay) (v:Value),d[i]? =c4 h->H[i]? =c4 v->VI y n (ay.enc h) v)/\vy L c3 326 #[pv] H (λf=>∀b,y b->f.heap[b]? =n.heap[b]?):=by
 cases ah with
 |dw _ _ b aq Y ag ar az k=>
  have ae:=ar 0 _ rfl;have Q:=k 0 _ rfl;have ap:∃E l x cap,∃(w o:Nat->Option Addr) (r s t C:Nat->Nat),Y 0= .slice E d.length cap/\∀i:Nat,i<d.length->(E=c4 ⟨l,x,d4⟩/\y l/\n.cell? ⟨l,x+i*2,d4⟩=c4 (.slice (w i) (r i) (s i))/\n.cell? ⟨l,x+i*2+1,d4⟩=c4 (.slice (o i) (t i) (C i)))/\
   ∀h,d[i]? =c4 h->VI y n (ay.enc h) (.agg #[.slice (w i) (r i) (s i),.slice (o i) (t i) (C i)]):=by
   generalize u:d.map ay.enc=K at Q;generalize Y 0=z at Q;cases Q with
   |eX _ ak cap=>
    have:d=[]:=ej.1 u;subst this;exact⟨ak,0,0,cap,λ_=>d4,λ_=>d4,λ_=>0,λ_=>0,λ_=>0,λ_=>0,rfl,λi a=>by simp at a⟩
   |vs _ _ S V cap u2 aw ad av aa ax M=>
    have sl:∀i c:Nat,i<d.length->c<2->∃p G A,u2 i c= .slice p G A:=λi c a e=>by
     have N:∃T Z,cellOf K i c=c4 (.vs T Z):=by
      rw[<-u];unfold cellOf;rw[d2,c5 a]
      match c,e with
      |0,_=>exact⟨_,_,rfl⟩
      |1,_=>exact⟨_,_,rfl⟩
     obtain⟨T,Z,N⟩:=N;have R:=M i c _ N;generalize u2 i c=z at R⊢;cases R with
     |eX=>exact⟨_,_,_,rfl⟩
     |vs=>exact⟨_,_,_,rfl⟩
    let J:Value->Option Addr:=λv=>match v with | .slice p _ _=>p |_=>d4
    let O:Value->Nat:=λv=>match v with | .slice _ G _=>G |_=>0
    let I:Value->Nat:=λv=>match v with | .slice _ _ A=>A |_=>0
    have X:∀i c:Nat,i<d.length->c<2->Value.slice (J (u2 i c)) (O (u2 i c)) (I (u2 i c))=u2 i c:=λi c a e=>by
     obtain⟨p,G,A,ab⟩:=sl i c a e;rw[ab]
    refine⟨c4 ⟨S,V,d4⟩,S,V,cap,λi=>J (u2 i 0),λi=>J (u2 i 1),λi=>O (u2 i 0),λi=>I (u2 i 0),λi=>O (u2 i 1),λi=>I (u2 i 1),by rw[<-u];simp,λi a=>?_⟩
    have W:cellOf K i 0=c4 (.vs 1 ((d[i]).aw.map (PV.int .i64))):=by
     rw[<-u];unfold cellOf;rw[d2,c5 a]
     rfl
    have F:∃q,cellOf K i 1=c4 q/\ay.enc d[i]= .agg [.vs 1 ((d[i]).aw.map (PV.int .i64)),q]:=by
     rw[<-u];unfold cellOf;rw[d2,c5 a];exact⟨_,rfl,rfl⟩
    obtain⟨q,F,ac⟩:=F;dsimp only;rw[X i 0 a (by omega),X i 1 a (by omega)];refine⟨⟨rfl,ad,aa i 0 _ W,aa i 1 _ F⟩,λh j=>?_⟩
    rw[c5 a] at j;injection j with j
    subst j;rw[ac];refine .agg _ [u2 i 0,u2 i 1] rfl λc A aA e g=>?_
    match c,e,g with
    |0,e,g=>
     injection e with e
     injection g with g
     subst e;subst g;exact M i 0 _ W
    |1,e,g=>
     injection e with e
     injection g with g
     subst e;subst g;exact M i 1 _ F
  obtain⟨E,l,x,cap,w,o,r,s,t,C,am,m⟩:=ap
  let val:Nat->Value:=λi=>.agg #[.slice (w i) (r i) (s i),.slice (o i) (t i) (C i)]
  refine⟨(List.range d.length).map val,by simp,λi h v j k=>?_,λaf an f P ai au h0=>?_⟩
  ·have a:=(dv.1 j).1;rw[d2,List.getElem?_range a] at k;injection k with k
   subst k;exact(m i a).2 h j
  ·refine(akF L aj af b aq l x cap d.length E al w o r s t C an (λD f B=>⟨?_,λi a=>⟨(m i a).1.1,?_,?_⟩⟩) ai (λD f ao B=>?_) f h0).mono λab aB U=>⟨U.1,by rw[ei,List.length_range];exact U.2⟩
   ·rw[oW (P D f B) ag, <-am];exact ae
   ·rw[oW (P D f B) (m i a).1.2.1];exact(m i a).1.2.2.1
   ·rw[oW (P D f B) (m i a).1.2.1];exact(m i a).1.2.2.2
   ·refine au D _ f ?_ B
    rw[d2,List.getElem?_range ao]
    rfl
theorem SQ{d:Type}{by_:Nat}{a r:List d}(b:bj by_ [] a=c4 r):a.length*by_<=140737488355328/\r=a:=by
 obtain⟨e,c⟩:=AN b;exact⟨by simpa using e,by simpa using c.symm⟩
theorem u6:∀b:List Oper,(b.all λa=>match a.op with | .defer _=>false |_=>true)=true->∀a,a∈b->∀c,a.op≠ .defer c:=λb d a e c f=>by
 have:=e4.1 d a e;rw[f] at this;cases this
theorem mL{c:Nat}:∀b:List Oper,(b.all λa=>fL c a.dst)=true->∀a,a∈b->fL c a.dst=true:=λb d a e=>e4.1 d a e
theorem K15(L:Lp):FT (C15 L):=O9 (L:=L) (n:=3) (t:=22) (by_:=8) (gf:=269) (xs:=λc=>c) (q0:=1) (v0:=1) (s0:=2) (s0':=1) (q1:=1) (v1:=2) (s1:=2) (s1':=2)
 (R0:=λ_ b=>[⟨2,1,.box 22 [.fl 1 1]⟩,⟨1,1,.rows 3 b⟩]) (R1:=λ_ b=>[⟨2,1,.box 22 [.fl 1 2]⟩,⟨2,2,.rows 3 b⟩])
 mixed dM Tryz.func308 rfl rfl rfl rfl rfl rfl (by kernel_rfl) (by omega) rfl rfl (mL _ rfl) (u6 _ rfl) (mL _ rfl) (u6 _ rfl) (λ_=>rfl) (λc=>⟨_,rfl,_,rfl,rfl,rfl⟩) (pA Tryz.func269 rfl rfl) aoU
 (λa=>rfl) (λa e=>rfl) (λa=>by kernel_rfl) (λa e=>by kernel_rfl) (λa b=>⟨rfl,rfl,by omega⟩) (λa b=>⟨rfl,rfl,by omega⟩)
 (λc r d=>by
  obtain⟨f,rfl⟩:=SQ (by_:=8) d;exact⟨f,rfl,rfl,λh0=>by cases h0;rfl⟩)
theorem U9(L:Lp):FT (U0 L):=O9 (L:=L) (n:=140) (t:=44) (by_:=48) (gf:=326) (xs:=λc=>c) (q0:=2) (v0:=1) (s0:=2) (s0':=1) (q1:=1) (v1:=2) (s1:=2) (s1':=2)
 (R0:=λ(a:ay) b=>[⟨2,1,.box 44 [.fl 2 1]⟩,⟨2,1,.box 140 [.row 3 a.aw,.row 142 a.aH]⟩,⟨1,1,.rows 140 b⟩]) (R1:=λ(a:ay) b=>[⟨2,1,.box 44 [.fl 1 2]⟩,⟨2,2,.rows 140 b⟩,⟨2,1,.box 140 [.row 3 a.aw,.row 142 a.aH]⟩])
 mixed dM Tryz.func337 rfl rfl rfl rfl rfl rfl (by kernel_rfl) (by omega) rfl rfl (mL _ rfl) (u6 _ rfl) (mL _ rfl) (u6 _ rfl) (λ_=>rfl) (λc=>⟨_,rfl,_,rfl,rfl,rfl⟩) (pA Tryz.func326 rfl rfl) anR
 (λa=>rfl) (λa e=>rfl) (λa=>by kernel_rfl) (λa e=>by kernel_rfl) (λa b=>⟨rfl,rfl,by omega⟩) (λa b=>⟨rfl,rfl,by omega⟩)
 (λc r d=>by
  obtain⟨f,rfl⟩:=SQ (by_:=48) d;exact⟨f,rfl,rfl,λh0=>by cases h0;rfl⟩)
end Go.X.T
namespace Go.X
open Go Go.Aml Go.Bml Go.RowKit
def IX:List (Code×List (Nat×Hn))->Code->Code
 |[],a=>a
 |c::b,a=>.seq c.1 (IX b a)
section
variable {P : Program} {B : Tb} {R : Type} {r : R}
def AS(f:Lp)(B:Tb)(P:Program)(d:List (aq B))(g:Nat){R:Type}:List (Code×List (Nat×Hn))->(Nat->St B.D->Option R)->St B.D->Option R
 |[],b,a=>b 0 a
 |e::h,b,a=>exec f B P d g e.2 e.1 1 (λc a=>bif d9 c 0 then AS f B P d g h b a else b c a) a
def RB(a:Nat):List (Code×List (Nat×Hn))->Bool
 |[]=>true
 |c::b=>bif gB a c.1 then RB a b else false
theorem Ck{l n:Nat}{o:Region.Mode}{f:Array Oper}{j:Exit->Act->World->Prop}(h:∀c b,¬j .outgrown c b)(e:∀(i:Nat) (g:Oper),f[i]? =c4 g->∀t,g.op≠ .defer t):∀(d:Nat) (bN:Array Bool) (c:Act) (b:World),wpAny P o f j d bN c b->wpAnyIn (c7.inRound l) n P o f j d bN c b
 |0,_,_,_,a=>a
 |d+1,bN,c,b,⟨h0,u⟩=>by
  refine⟨h0,λi s=>?_⟩
  have a:=u i s;unfold wpOp at a;unfold wpOpIn;cases m:f[i]? with
  |none=>
   rw[m] at a;exact Ck h e d _ c b a
  |some g=>
   rw[m] at a;simp only at a⊢
   split at a
   ·rename_i k;rw[if_pos k];rcases a with a |⟨_,q,p,a⟩
    ·exact PP (e i g m) (λc b a=>Ck h e d _ c b a) a
    ·exact(h q p a).elim
   ·rename_i k;rw[if_neg k];exact⟨λ_ _=>trivial,Ck h e d _ _ _ a⟩
theorem EB(h:P.follows .mixedOrders=true)(d:cU P B){t:Lp}{e:List (aq B)}(l:∀a,a∈e->Fits P B a){a:aq B}{fn:Func}{code:Code}{rs:List ResultVar}{hs:List (Nat×Hn)}(s:P.funcs[a.cO]? =c4 fn)(n:fn.body=c4 code)(g:(fn.name== "runtime.NumGoroutine")=false)
 (q:fn.results=rs.toArray) (i:ea a.na fn.ntmps=true) (p:gB fn.ntmps code=true) (f:ea a.low (len a.par.dF)=true) (o:lY 0 rs.length a.az.dE=true) (m:∀b c,a.F b=c4 c->gl t B P e a rs code hs b=c4 c):Fits P B a:=by
 refine ti d s n g q i o λb c k=>?_
 have j:a.low<=(cz B a.par b).H.length:=by
  rw[A7, <-eu];exact d5 f
 exact(gO h d l code 1 _ _ _ (m b c k) p j).mono nP
theorem aed(h:P.follows .mixedOrders=true)(e:cU P B){u:Lp}{a:aq B}{fn:Func}{code:Code}{rs:List ResultVar}{hs:List (Nat×Hn)}(t:P.funcs[a.cO]? =c4 fn)(n:fn.body=c4 code)(g:(fn.name== "runtime.NumGoroutine")=false)
 (s:fn.results=rs.toArray) (i:ea a.na fn.ntmps=true) (p:gB fn.ntmps code=true) (f:ea a.low (len a.par.dF)=true) (o:lY 0 rs.length a.az.dE=true) (m:∀b c,a.F b=c4 c->∃d:List (aq B),(∀a,a∈d->Fits P B a)/\gl u B P d a rs code hs b=c4 c):Fits P B a:=by
 refine ti e t n g s i o λb c k=>?_
 have j:a.low<=(cz B a.par b).H.length:=by
  rw[A7, <-eu];exact d5 f
 obtain⟨d,l,q⟩:=m b c k;exact(gO h e l code 1 _ _ _ q p j).mono nP
theorem afO(i:P.follows .mixedOrders=true)(e:cU P B){v:Lp}{a:aq B}{fn:Func}{code:Code}{rs:List ResultVar}(u:P.funcs[a.cO]? =c4 fn)(o:fn.body=c4 code)(h:(fn.name== "runtime.NumGoroutine")=false)
 (t:fn.results=rs.toArray) (j:ea a.na fn.ntmps=true) (q:gB fn.ntmps code=true) (g:ea a.low (len a.par.dF)=true) (p:lY 0 rs.length a.az.dE=true) (n:∀b c,a.F b=c4 c->∃(d:List (aq B)) (f:List (Nat×Hn)),(∀a,a∈d->Fits P B a)/\gl v B P d a rs code f b=c4 c):Fits P B a:=by
 refine ti e u o h t j p λb c l=>?_
 have k:a.low<=(cz B a.par b).H.length:=by
  rw[A7, <-eu];exact d5 g
 obtain⟨d,f,m,s⟩:=n b c l;exact(gO i e m code 1 _ _ _ s q k).mono nP
end
def ji(a:List Deferred)(b:Act):Act:={b with defers:=a}
theorem xM{b:List Deferred}{c:Act}{a:Option Tmp}{v:Value}:(ji b c).put a v=ji b (c.put a v):=by
 cases a <;> rfl
theorem amK{b:List Deferred}{a:Act}:(ji b a).eval=a.eval:=rfl
section
variable {P : Program} {B : Tb}
def pK(P:Program)(d:Oper):Prop:=∀(c:Act) (b:World) (e:Deferred) (a:World),(execOp c.eval d).run P b≠ .ok (.defer e) a
theorem aeJ{e:List Deferred}{d:Oper}{a:Act}{b:World}{p g:Act->World->Prop}{q o:Exit->Act->World->Prop}(y:pK P d)(n:∀k a b,q k a b->o k (ji e a) b)(j:∀a b,p a b->g (ji e a) b)(c:d.wp P a b p q):d.wp P (ji e a) b g o:=by
 unfold Oper.wp at c⊢;rw[amK];have s:=y a b;generalize (execOp a.eval d).run P b=r at c s⊢;cases r with
 |ok u h=>
  cases u with
  |value v=>
   show g ((ji e a).put d.dst v) h
   rw[xM];exact j _ _ c
  |skip=>
   show g ((ji e a).put d.dst undef) h
   rw[xM];exact j _ _ c
  |defer x=>exact absurd rfl (s x h)
  |enter f args=>
   refine Calls.mono (show Calls P f args h _ from c) ?_
   intro k l i;cases k with
   |returned v=>
    show g ((ji e a).put d.dst v) l
    rw[xM];exact j _ _ i
   |panicked m=>exact n _ _ _ i
   |outgrown=>obtain⟨A,C,w⟩:=i;exact⟨_,_,n _ _ _ w⟩
  |row row args=>
   intro m z;obtain⟨v,l,i,t⟩:=c m z;refine⟨v,l,?_,t⟩
   show g ((ji e a).put d.dst v) l
   rw[xM];exact j _ _ i
  |_=>exact c.elim
 |halt m h=>
  cases m with
  |panic v=>exact n _ _ _ c
  |_=>exact c.elim
theorem Lv{m:List Deferred}{all:Array Oper}{j l:Exit->Act->World->Prop}(f:∀i b c,j i b c->l i (ji m b) c):∀(e:List Oper) (b:Act) (c:World),(∀d,d∈e->pK P d)->wpList P all j e b c->wpList P all l e (ji m b) c
 |[],_,_,_,a=>f _ _ _ a
 |d::e,b,c,h,a=>by
  unfold wpList at a⊢;have k:=λb c=>Lv (all:=all) f e b c λd n=>h d (ec _ n)
  show if Region.wanted d (yielded all b.tmps) then _ else _
  split at a
  ·rename_i g;rw[if_pos g];rcases a with a |⟨o,q,p,a⟩
   ·exact .inl (aeJ (h d ez) f k a)
   ·exact .inr ⟨o,_,_,f _ _ _ a⟩
  ·rename_i g;rw[if_neg g,xM];exact k _ _ a
theorem Hv(z:cU P B){w:List (aq B)}(F:∀q,q∈w->Fits P B q){m nt x:Nat}{M:List Nat}{e:List Oper}{b:St B.D}{s:Type}{r:s}{y:St B.D->Option s}{g:Gh}{j:Act}{d:World}{v:List Deferred}{Q:Exit->Act->World->Prop}
 (I:Rel g nt (aU B b.E) (av B b.H) j d) (D:ops B P w M e (λ_ b=>y b) 0 e [] b=c4 r) (G:∀f,f∈e->fL nt f.dst=true) (O:∀f,f∈e->pK P f)
 (S:∀k u l t,y k=c4 r->Rel t nt (aU B k.E) (av B k.H) u l->Bml.GStep m g (av B b.H) d t (av B k.H) l->Q .normal (ji v u) l):(Code.region x e.toArray false).wp P Q (ji v j) d:=by
 obtain⟨U,i,E,K⟩:=qg z F D;have A:=yW (nt:=nt) (n:=m) (Q:=λh p o=>h= .normal/\p=aU B i.E/\o=av B i.H) E G ⟨rfl,rfl,rfl⟩;have H:=A g j d I (eI nt m g (av B b.H) d λh p o=>h= .normal/\p=aU B i.E/\o=av B i.H) (λ_ _ _ a=>a);refine wp_region_lit (Lv ?_ e j d O H)
 intro h R J c;cases h with
 |normal=>
  obtain⟨V,H3,N,⟨_,rfl,rfl⟩,C,L⟩:=c;exact S i R J N K C L
 |exit x=>obtain⟨_,_,_,⟨a,_⟩,_⟩:=c;cases a
 |ret=>obtain⟨_,_,_,⟨a,_⟩,_⟩:=c;cases a
 |goto T=>obtain⟨_,_,_,⟨a,_⟩,_⟩:=c;cases a
 |panic q=>exact c.elim
 |outgrown=>exact c.elim
theorem Xn(y:cU P B){c:aq B}{fn:Func}{rs:List ResultVar}{z:Nat}(U:fn.results=rs.toArray)(Q:lY 0 rs.length c.az.dE=true){k:St B.D}{h:bi B.D c.az.bX}(R:(nh B P k 0 rs [] λV=>take B c.low c.az ⟨V,k.H⟩ c4)=c4 h){w:Gh}{j:Act}{a:World}(D:Rel w z (aU B k.E) (av B k.H) j a):
 ∃v f,(results fn j.tmps).run P a= .ok v a/\bF f (av B (cz B c.az h).H) a/\Bml.GStep c.low w (av B k.H) a f (av B (cz B c.az h).H) a/\VR f (av B (cz B c.az h).H) a (pv B (kR (cz B c.az h).E)) v:=by
 obtain⟨vs,Y,S,G⟩:=H4 y R;obtain⟨g,L,X,W⟩:=G w z j a D;obtain⟨n,r,f,I,F,M⟩:=EK y S D.m;injection r with r
 subst r;have o:∃d:List (TV B.D),d.length=rs.length/\(cz B c.az n).E=fi 0 d:=by
  unfold cz nI;exact GW Q
 obtain⟨d,q,o⟩:=o;have C:∀(i:Nat) (m:TV B.D) (v:Value),d[i]? =c4 m->g[i]? =c4 v->VR f (av B (cz B c.az n).H) a (pv B m) v:=λi m v e u=>by
  have x:i<vs.length:=by have:=c9 e;omega
  have l:=W i _ v (c5 x) u;have t:=M i v (by
   rw[Jz,if_pos (d8 _),Nat.sub_zero,c5 x];exact l)
  rw[o] at t;have E:=Dz d 0 i;rw[Nat.zero_add] at E;rw[E,e] at t;exact t
 have H:∃v,(results fn j.tmps).run P a= .ok v a/\VR f (av B (cz B c.az n).H) a (pv B (kR (cz B c.az n).E)) v:=by
  have N:(fn.results.mapM (yR j.tmps)).run P a= .ok g.toArray a:=by
   rw[U,Array.mapM_eq_mapM_toList];simp only[Sem.run_map,L,eE]
  rw[ND,Sem.run_bind,N,eE,o]
  by_cases l:g.length=1
  ·obtain⟨A,rfl⟩:=List.length_eq_one_iff.1 l;obtain⟨p,rfl⟩:=List.length_eq_one_iff.1 (show d.length=1 by omega);exact⟨A,rfl,C 0 p A rfl rfl⟩
  ·refine⟨.tuple g.toArray,?_,?_⟩
   ·rw[Sem.run_pure]
    congr 1
    exact dif_neg (by simpa using l)
   ·have:kR (fi 0 d)= .bu d:=by
     match d,q with
     |[],_=>rfl
     |[p],q=>simp at q;omega
     |O::b::J,_=>exact congrArg TV.bu (GN (O::b::J) 0)
    rw[this];refine .bu _ g (by rw[db,ei];omega) λi m v e u=>?_
    rw[db,d2] at e;cases s:d[i]? with
    |none=>rw[s] at e;cases e
    |some p=>
     rw[s] at e;injection e with e
     subst e;exact C i p v s u
 obtain⟨v,K,T⟩:=H;exact⟨v,f,K,I,F,T⟩
end
end Go.X
namespace Go.X.T
open Go Go.Aml Go.Bml Go.X Go.RowKit Go.Proofs
attribute [local go_sem] Oper.semAt_some
theorem ai5(m:Nat)(hm:2<=m)(l b off b2 off2 sb so cap N:Nat)(ad:Option Addr)(hN:N*2<=140737488355328)(J:Nat->World->Prop)
 (hr:∀k W,J k W->W.cell? ⟨b,off,d4⟩=c4 (.slice ad (N*2) cap)/\W.cell? ⟨b2,off2,d4⟩=c4 (.int .i64 2)/\N*2<=cap/\(0<N->ad=c4 ⟨sb,so,d4⟩))
 (hJb:∀k W W',J k W->Below W.heap.size W W'->J k W')
 (hy:∀k W,k<N->J k W->YieldAt c7 (m -1) c3 l #[.slice (c4 ⟨sb,so+k*2,d4⟩) 2 2] W λe W'=>e= .returned (.bool true)/\J (k+1) W') (W:World) (h0:J 0 W):
 CallsIn c7 m c3 139 #[.func (.yield l) #[] #[],.pointer (c4 ⟨b,off,d4⟩),.pointer (c4 ⟨b2,off2,d4⟩)] W λe W'=>(∃v,e= .returned v)/\J N W':=by
 have h139:c7.fn 139:=trivial;refine callsIn_of_wp Tryz.func139 rfl h139 ?_ rfl
 have hc0:=(hr 0 W h0).1;simp only[Tryz.ntmps139,eH,e0,List.length_nil,Nat.reduceAdd,Nat.reduceSub,ee,ef,f1,eo,List.nil_append,List.cons_append]
 gi_wp2
 gi_loopw [4] (λvi (wr:World)=>∃k:Nat,vi= .int .i64 ((k*2:Nat):Int)/\k<=N/\J k wr) (λvi _=>match vi with | .int _ k=>N*2 -k.toNat |_=>0)
 case atStart=>exact⟨0,rfl,d8 _,h0⟩
 case round=>
  obtain⟨k,rfl,hk,hJ⟩:=hrel;obtain⟨hc,hc2,hcap,had⟩:=hr k _ hJ
  by_cases hlt:k<N
  ·obtain rfl:=had (by omega);have hb0:(0:Int)<=(k:Int)*2:=by omega
   have hb1:(k:Int)*2+2<=(N:Int)*2:=by omega
   have hb2:(N:Int)*2<=(cap:Int):=by omega
   gi_wp2
   gi_region
   have hJ2:=hJb k wr wr.drew hJ (Below.refl _ _).drew;obtain⟨hcd,hcd2,_,_⟩:=hr k _ hJ2;obtain⟨fn,tmps,assign,body,hyy,hR⟩:=hy k _ hlt hJ2
   gi_wp2
   have e2:k*2+2 -k*2=2:=by omega
   simp only[e2];refine⟨λh=>by simp[c7] at h,hR.mono ?_⟩
   rintro e W3 ⟨rfl,hJ3⟩;obtain⟨_,hc3,_,_⟩:=hr (k+1) _ hJ3
   gi_wp2
   go_roundw
   case rel=>exact⟨k+1,congrArg (Value.int .i64) (by omega),by omega,hJ3⟩
   case measure=>
    show N*2 - ((k:Int)*2+2).toNat<N*2 - ((k:Int)*2).toNat
    omega
  ·have:k=N:=by omega
   subst this
   gi_wp2
   go_end0
   exact⟨⟨_,rfl⟩,hJ⟩
end Go.X.T
