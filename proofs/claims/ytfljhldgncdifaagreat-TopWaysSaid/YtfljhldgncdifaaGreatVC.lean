/- For TopWays, part 3. -/
import Derived.Test.YtfljhldgncdifaaGreatVB
import Derived.Test.YtfljhldgncdifaaGreatProg
import Derived.KernelRfl
set_option linter.defProp false
set_option linter.unusedVariables false
set_option linter.unusedSimpArgs false
set_option maxHeartbeats 0
set_option maxRecDepth 100000
open Go.IntKind renaming wrap → c3, i64 → c4, u64 → dv, u8 → ej
open Decidable renaming decide → c5
open Option renaming some → c6, none → e0
open Sum renaming inr → c7, inl → dd, elim → dt
open List renaming map → dk, eq_nil_of_length_eq_zero → e4, mem_singleton → e5, mem_cons → e6, all_cons → ec, getElem?_nil → ee, all_eq_true → ef, map_cons → ei
open Nat renaming beq → dT
open Bool renaming and_eq_true → ea
namespace Go.X.T
open Go Go.Aml Go.Bml Go.X
variable (L:Lp)
abbrev yc:Type:=List Int
def wi{b:Type}(c:List b)(p:b->Option Bool)(a:Int):Option (Int⊕(Int⊕Unit)):=bif c5 (a<(c.length:Int)) then(aj c a).bind λe=>(p e).bind λd=>bif d then c6 (c7 (dd a)) else c6 (dd (c3 c4 (a+1))) else c6 (c7 (c7 ()))
structure bP where
 eU:Int
 wj:Bool
 deriving DecidableEq,Inhabited
def bP.enc(x:bP):PV:=.agg [.int .i64 x.eU,.bool x.wj]
structure bI where
 eF:Int
 fk:Int
 deriving DecidableEq,Inhabited
def bI.enc(x:bI):PV:=.agg [.int .i64 x.eF,.int .i64 x.fk]
structure aZ where
 an:Int
 To:Int
 aj3:Int
 bT:Int
 jy:Bool
 eN:Bool
 anC:bI
 eI:bI
 deriving DecidableEq,Inhabited
def aZ.enc(x:aZ):PV:=.agg [.int .i64 x.an,.int .i64 x.To,.int .i64 x.aj3,.int .i64 x.bT,.bool x.jy,.bool x.eN,.int .i64 x.anC.eF,.int .i64 x.anC.fk,.int .i64 x.eI.eF,.int .i64 x.eI.fk]
structure aS where
 ai:yc
 dX:Int
 dY:Int
 cR:Int
 deriving DecidableEq,Inhabited
def aS.enc(x:aS):PV:=.agg [.vs 1 (dk (PV.int .i64) x.ai),.int .i64 x.dX,.int .i64 x.dY,.int .i64 x.cR]
structure ak where
 ai:List bP
 af:List aZ
 deriving DecidableEq,Inhabited
def ak.enc(x:ak):PV:=.agg [.vs 2 (dk bP.enc x.ai),.vs 10 (dk aZ.enc x.af)]
structure bE where
 akL:yc
 dg:yc
 dG:yc
 er:Int
 deriving DecidableEq,Inhabited
def bE.enc(x:bE):PV:=.agg [.vs 1 (dk (PV.int .i64) x.akL),.vs 1 (dk (PV.int .i64) x.dg),.vs 1 (dk (PV.int .i64) x.dG),.int .i64 x.er]
structure cd where
 bT:yc
 dZ:Int
 ed:Int
 deriving DecidableEq,Inhabited
def cd.enc(x:cd):PV:=.agg [.vs 1 (dk (PV.int .i64) x.bT),.int .i64 x.dZ,.int .i64 x.ed]
structure bC where
 abG:Int
 akw:Int
 ami:Int
 deriving DecidableEq,Inhabited
def bC.enc(x:bC):PV:=.agg [.int .i64 x.abG,.int .i64 x.akw,.int .i64 x.ami]
structure aB where
 ao:ak
 aa0:Int
 aN:List bC
 aw:yc
 aQ:List aS
 cn:yc
 cf:yc
 bp:List (yc)
 deriving DecidableEq,Inhabited
def aB.enc(x:aB):PV:=.agg [.vs 2 (dk bP.enc x.ao.ai),.vs 10 (dk aZ.enc x.ao.af),.int .i64 x.aa0,.vs 3 (dk bC.enc x.aN),.vs 1 (dk (PV.int .i64) x.aw),.vs 4 (dk aS.enc x.aQ),.vs 1 (dk (PV.int .i64) x.cn),.vs 1 (dk (PV.int .i64) x.cf),.vs 1 (dk (λa=>PV.vs 1 (dk (PV.int .i64) a)) x.bp)]
structure pL where
 m:ak
 KE:List bI
 from_:yc
 deriving DecidableEq,Inhabited
def pL.enc(x:pL):PV:=.agg [.vs 2 (dk bP.enc x.m.ai),.vs 10 (dk aZ.enc x.m.af),.vs 2 (dk bI.enc x.KE),.vs 1 (dk (PV.int .i64) x.from_)]
structure bQ where
 aa0:Int
 an:yc
 deriving DecidableEq,Inhabited
def bQ.enc(x:bQ):PV:=.agg [.int .i64 x.aa0,.vs 1 (dk (PV.int .i64) x.an)]
structure b7 where
 State:Int
 dD:Int
 akU:Int
 aa0:Int
 deriving DecidableEq,Inhabited
def b7.enc(x:b7):PV:=.agg [.int .i64 x.State,.int .i64 x.dD,.int .i64 x.akU,.int .i64 x.aa0]
structure bA where
 af:yc
 aa2:yc
 Out:Bool
 deriving DecidableEq,Inhabited
def bA.enc(x:bA):PV:=.agg [.vs 1 (dk (PV.int .i64) x.af),.vs 1 (dk (PV.int .i64) x.aa2),.bool x.Out]
structure kD where
 up:Int
 down:Int
 level:Int
 deriving DecidableEq,Inhabited
def kD.enc(x:kD):PV:=.agg [.int .i64 x.up,.int .i64 x.down,.int .i64 x.level]
structure aM where
 aa0:Int
 an:yc
 deriving DecidableEq,Inhabited
def aM.enc(x:aM):PV:=.agg [.int .i64 x.aa0,.vs 1 (dk (PV.int .i64) x.an)]
structure ay where
 aw:yc
 aH:List aM
 deriving DecidableEq,Inhabited
def ay.enc(x:ay):PV:=.agg [.vs 1 (dk (PV.int .i64) x.aw),.vs 2 (dk aM.enc x.aH)]
structure aL where
 aA:List ay
 deriving DecidableEq,Inhabited
def aL.enc(x:aL):PV:=.agg [.vs 2 (dk ay.enc x.aA)]
structure aT where
 agX:Int
 aj6:Int
 aa0:Int
 aw:yc
 deriving DecidableEq,Inhabited
def aT.enc(x:aT):PV:=.agg [.int .i64 x.agX,.int .i64 x.aj6,.int .i64 x.aa0,.vs 1 (dk (PV.int .i64) x.aw)]
structure cZ where
 dl:yc
 dr:yc
 deriving DecidableEq,Inhabited
def cZ.enc(x:cZ):PV:=.agg [.vs 1 (dk (PV.int .i64) x.dl),.vs 1 (dk (PV.int .i64) x.dr)]
structure cy where
 abv:Int
 eB:Int
 anS:Int
 ku:Int
 l9:Int
 sd:Bool
 uV:Bool
 mZ:Int
 pB:Int
 deriving DecidableEq,Inhabited
def cy.enc(x:cy):PV:=.agg [.int .i64 x.abv,.int .i64 x.eB,.int .i64 x.anS,.int .i64 x.ku,.int .i64 x.l9,.bool x.sd,.bool x.uV,.int .i64 x.mZ,.int .i64 x.pB]
structure bH where
 abv:Int
 A:Int
 B:Int
 C:Int
 deriving DecidableEq,Inhabited
def bH.enc(x:bH):PV:=.agg [.int .i64 x.abv,.int .i64 x.A,.int .i64 x.B,.int .i64 x.C]
structure dK where
 Event:bH
 aa0:Int
 Code:Int
 ll:yc
 deriving DecidableEq,Inhabited
def dK.enc(x:dK):PV:=.agg [.int .i64 x.Event.abv,.int .i64 x.Event.A,.int .i64 x.Event.B,.int .i64 x.Event.C,.int .i64 x.aa0,.int .i64 x.Code,.vs 1 (dk (PV.int .i64) x.ll)]
structure aE where
 au:aB
 ao:ak
 cI:List bI
 bR:bE
 bM:cd
 cq:List aT
 bZ:List aT
 cW:cZ
 bw:aL
 bz:bQ
 aa2:bA
 cL:b7
 bq:aL
 bS:List cy
 bB:List dK
 deriving DecidableEq,Inhabited
def aE.enc(x:aE):PV:=.agg [.vs 2 (dk bP.enc x.au.ao.ai),.vs 10 (dk aZ.enc x.au.ao.af),.int .i64 x.au.aa0,.vs 3 (dk bC.enc x.au.aN),.vs 1 (dk (PV.int .i64) x.au.aw),.vs 4 (dk aS.enc x.au.aQ),.vs 1 (dk (PV.int .i64) x.au.cn),.vs 1 (dk (PV.int .i64) x.au.cf),.vs 1 (dk (λa=>PV.vs 1 (dk (PV.int .i64) a)) x.au.bp),.vs 2 (dk bP.enc x.ao.ai),.vs 10 (dk aZ.enc x.ao.af),.vs 2 (dk bI.enc x.cI),.vs 1 (dk (PV.int .i64) x.bR.akL),.vs 1 (dk (PV.int .i64) x.bR.dg),.vs 1 (dk (PV.int .i64) x.bR.dG),.int .i64 x.bR.er,.vs 1 (dk (PV.int .i64) x.bM.bT),.int .i64 x.bM.dZ,.int .i64 x.bM.ed,.vs 4 (dk aT.enc x.cq),.vs 4 (dk aT.enc x.bZ),.vs 1 (dk (PV.int .i64) x.cW.dl),.vs 1 (dk (PV.int .i64) x.cW.dr),.vs 2 (dk ay.enc x.bw.aA),.int .i64 x.bz.aa0,.vs 1 (dk (PV.int .i64) x.bz.an),.vs 1 (dk (PV.int .i64) x.aa2.af),.vs 1 (dk (PV.int .i64) x.aa2.aa2),.bool x.aa2.Out,.int .i64 x.cL.State,.int .i64 x.cL.dD,.int .i64 x.cL.akU,.int .i64 x.cL.aa0,.vs 2 (dk ay.enc x.bq.aA),.vs 9 (dk cy.enc x.bS),.vs 7 (dk dK.enc x.bB)]
structure aR where
 aI:aE
 named:yc
 deriving DecidableEq,Inhabited
structure fa where
 kO:Int
 abv:Int
 Data:yc
 deriving DecidableEq,Inhabited
def fa.enc(x:fa):PV:=.agg [.int .i64 x.kO,.int .i64 x.abv,.vs 1 (dk (PV.int .u8) x.Data)]
structure dS where
 agX:Int
 Tag:Int
 an:Int
 To:Int
 deriving DecidableEq,Inhabited
def dS.enc(x:dS):PV:=.agg [.int .i64 x.agX,.int .i64 x.Tag,.int .i64 x.an,.int .i64 x.To]
structure dC where
 agX:Int
 Tag:Int
 an:Int
 To:Int
 deriving DecidableEq,Inhabited
def dC.enc(x:dC):PV:=.agg [.int .i64 x.agX,.int .i64 x.Tag,.int .i64 x.an,.int .i64 x.To]
structure kC where
 kind:Int
 Dn:Int
 deriving DecidableEq,Inhabited
def kC.enc(x:kC):PV:=.agg [.int .i64 x.kind,.int .i64 x.Dn]
structure jf where
 x:cd
 s:b7
 k:bA
 b:aL
 t:Int
 from_:Int
 deriving DecidableEq,Inhabited
def jf.enc(x:jf):PV:=.agg [.vs 1 (dk (PV.int .i64) x.x.bT),.int .i64 x.x.dZ,.int .i64 x.x.ed,.int .i64 x.s.State,.int .i64 x.s.dD,.int .i64 x.s.akU,.int .i64 x.s.aa0,.vs 1 (dk (PV.int .i64) x.k.af),.vs 1 (dk (PV.int .i64) x.k.aa2),.bool x.k.Out,.vs 2 (dk ay.enc x.b.aA),.int .i64 x.t,.int .i64 x.from_]
structure cS where
 gX:Int
 from_:Int
 b9:Int
 time:Int
 deriving DecidableEq,Inhabited
def cS.enc(x:cS):PV:=.agg [.int .i64 x.gX,.int .i64 x.from_,.int .i64 x.b9,.int .i64 x.time]
structure cm where
 n:Int
 steps:List cS
 safe:List Bool
 bad:List Bool
 deriving DecidableEq,Inhabited
def cm.enc(x:cm):PV:=.agg [.int .i64 x.n,.vs 4 (dk cS.enc x.steps),.vs 1 (dk PV.bool x.safe),.vs 1 (dk PV.bool x.bad)]
structure da where
 time:Int
 roads:Int
 deriving DecidableEq,Inhabited
def da.enc(x:da):PV:=.agg [.int .i64 x.time,.int .i64 x.roads]
structure ju where
 a0:Int
 a1:Int
 deriving DecidableEq,Inhabited
def ju.enc(x:ju):PV:=.agg [.int .i64 x.a0,.int .i64 x.a1]
structure bD where
 L:yc
 At:Int
 deriving DecidableEq,Inhabited
structure gM where
 ao:ak
 aQ:List aS
 ai:yc
 aw:yc
 cI:List bI
 bR:bE
 bM:cd
 gZ:yc
 deriving DecidableEq,Inhabited
def gM.enc(x:gM):PV:=.agg [.vs 2 (dk bP.enc x.ao.ai),.vs 10 (dk aZ.enc x.ao.af),.vs 4 (dk aS.enc x.aQ),.vs 1 (dk (PV.int .i64) x.ai),.vs 1 (dk (PV.int .i64) x.aw),.vs 2 (dk bI.enc x.cI),.vs 1 (dk (PV.int .i64) x.bR.akL),.vs 1 (dk (PV.int .i64) x.bR.dg),.vs 1 (dk (PV.int .i64) x.bR.dG),.int .i64 x.bR.er,.vs 1 (dk (PV.int .i64) x.bM.bT),.int .i64 x.bM.dZ,.int .i64 x.bM.ed,.vs 1 (dk (PV.int .i64) x.gZ)]
structure qe where
 Ho:yc
 Hp:Int
 deriving DecidableEq,Inhabited
def qe.enc(x:qe):PV:=.agg [.vs 1 (dk (PV.int .u8) x.Ho),.int .i64 x.Hp]
abbrev bU:Type:=List bP
abbrev bW:Type:=List aZ
abbrev dh:Type:=List bC
abbrev ah:Type:=yc
abbrev dq:Type:=List aS
abbrev du:Type:=List (yc)
abbrev Y1:Type:=bU×bW×Int×dh×ah×dq×ah×ah×du×Int
def u1(a:aB)(b:Int):Y1:=(a.ao.ai,a.ao.af,a.aa0,a.aN,a.aw,a.aQ,a.cn,a.cf,a.bp,b)
def CU(b:Y1):aB:=let (z0,c,e,d,g,i,h,a,f,_):=b;(aB.mk (ak.mk z0 c) e d g i h a f)
def Eg(a:Y1):Int:=a.2.2.2.2.2.2.2.2.2
abbrev Y2:Type:=bU×bW×Int×ah×dq×ah×ah×du×dh×Int
def u2(a:aB)(b:Int):Y2:=(a.ao.ai,a.ao.af,a.aa0,a.aw,a.aQ,a.cn,a.cf,a.bp,a.aN,b)
abbrev Y3:Type:=bU×bW×Int×dh×ah×dq×ah×ah×du
def u3(a:aB):Y3:=(a.ao.ai,a.ao.af,a.aa0,a.aN,a.aw,a.aQ,a.cn,a.cf,a.bp)
def wZ(b:Y3):aB:=let (z0,c,e,d,g,i,h,a,f):=b;(aB.mk (ak.mk z0 c) e d g i h a f)
abbrev Y4:Type:=bU×bW×Int×ah×dq×ah×du×dh×ah×Int
def u4(a:aB)(b:Int):Y4:=(a.ao.ai,a.ao.af,a.aa0,a.aw,a.aQ,a.cf,a.bp,a.aN,a.cn,b)
abbrev Y8:Type:=bU×bW×Int×ah×dq×dh×ah×ah×du×Int
def u8(a:aB)(b:Int):Y8:=(a.ao.ai,a.ao.af,a.aa0,a.aw,a.aQ,a.aN,a.cn,a.cf,a.bp,b)
def L6(b:Y8):aB:=let (z0,c,e,d,g,i,h,a,f,_):=b;(aB.mk (ak.mk z0 c) e i d g h a f)
def T0(a:Y8):Int:=a.2.2.2.2.2.2.2.2.2
abbrev Y9:Type:=bU×bW×Int×dh×ah×ah×ah×du×dq×Int
def u9(a:aB)(b:Int):Y9:=(a.ao.ai,a.ao.af,a.aa0,a.aN,a.aw,a.cn,a.cf,a.bp,a.aQ,b)
def Oe(b:Y9):aB:=let (z0,c,e,d,g,i,h,a,f,_):=b;(aB.mk (ak.mk z0 c) e d g f i h a)
def Nk(a:Y9):Int:=a.2.2.2.2.2.2.2.2.2
abbrev Bf:Type:=bU×bW×Int×ah×ah×ah×du×dq×Int
def Ga(a:aB)(b:Int):Bf:=(a.ao.ai,a.ao.af,a.aa0,a.aw,a.cn,a.cf,a.bp,a.aQ,b)
def Pa(f:dh)(b:Bf):aB:=let (z0,c,e,d,g,i,h,a,_):=b;(aB.mk (ak.mk z0 c) e f d a g i h)
def Oj(a:Bf):Int:=a.2.2.2.2.2.2.2.2
abbrev CN:Type:=bU×bW×Int×ah×dq×ah×ah×du
def DY(a:aB):CN:=(a.ao.ai,a.ao.af,a.aa0,a.aw,a.aQ,a.cn,a.cf,a.bp)
def Rg(f:dh)(b:CN):aB:=let (z0,c,e,d,g,i,h,a):=b;(aB.mk (ak.mk z0 c) e f d g i h a)
abbrev EM:Type:=bU×bW×Int×ah×dq×ah×ah×du×Int
def J4(a:aB)(b:Int):EM:=(a.ao.ai,a.ao.af,a.aa0,a.aw,a.aQ,a.cn,a.cf,a.bp,b)
def LU(f:dh)(b:EM):aB:=let (z0,c,e,d,g,i,h,a,_):=b;(aB.mk (ak.mk z0 c) e f d g i h a)
def Tv(a:EM):Int:=a.2.2.2.2.2.2.2.2
abbrev F4:Type:=dh×bU×bW×Int×ah×dq×ah×ah×du
def B7(a:aB):F4:=(a.aN,a.ao.ai,a.ao.af,a.aa0,a.aw,a.aQ,a.cn,a.cf,a.bp)
def Bi(b:F4):aB:=let (z0,c,e,d,g,i,h,a,f):=b;(aB.mk (ak.mk c e) d z0 g i h a f)
abbrev eD:Type:=List bI
abbrev ck:Type:=List aT
abbrev cG:Type:=List ay
abbrev eP:Type:=List cy
abbrev eK:Type:=List dK
abbrev pJ:Type:=bU×bW×Int×dh×ah×dq×ah×ah×du×bU×bW×eD×ah×ah×ah×Int×ah×Int×Int×ck×ck×ah×ah×cG×Int×ah×ah×ah×Bool×Int×Int×Int×Int×cG×eP×eK×Int
def u16(a:aE)(e:Int):pJ:=let b:=a.au;let c:=a.bR;let d:=a.cL;(b.ao.ai,b.ao.af,b.aa0,b.aN,b.aw,b.aQ,b.cn,b.cf,b.bp,a.ao.ai,a.ao.af,a.cI,c.akL,c.dg,c.dG,c.er,a.bM.bT,a.bM.dZ,a.bM.ed,a.cq,a.bZ,a.cW.dl,a.cW.dr,a.bw.aA,a.bz.aa0,a.bz.an,a.aa2.af,a.aa2.aa2,a.aa2.Out,d.State,d.dD,d.akU,d.aa0,a.bq.aA,a.bS,a.bB,e)
def sN(E:pJ):aE:=let (z0,F,w,v,e,J,k,p,H,h,z,x,j,l,r,n,I,t,s,d,g,A,i,q,B,f,G,o,m,a,b,u,y,C,c,D,_):=E;(aE.mk (aB.mk (ak.mk z0 F) w v e J k p H) (ak.mk h z) x (bE.mk j l r n) (cd.mk I t s) d g (cZ.mk A i) (aL.mk q) (bQ.mk B f) (bA.mk G o m) (b7.mk a b u y) (aL.mk C) c D)
def sE(a:pJ):Int:=a.2.2.2.2.2.2.2.2.2.2.2.2.2.2.2.2.2.2.2.2.2.2.2.2.2.2.2.2.2.2.2.2.2.2.2.2
abbrev qc:Type:=bU×bW×Int×dh×ah×dq×ah×ah×du×bU×bW×eD×ah×ah×ah×Int×ah×Int×Int×ck×ck×ah×ah×cG×Int×ah×ah×ah×Bool×Int×Int×Int×Int×cG×eP×eK
def lR(a:aE):qc:=let b:=a.au;let c:=a.bR;let d:=a.cL;(b.ao.ai,b.ao.af,b.aa0,b.aN,b.aw,b.aQ,b.cn,b.cf,b.bp,a.ao.ai,a.ao.af,a.cI,c.akL,c.dg,c.dG,c.er,a.bM.bT,a.bM.dZ,a.bM.ed,a.cq,a.bZ,a.cW.dl,a.cW.dr,a.bw.aA,a.bz.aa0,a.bz.an,a.aa2.af,a.aa2.aa2,a.aa2.Out,d.State,d.dD,d.akU,d.aa0,a.bq.aA,a.bS,a.bB)
def tT(E:qc):aE:=let (z0,F,w,v,e,J,k,p,H,h,z,x,j,l,r,n,I,t,s,d,g,A,i,q,B,f,G,o,m,a,b,u,y,C,c,D):=E;(aE.mk (aB.mk (ak.mk z0 F) w v e J k p H) (ak.mk h z) x (bE.mk j l r n) (cd.mk I t s) d g (cZ.mk A i) (aL.mk q) (bQ.mk B f) (bA.mk G o m) (b7.mk a b u y) (aL.mk C) c D)
abbrev Y26:Type:=bU×bW×Int×dh×ah×dq×ah×ah×du×bU×bW×eD×ah×ah×ah×Int×ah×Int×Int×ck×ck×ah×ah×cG×Int×ah×ah×ah×Bool×Int×Int×Int×Int×cG×eP×eK×ah
def I0(F:Y26):aR:=let (z0,G,x,w,f,K,l,q,I,i,A,y,k,m,s,o,J,u,t,d,h,B,j,r,C,g,H,p,n,a,b,v,z,D,c,E,e):=F;(aR.mk (aE.mk (aB.mk (ak.mk z0 G) x w f K l q I) (ak.mk i A) y (bE.mk k m s o) (cd.mk J u t) d h (cZ.mk B j) (aL.mk r) (bQ.mk C g) (bA.mk H p n) (b7.mk a b v z) (aL.mk D) c E) e)
abbrev Hx:Type:=Int×Int×Int×Int
def u31(a:dS):Hx:=(a.agX,a.Tag,a.an,a.To)
def anK(a:Hx):dS:=(dS.mk a.1 a.2.1 a.2.2.1 a.2.2.2)
abbrev uI:Type:=List dC
abbrev sw:Type:=ck×ah×Int×Int×Int×uI×Int×Int
def u32(c:List aT)(a:aS)(e:List dC)(b:Int)(d:Int):sw:=(c,a.ai,a.dX,a.dY,a.cR,e,b,d)
def Xb(a:sw):List aT:=a.1
def acU(a:sw):aS:=(aS.mk a.2.1 a.2.2.1 a.2.2.2.1 a.2.2.2.2.1)
def aaB(a:sw):List dC:=a.2.2.2.2.2.1
def afG(a:sw):Int:=a.2.2.2.2.2.2.1
def adt(a:sw):Int:=a.2.2.2.2.2.2.2
abbrev pg:Type:=Int×Int×ah×Int×Int×Int×uI×ck
def ql(d:Int)(b:Int)(a:aS)(c:List dC)(e:List aT):pg:=(d,b,a.ai,a.dX,a.dY,a.cR,c,e)
def Jw(a:pg):Int:=a.1
def KY(a:pg):Int:=a.2.1
def Kd(a:pg):aS:=(aS.mk a.2.2.1 a.2.2.2.1 a.2.2.2.2.1 a.2.2.2.2.2.1)
def FE(a:pg):List dC:=a.2.2.2.2.2.2.1
def vh(a:pg):List aT:=a.2.2.2.2.2.2.2
abbrev oI:Type:=Int×Int×ah×Int×Int×Int×uI×ck×Int
def vI(e:Int)(b:Int)(a:aS)(c:List dC)(f:List aT)(d:Int):oI:=(e,b,a.ai,a.dX,a.dY,a.cR,c,f,d)
def ac8(a:oI):Int:=a.1
def ah4(a:oI):Int:=a.2.1
def afQ(a:oI):aS:=(aS.mk a.2.2.1 a.2.2.2.1 a.2.2.2.2.1 a.2.2.2.2.2.1)
def akR(a:oI):List dC:=a.2.2.2.2.2.2.1
def aiI(a:oI):List aT:=a.2.2.2.2.2.2.2.1
def anA(a:oI):Int:=a.2.2.2.2.2.2.2.2
abbrev qt:Type:=Int×Int×ah×Int×Int×Int×ck×uI
def qA(d:Int)(b:Int)(a:aS)(c:List aT)(e:List dC):qt:=(d,b,a.ai,a.dX,a.dY,a.cR,c,e)
def LJ(a:qt):Int:=a.1
def Tn(a:qt):Int:=a.2.1
def MT(a:qt):aS:=(aS.mk a.2.2.1 a.2.2.2.1 a.2.2.2.2.1 a.2.2.2.2.2.1)
def Mb(a:qt):List aT:=a.2.2.2.2.2.2.1
def N2(a:qt):List dC:=a.2.2.2.2.2.2.2
abbrev vW:Type:=ck×ah×Int×Int×Int×Int×Int×uI
def Q0(a:vW):List aT:=a.1
def Qc(a:vW):aS:=(aS.mk a.2.1 a.2.2.1 a.2.2.2.1 a.2.2.2.2.1)
def R8(a:vW):Int:=a.2.2.2.2.2.1
def Rc(a:vW):Int:=a.2.2.2.2.2.2.1
def Tj(a:vW):List dC:=a.2.2.2.2.2.2.2
abbrev qv:Type:=ck×ah×Int×Int×Int×Int×Int×ck×uI
def pC(d:List aT)(a:aS)(f:Int)(b:Int)(e:List aT)(c:List dC):qv:=(d,a.ai,a.dX,a.dY,a.cR,f,b,e,c)
def Se(a:qv):List aT:=a.1
def Fp(a:qv):aS:=(aS.mk a.2.1 a.2.2.1 a.2.2.2.1 a.2.2.2.2.1)
def KG(a:qv):Int:=a.2.2.2.2.2.1
def FU(a:qv):Int:=a.2.2.2.2.2.2.1
def Hz(a:qv):List aT:=a.2.2.2.2.2.2.2.1
def GM(a:qv):List dC:=a.2.2.2.2.2.2.2.2
abbrev pT:Type:=Int×ah×Int×Int×Int×Int×Int×Int×Int×Int×aL×Int
def Ft(e:Int)(a:aS)(b:dC)(c:Int)(f:aL)(d:Int):pT:=(e,a.ai,a.dX,a.dY,a.cR,b.agX,b.Tag,b.an,b.To,c,f,d)
def Gy(a:pT):Int:=a.1
def Ib(a:pT):aS:=(aS.mk a.2.1 a.2.2.1 a.2.2.2.1 a.2.2.2.2.1)
def HF(b:pT):dC:=let (_,_,_,_,_,e,d,a,c,_,_,_):=b;(dC.mk e d a c)
def I2(a:pT):Int:=a.2.2.2.2.2.2.2.2.2.1
def Ir(a:pT):aL:=a.2.2.2.2.2.2.2.2.2.2.1
def JK(a:pT):Int:=a.2.2.2.2.2.2.2.2.2.2.2
abbrev CQ:Type:=bU×bW×Int×dh×ah×dq×ah×ah×du×bU×bW×eD×ah×ah×ah×Int×ah×Int×Int×ah×ah×cG×Int×ah×ah×ah×Bool×Int×Int×Int×Int×cG×eP×eK×Int
def J3(a:aE)(e:Int):CQ:=let b:=a.au;let c:=a.bR;let d:=a.cL;(b.ao.ai,b.ao.af,b.aa0,b.aN,b.aw,b.aQ,b.cn,b.cf,b.bp,a.ao.ai,a.ao.af,a.cI,c.akL,c.dg,c.dG,c.er,a.bM.bT,a.bM.dZ,a.bM.ed,a.cW.dl,a.cW.dr,a.bw.aA,a.bz.aa0,a.bz.an,a.aa2.af,a.aa2.aa2,a.aa2.Out,d.State,d.dD,d.akU,d.aa0,a.bq.aA,a.bS,a.bB,e)
def Rx(G:ck)(y:ck)(D:CQ):aE:=let (z0,E,v,u,d,J,j,o,H,g,z,w,i,k,q,m,I,s,r,c,f,A,h,p,B,e,F,n,l,a,b,t,x,C,_):=D;(aE.mk (aB.mk (ak.mk z0 E) v u d J j o H) (ak.mk g z) w (bE.mk i k q m) (cd.mk I s r) G y (cZ.mk c f) (aL.mk A) (bQ.mk h p) (bA.mk B e F) (b7.mk n l a b) (aL.mk t) x C)
def Tu(a:CQ):Int:=a.2.2.2.2.2.2.2.2.2.2.2.2.2.2.2.2.2.2.2.2.2.2.2.2.2.2.2.2.2.2.2.2.2.2
abbrev J9:Type:=bU×bW×Int×dh×ah×dq×ah×ah×du×bU×bW×eD×ah×ah×ah×Int×ah×Int×Int×ah×ah×cG×Int×ah×ah×ah×Bool×Int×Int×Int×Int×cG×eP×eK
def Mj(a:aE):J9:=let b:=a.au;let c:=a.bR;let d:=a.cL;(b.ao.ai,b.ao.af,b.aa0,b.aN,b.aw,b.aQ,b.cn,b.cf,b.bp,a.ao.ai,a.ao.af,a.cI,c.akL,c.dg,c.dG,c.er,a.bM.bT,a.bM.dZ,a.bM.ed,a.cW.dl,a.cW.dr,a.bw.aA,a.bz.aa0,a.bz.an,a.aa2.af,a.aa2.aa2,a.aa2.Out,d.State,d.dD,d.akU,d.aa0,a.bq.aA,a.bS,a.bB)
def Uh(G:ck)(y:ck)(D:J9):aE:=let (z0,E,v,u,d,J,j,o,H,g,z,w,i,k,q,m,I,s,r,c,f,A,h,p,B,e,F,n,l,a,b,t,x,C):=D;(aE.mk (aB.mk (ak.mk z0 E) v u d J j o H) (ak.mk g z) w (bE.mk i k q m) (cd.mk I s r) G y (cZ.mk c f) (aL.mk A) (bQ.mk h p) (bA.mk B e F) (b7.mk n l a b) (aL.mk t) x C)
abbrev ZU:Type:=bU×Int×dh×ah×dq×ah×ah×du
def u64(a:aB):ZU:=(a.ao.ai,a.aa0,a.aN,a.aw,a.aQ,a.cn,a.cf,a.bp)
abbrev zu:Type:=bU×Int×ah×ah×ah×du×dq×Int
def KL(a:aB)(b:Int):zu:=(a.ao.ai,a.aa0,a.aw,a.cn,a.cf,a.bp,a.aQ,b)
def MR(d:bW)(i:dh)(a:zu):aB:=let (z0,b,e,c,f,h,g,_):=a;(aB.mk (ak.mk z0 d) b i e g c f h)
def L9(a:zu):Int:=a.2.2.2.2.2.2.2
abbrev Ba:Type:=bU×Int×ah×dq×ah×ah×du
def CD(a:aB):Ba:=(a.ao.ai,a.aa0,a.aw,a.aQ,a.cn,a.cf,a.bp)
def O3(d:bW)(i:dh)(a:Ba):aB:=let (z0,b,e,c,f,h,g):=a;(aB.mk (ak.mk z0 d) b i e c f h g)
abbrev Df:Type:=bU×Int×ah×dq×ah×ah×du×Int
def IC(a:aB)(b:Int):Df:=(a.ao.ai,a.aa0,a.aw,a.aQ,a.cn,a.cf,a.bp,b)
def R4(d:bW)(i:dh)(a:Df):aB:=let (z0,b,e,c,f,h,g,_):=a;(aB.mk (ak.mk z0 d) b i e c f h g)
def Lw(a:Df):Int:=a.2.2.2.2.2.2.2
abbrev KA:Type:=bW×dh×bU×Int×ah×dq×ah×ah×du
def MF(a:aB):KA:=(a.ao.af,a.aN,a.ao.ai,a.aa0,a.aw,a.aQ,a.cn,a.cf,a.bp)
def VD(b:KA):aB:=let (z0,c,e,d,g,i,h,a,f):=b;(aB.mk (ak.mk e z0) d c g i h a f)
abbrev uH:Type:=List cS
abbrev lU:Type:=Int×uH
def iC(a:cm):lU:=(a.n,a.steps)
abbrev n9:Type:=List Bool
def ox(c:n9)(b:n9)(a:lU):cm:=(cm.mk a.1 a.2 c b)
abbrev pE:Type:=Int×uH×Int
def nC(a:cm)(b:Int):pE:=(a.n,a.steps,b)
def wK(c:n9)(b:n9)(a:pE):cm:=(cm.mk a.1 a.2.1 c b)
def wo(a:pE):Int:=a.2.2
abbrev Il:Type:=uH×n9×Int×n9
def JJ(a:cm):Il:=(a.steps,a.bad,a.n,a.safe)
def Lk(a:Il):cm:=(cm.mk a.2.2.1 a.1 a.2.2.2 a.2.1)
abbrev FP:Type:=eK×bU×bW×Int×dh×ah×dq×ah×ah×du×bU×bW×eD×ah×ah×ah×Int×ah×Int×Int×ck×ck×ah×ah×cG×Int×ah×ah×ah×Bool×Int×Int×Int×Int×cG×eP
def OE(a:aE):FP:=let b:=a.au;let c:=a.bR;let d:=a.cL;(a.bB,b.ao.ai,b.ao.af,b.aa0,b.aN,b.aw,b.aQ,b.cn,b.cf,b.bp,a.ao.ai,a.ao.af,a.cI,c.akL,c.dg,c.dG,c.er,a.bM.bT,a.bM.dZ,a.bM.ed,a.cq,a.bZ,a.cW.dl,a.cW.dr,a.bw.aA,a.bz.aa0,a.bz.an,a.aa2.af,a.aa2.aa2,a.aa2.Out,d.State,d.dD,d.akU,d.aa0,a.bq.aA,a.bS)
def aiF(E:FP):aE:=let (z0,F,w,v,e,J,k,p,H,h,z,x,j,l,r,n,I,t,s,d,g,A,i,q,B,f,G,o,m,a,b,u,y,C,c,D):=E;(aE.mk (aB.mk (ak.mk F w) v e J k p H h) (ak.mk z x) j (bE.mk l r n I) (cd.mk t s d) g A (cZ.mk i q) (aL.mk B) (bQ.mk f G) (bA.mk o m a) (b7.mk b u y C) (aL.mk c) D z0)
abbrev Ic:Type:=bU×bW×Int×dh×ah×dq×ah×ah×du×bU×bW×eD×ah×ah×ah×Int×ah×Int×Int×ck×ck×ah×ah×cG×Int×ah×ah×ah×Bool×Int×Int×Int×Int×cG×eP
def RG(a:aE):Ic:=let b:=a.au;let c:=a.bR;let d:=a.cL;(b.ao.ai,b.ao.af,b.aa0,b.aN,b.aw,b.aQ,b.cn,b.cf,b.bp,a.ao.ai,a.ao.af,a.cI,c.akL,c.dg,c.dG,c.er,a.bM.bT,a.bM.dZ,a.bM.ed,a.cq,a.bZ,a.cW.dl,a.cW.dr,a.bw.aA,a.bz.aa0,a.bz.an,a.aa2.af,a.aa2.aa2,a.aa2.Out,d.State,d.dD,d.akU,d.aa0,a.bq.aA,a.bS)
def ajj(G:eK)(D:Ic):aE:=let (z0,E,w,v,e,J,k,p,H,h,z,x,j,l,r,n,I,t,s,d,g,A,i,q,B,f,F,o,m,a,b,u,y,C,c):=D;(aE.mk (aB.mk (ak.mk z0 E) w v e J k p H) (ak.mk h z) x (bE.mk j l r n) (cd.mk I t s) d g (cZ.mk A i) (aL.mk q) (bQ.mk B f) (bA.mk F o m) (b7.mk a b u y) (aL.mk C) c G)
abbrev jt:Type:=ck×ck×eK×bU×bW×Int×dh×ah×dq×ah×ah×du×bU×bW×eD×ah×ah×ah×Int×ah×Int×Int×ah×ah×cG×Int×ah×ah×ah×Bool×Int×Int×Int×Int×cG×eP×ah×Int
def cT(g:aR)(i:Int):jt:=let a:=g.aI;let b:=a.au;let d:=a.bR;let f:=a.bM;let e:=a.aa2;let c:=a.cL;let h:=b.ao;(a.cq,a.bZ,a.bB,h.ai,h.af,b.aa0,b.aN,b.aw,b.aQ,b.cn,b.cf,b.bp,a.ao.ai,a.ao.af,a.cI,d.akL,d.dg,d.dG,d.er,f.bT,f.dZ,f.ed,a.cW.dl,a.cW.dr,a.bw.aA,a.bz.aa0,a.bz.an,e.af,e.aa2,e.Out,c.State,c.dD,c.akU,c.aa0,a.bq.aA,a.bS,g.named,i)
def fR(F:jt):aR:=let (z0,G,x,w,f,K,l,q,I,i,A,y,k,m,s,o,J,u,t,d,h,B,j,r,C,g,H,p,n,a,b,v,z,D,c,E,e,_):=F;(aR.mk (aE.mk (aB.mk (ak.mk w f) K l q I i A y) (ak.mk k m) s (bE.mk o J u t) (cd.mk d h B) z0 G (cZ.mk j r) (aL.mk C) (bQ.mk g H) (bA.mk p n a) (b7.mk b v z D) (aL.mk c) E x) e)
def fT(a:jt):Int:=a.2.2.2.2.2.2.2.2.2.2.2.2.2.2.2.2.2.2.2.2.2.2.2.2.2.2.2.2.2.2.2.2.2.2.2.2.2
abbrev Jr:Type:=ck×ck×eK×bU×bW×Int×dh×ah×dq×ah×ah×du×bU×bW×eD×ah×ah×ah×Int×ah×Int×Int×ah×ah×cG×Int×ah×ah×ah×Bool×Int×Int×Int×Int×cG×eP
def IW(a:aE):Jr:=let b:=a.au;let c:=a.bR;let d:=a.cL;(a.cq,a.bZ,a.bB,b.ao.ai,b.ao.af,b.aa0,b.aN,b.aw,b.aQ,b.cn,b.cf,b.bp,a.ao.ai,a.ao.af,a.cI,c.akL,c.dg,c.dG,c.er,a.bM.bT,a.bM.dZ,a.bM.ed,a.cW.dl,a.cW.dr,a.bw.aA,a.bz.aa0,a.bz.an,a.aa2.af,a.aa2.aa2,a.aa2.Out,d.State,d.dD,d.akU,d.aa0,a.bq.aA,a.bS)
def SD(E:Jr):aE:=let (z0,F,w,v,e,J,k,p,H,h,z,x,j,l,r,n,I,t,s,d,g,A,i,q,B,f,G,o,m,a,b,u,y,C,c,D):=E;(aE.mk (aB.mk (ak.mk v e) J k p H h z x) (ak.mk j l) r (bE.mk n I t s) (cd.mk d g A) z0 F (cZ.mk i q) (aL.mk B) (bQ.mk f G) (bA.mk o m a) (b7.mk b u y C) (aL.mk c) D w)
abbrev qz:Type:=ck×eK×bU×bW×Int×dh×ah×dq×ah×ah×du×bU×bW×eD×ah×ah×ah×Int×ah×Int×Int×ck×ah×ah×cG×Int×ah×ah×ah×Bool×Int×Int×Int×Int×cG×eP×ah×Int
def dp(g:aR)(i:Int):qz:=let a:=g.aI;let b:=a.au;let d:=a.bR;let f:=a.bM;let e:=a.aa2;let c:=a.cL;let h:=b.ao;(a.cq,a.bB,h.ai,h.af,b.aa0,b.aN,b.aw,b.aQ,b.cn,b.cf,b.bp,a.ao.ai,a.ao.af,a.cI,d.akL,d.dg,d.dG,d.er,f.bT,f.dZ,f.ed,a.bZ,a.cW.dl,a.cW.dr,a.bw.aA,a.bz.aa0,a.bz.an,e.af,e.aa2,e.Out,c.State,c.dD,c.akU,c.aa0,a.bq.aA,a.bS,g.named,i)
def iS(F:qz):aR:=let (z0,G,x,w,f,K,l,q,I,i,A,y,k,m,s,o,J,u,t,d,h,B,j,r,C,g,H,p,n,a,b,v,z,D,c,E,e,_):=F;(aR.mk (aE.mk (aB.mk (ak.mk x w) f K l q I i A) (ak.mk y k) m (bE.mk s o J u) (cd.mk t d h) z0 B (cZ.mk j r) (aL.mk C) (bQ.mk g H) (bA.mk p n a) (b7.mk b v z D) (aL.mk c) E G) e)
def iJ(a:qz):Int:=a.2.2.2.2.2.2.2.2.2.2.2.2.2.2.2.2.2.2.2.2.2.2.2.2.2.2.2.2.2.2.2.2.2.2.2.2.2
abbrev qW:Type:=Int×Int×Int×Int×ah×Int×Int×Int×ck×eK×bU×bW×Int×dh×ah×dq×ah×ah×du×bU×bW×eD×ah×ah×ah×Int×ah×Int×Int×ck×ah×ah×cG×Int×ah×ah×ah×Bool×Int×Int×Int×Int×cG×eP×ah×aL×Int
def La(d:dS)(c:aS)(j:aR)(k:aL)(l:Int):qW:=let a:=j.aI;let b:=a.au;let f:=a.bR;let h:=a.bM;let g:=a.aa2;let e:=a.cL;let i:=b.ao;(d.agX,d.Tag,d.an,d.To,c.ai,c.dX,c.dY,c.cR,a.cq,a.bB,i.ai,i.af,b.aa0,b.aN,b.aw,b.aQ,b.cn,b.cf,b.bp,a.ao.ai,a.ao.af,a.cI,f.akL,f.dg,f.dG,f.er,h.bT,h.dZ,h.ed,a.bZ,a.cW.dl,a.cW.dr,a.bw.aA,a.bz.aa0,a.bz.an,g.af,g.aa2,g.Out,e.State,e.dD,e.akU,e.aa0,a.bq.aA,a.bS,j.named,k,l)
def F7(a:qW):dS:=(dS.mk a.1 a.2.1 a.2.2.1 a.2.2.2.1)
def HJ(a:qW):aS:=(aS.mk a.2.2.2.2.1 a.2.2.2.2.2.1 a.2.2.2.2.2.2.1 a.2.2.2.2.2.2.2.1)
def G2(G:qW):aR:=let (_,_,_,_,_,_,_,_,J,j,C,y,m,o,u,q,K,w,v,e,i,B,k,t,D,h,I,s,p,a,c,x,z,E,d,F,f,r,b,H,A,l,M,n,g,_,_):=G;(aR.mk (aE.mk (aB.mk (ak.mk C y) m o u q K w v) (ak.mk e i) B (bE.mk k t D h) (cd.mk I s p) J a (cZ.mk c x) (aL.mk z) (bQ.mk E d) (bA.mk F f r) (b7.mk b H A l) (aL.mk M) n j) g)
def IB(a:qW):aL:=a.2.2.2.2.2.2.2.2.2.2.2.2.2.2.2.2.2.2.2.2.2.2.2.2.2.2.2.2.2.2.2.2.2.2.2.2.2.2.2.2.2.2.2.2.2.1
def HV(a:qW):Int:=a.2.2.2.2.2.2.2.2.2.2.2.2.2.2.2.2.2.2.2.2.2.2.2.2.2.2.2.2.2.2.2.2.2.2.2.2.2.2.2.2.2.2.2.2.2.2
abbrev Dk:Type:=bU×bW×Int×dh×ah×dq×ah×ah×du×bU×bW×eD×ah×ah×ah×Int×ah×Int×Int×ck×ah×ah×cG×Int×ah×ah×ah×Bool×Int×Int×Int×Int×cG×eP×ah
def qI(g:aR):Dk:=let a:=g.aI;let b:=a.au;let d:=a.bR;let f:=a.bM;let e:=a.aa2;let c:=a.cL;let h:=b.ao;(h.ai,h.af,b.aa0,b.aN,b.aw,b.aQ,b.cn,b.cf,b.bp,a.ao.ai,a.ao.af,a.cI,d.akL,d.dg,d.dG,d.er,f.bT,f.dZ,f.ed,a.bZ,a.cW.dl,a.cW.dr,a.bw.aA,a.bz.aa0,a.bz.an,e.af,e.aa2,e.Out,c.State,c.dD,c.akU,c.aa0,a.bq.aA,a.bS,g.named)
def Sl(H:ck)(z:eK)(E:Dk):aR:=let (z0,F,w,v,e,K,k,p,I,h,A,x,j,l,r,n,J,t,s,d,g,B,i,q,C,f,G,o,m,a,b,u,y,D,c):=E;(aR.mk (aE.mk (aB.mk (ak.mk z0 F) w v e K k p I) (ak.mk h A) x (bE.mk j l r n) (cd.mk J t s) H d (cZ.mk g B) (aL.mk i) (bQ.mk q C) (bA.mk f G o) (b7.mk m a b u) (aL.mk y) D z) c)
abbrev vq:Type:=ck×eK×bU×bW×Int×dh×ah×dq×ah×ah×du×bU×bW×eD×ah×ah×ah×Int×ah×Int×Int×ck×ah×ah×cG×Int×ah×ah×ah×Bool×Int×Int×Int×Int×cG×eP×ah×Int×Int×Int×Int×ah×Int×Int×Int
def ol(i:aR)(c:dS)(e:aS):vq:=let a:=i.aI;let b:=a.au;let f:=a.bR;let h:=a.bM;let g:=a.aa2;let d:=a.cL;let j:=b.ao;(a.cq,a.bB,j.ai,j.af,b.aa0,b.aN,b.aw,b.aQ,b.cn,b.cf,b.bp,a.ao.ai,a.ao.af,a.cI,f.akL,f.dg,f.dG,f.er,h.bT,h.dZ,h.ed,a.bZ,a.cW.dl,a.cW.dr,a.bw.aA,a.bz.aa0,a.bz.an,g.af,g.aa2,g.Out,d.State,d.dD,d.akU,d.aa0,a.bq.aA,a.bS,i.named,c.agX,c.Tag,c.an,c.To,e.ai,e.dX,e.dY,e.cR)
def MU(F:vq):aR:=let (z0,G,x,w,f,K,l,q,I,i,A,y,k,m,s,o,J,u,t,d,h,B,j,r,C,g,H,p,n,a,b,v,z,D,c,E,e,_,_,_,_,_,_,_,_):=F;(aR.mk (aE.mk (aB.mk (ak.mk x w) f K l q I i A) (ak.mk y k) m (bE.mk s o J u) (cd.mk t d h) z0 B (cZ.mk j r) (aL.mk C) (bQ.mk g H) (bA.mk p n a) (b7.mk b v z D) (aL.mk c) E G) e)
def Me(a:vq):dS:=let (_,_,_,_,_,_,_,_,_,_,_,_,_,_,_,_,_,_,_,_,_,_,_,_,_,_,_,_,_,_,_,_,_,_,_,_,_,e,b,c,d,_,_,_,_):=a;(dS.mk e b c d)
def N4(a:vq):aS:=let (_,_,_,_,_,_,_,_,_,_,_,_,_,_,_,_,_,_,_,_,_,_,_,_,_,_,_,_,_,_,_,_,_,_,_,_,_,_,_,_,_,b,d,c,e):=a;(aS.mk b d c e)
abbrev ug:Type:=ck×eK×bU×bW×Int×dh×ah×dq×ah×ah×du×bU×bW×eD×ah×ah×ah×Int×ah×Int×Int×ck×ah×ah×cG×Int×ah×ah×ah×Bool×Int×Int×Int×Int×cG×eP×ah×ah×Int×Int×Int×Int
def Cb(h:aR)(c:aS)(j:Int):ug:=let a:=h.aI;let b:=a.au;let e:=a.bR;let g:=a.bM;let f:=a.aa2;let d:=a.cL;let i:=b.ao;(a.cq,a.bB,i.ai,i.af,b.aa0,b.aN,b.aw,b.aQ,b.cn,b.cf,b.bp,a.ao.ai,a.ao.af,a.cI,e.akL,e.dg,e.dG,e.er,g.bT,g.dZ,g.ed,a.bZ,a.cW.dl,a.cW.dr,a.bw.aA,a.bz.aa0,a.bz.an,f.af,f.aa2,f.Out,d.State,d.dD,d.akU,d.aa0,a.bq.aA,a.bS,h.named,c.ai,c.dX,c.dY,c.cR,j)
def Q2(F:ug):aR:=let (z0,G,x,w,f,K,l,q,I,i,A,y,k,m,s,o,J,u,t,d,h,B,j,r,C,g,H,p,n,a,b,v,z,D,c,E,e,_,_,_,_,_):=F;(aR.mk (aE.mk (aB.mk (ak.mk x w) f K l q I i A) (ak.mk y k) m (bE.mk s o J u) (cd.mk t d h) z0 B (cZ.mk j r) (aL.mk C) (bQ.mk g H) (bA.mk p n a) (b7.mk b v z D) (aL.mk c) E G) e)
def Qd(a:ug):aS:=let (_,_,_,_,_,_,_,_,_,_,_,_,_,_,_,_,_,_,_,_,_,_,_,_,_,_,_,_,_,_,_,_,_,_,_,_,_,e,b,c,d,_):=a;(aS.mk e b c d)
def R9(a:ug):Int:=a.2.2.2.2.2.2.2.2.2.2.2.2.2.2.2.2.2.2.2.2.2.2.2.2.2.2.2.2.2.2.2.2.2.2.2.2.2.2.2.2.2
abbrev rY:Type:=ck×eK×bU×bW×Int×dh×ah×dq×ah×ah×du×bU×bW×eD×ah×ah×ah×Int×ah×Int×Int×ck×ah×ah×cG×Int×ah×ah×ah×Bool×Int×Int×Int×Int×cG×eP×ah
def mf(g:aR):rY:=let a:=g.aI;let b:=a.au;let d:=a.bR;let f:=a.bM;let e:=a.aa2;let c:=a.cL;let h:=b.ao;(a.cq,a.bB,h.ai,h.af,b.aa0,b.aN,b.aw,b.aQ,b.cn,b.cf,b.bp,a.ao.ai,a.ao.af,a.cI,d.akL,d.dg,d.dG,d.er,f.bT,f.dZ,f.ed,a.bZ,a.cW.dl,a.cW.dr,a.bw.aA,a.bz.aa0,a.bz.an,e.af,e.aa2,e.Out,c.State,c.dD,c.akU,c.aa0,a.bq.aA,a.bS,g.named)
def Al(F:rY):aR:=let (z0,G,x,w,f,K,l,q,I,i,A,y,k,m,s,o,J,u,t,d,h,B,j,r,C,g,H,p,n,a,b,v,z,D,c,E,e):=F;(aR.mk (aE.mk (aB.mk (ak.mk x w) f K l q I i A) (ak.mk y k) m (bE.mk s o J u) (cd.mk t d h) z0 B (cZ.mk j r) (aL.mk C) (bQ.mk g H) (bA.mk p n a) (b7.mk b v z D) (aL.mk c) E G) e)
abbrev qU:Type:=ck×eK×bU×bW×Int×dh×ah×dq×ah×ah×du×bU×bW×eD×ah×ah×ah×Int×ah×Int×Int×ck×ah×ah×cG×Int×ah×ah×ah×Bool×Int×Int×Int×Int×cG×eP×ah×Int×ah×Int×Int×Int×Int×Int×Int×Int×Int
def nJ(i:aR)(k:Int)(e:aS)(c:dC)(l:Int):qU:=let a:=i.aI;let b:=a.au;let f:=a.bR;let h:=a.bM;let g:=a.aa2;let d:=a.cL;let j:=b.ao;(a.cq,a.bB,j.ai,j.af,b.aa0,b.aN,b.aw,b.aQ,b.cn,b.cf,b.bp,a.ao.ai,a.ao.af,a.cI,f.akL,f.dg,f.dG,f.er,h.bT,h.dZ,h.ed,a.bZ,a.cW.dl,a.cW.dr,a.bw.aA,a.bz.aa0,a.bz.an,g.af,g.aa2,g.Out,d.State,d.dD,d.akU,d.aa0,a.bq.aA,a.bS,i.named,k,e.ai,e.dX,e.dY,e.cR,c.agX,c.Tag,c.an,c.To,l)
def M2(F:qU):aR:=let (z0,G,x,w,f,K,l,q,I,i,A,y,k,m,s,o,J,u,t,d,h,B,j,r,C,g,H,p,n,a,b,v,z,D,c,E,e,_,_,_,_,_,_,_,_,_,_):=F;(aR.mk (aE.mk (aB.mk (ak.mk x w) f K l q I i A) (ak.mk y k) m (bE.mk s o J u) (cd.mk t d h) z0 B (cZ.mk j r) (aL.mk C) (bQ.mk g H) (bA.mk p n a) (b7.mk b v z D) (aL.mk c) E G) e)
def OW(a:qU):Int:=a.2.2.2.2.2.2.2.2.2.2.2.2.2.2.2.2.2.2.2.2.2.2.2.2.2.2.2.2.2.2.2.2.2.2.2.2.2.1
def N9(a:qU):aS:=let (_,_,_,_,_,_,_,_,_,_,_,_,_,_,_,_,_,_,_,_,_,_,_,_,_,_,_,_,_,_,_,_,_,_,_,_,_,_,b,d,e,c,_,_,_,_,_):=a;(aS.mk b d e c)
def P1(a:qU):dC:=let (_,_,_,_,_,_,_,_,_,_,_,_,_,_,_,_,_,_,_,_,_,_,_,_,_,_,_,_,_,_,_,_,_,_,_,_,_,_,_,_,_,_,c,b,d,e,_):=a;(dC.mk c b d e)
def RU(a:qU):Int:=a.2.2.2.2.2.2.2.2.2.2.2.2.2.2.2.2.2.2.2.2.2.2.2.2.2.2.2.2.2.2.2.2.2.2.2.2.2.2.2.2.2.2.2.2.2.2
abbrev uy:Type:=ck×eK×bU×bW×Int×dh×ah×dq×ah×ah×du×bU×bW×eD×ah×ah×ah×Int×ah×Int×Int×ck×ah×ah×cG×Int×ah×ah×ah×Bool×Int×Int×Int×Int×cG×eP×ah×Int
def uZ(g:aR)(i:Int):uy:=let a:=g.aI;let b:=a.au;let d:=a.bR;let f:=a.bM;let e:=a.aa2;let c:=a.cL;let h:=b.ao;(a.cq,a.bB,h.ai,h.af,b.aa0,b.aN,b.aw,b.aQ,b.cn,b.cf,b.bp,a.ao.ai,a.ao.af,a.cI,d.akL,d.dg,d.dG,d.er,f.bT,f.dZ,f.ed,a.bZ,a.cW.dl,a.cW.dr,a.bw.aA,a.bz.aa0,a.bz.an,e.af,e.aa2,e.Out,c.State,c.dD,c.akU,c.aa0,a.bq.aA,a.bS,g.named,i)
def Si(F:uy):aR:=let (z0,G,x,w,f,K,l,q,I,i,A,y,k,m,s,o,J,u,t,d,h,B,j,r,C,g,H,p,n,a,b,v,z,D,c,E,e,_):=F;(aR.mk (aE.mk (aB.mk (ak.mk x w) f K l q I i A) (ak.mk y k) m (bE.mk s o J u) (cd.mk t d h) z0 B (cZ.mk j r) (aL.mk C) (bQ.mk g H) (bA.mk p n a) (b7.mk b v z D) (aL.mk c) E G) e)
def LF(a:uy):Int:=a.2.2.2.2.2.2.2.2.2.2.2.2.2.2.2.2.2.2.2.2.2.2.2.2.2.2.2.2.2.2.2.2.2.2.2.2.2
abbrev DU:Type:=bU×bW×Int×dh×ah×dq×ah×ah×du×bU×bW×eD×ah×ah×ah×Int×ah×Int×Int×ah×ah×cG×Int×ah×ah×ah×Bool×Int×Int×Int×Int×cG×eP×ah×eD
def UN(g:aR)(i:List bI):DU:=let a:=g.aI;let b:=a.au;let d:=a.bR;let f:=a.bM;let e:=a.aa2;let c:=a.cL;let h:=b.ao;(h.ai,h.af,b.aa0,b.aN,b.aw,b.aQ,b.cn,b.cf,b.bp,a.ao.ai,a.ao.af,a.cI,d.akL,d.dg,d.dG,d.er,f.bT,f.dZ,f.ed,a.cW.dl,a.cW.dr,a.bw.aA,a.bz.aa0,a.bz.an,e.af,e.aa2,e.Out,c.State,c.dD,c.akU,c.aa0,a.bq.aA,a.bS,g.named,i)
def ao9(H:ck)(z:ck)(i:eK)(E:DU):aR:=let (z0,F,w,v,d,K,k,p,I,g,A,x,j,l,r,n,J,t,s,c,f,B,h,q,C,e,G,o,m,a,b,u,y,D,_):=E;(aR.mk (aE.mk (aB.mk (ak.mk z0 F) w v d K k p I) (ak.mk g A) x (bE.mk j l r n) (cd.mk J t s) H z (cZ.mk c f) (aL.mk B) (bQ.mk h q) (bA.mk C e G) (b7.mk o m a b) (aL.mk u) y i) D)
def Yk(a:DU):List bI:=a.2.2.2.2.2.2.2.2.2.2.2.2.2.2.2.2.2.2.2.2.2.2.2.2.2.2.2.2.2.2.2.2.2.2
abbrev jU:Type:=bU×bW×Int×dh×ah×dq×ah×ah×du×bU×bW×eD×ah×ah×ah×Int×ah×Int×Int×ah×ah×cG×Int×ah×ah×ah×Bool×Int×Int×Int×Int×cG×eP×ah×Int
def iv(g:aR)(i:Int):jU:=let a:=g.aI;let b:=a.au;let d:=a.bR;let f:=a.bM;let e:=a.aa2;let c:=a.cL;let h:=b.ao;(h.ai,h.af,b.aa0,b.aN,b.aw,b.aQ,b.cn,b.cf,b.bp,a.ao.ai,a.ao.af,a.cI,d.akL,d.dg,d.dG,d.er,f.bT,f.dZ,f.ed,a.cW.dl,a.cW.dr,a.bw.aA,a.bz.aa0,a.bz.an,e.af,e.aa2,e.Out,c.State,c.dD,c.akU,c.aa0,a.bq.aA,a.bS,g.named,i)
def nT(H:ck)(z:ck)(i:eK)(E:jU):aR:=let (z0,F,w,v,d,K,k,p,I,g,A,x,j,l,r,n,J,t,s,c,f,B,h,q,C,e,G,o,m,a,b,u,y,D,_):=E;(aR.mk (aE.mk (aB.mk (ak.mk z0 F) w v d K k p I) (ak.mk g A) x (bE.mk j l r n) (cd.mk J t s) H z (cZ.mk c f) (aL.mk B) (bQ.mk h q) (bA.mk C e G) (b7.mk o m a b) (aL.mk u) y i) D)
def nO(a:jU):Int:=a.2.2.2.2.2.2.2.2.2.2.2.2.2.2.2.2.2.2.2.2.2.2.2.2.2.2.2.2.2.2.2.2.2.2
abbrev jk:Type:=bU×bW×Int×dh×ah×dq×ah×ah×du×bU×bW×eD×ah×ah×ah×Int×ah×Int×Int×ah×ah×cG×Int×ah×ah×ah×Bool×Int×Int×Int×Int×cG×eP×ah
def fj(g:aR):jk:=let a:=g.aI;let b:=a.au;let d:=a.bR;let f:=a.bM;let e:=a.aa2;let c:=a.cL;let h:=b.ao;(h.ai,h.af,b.aa0,b.aN,b.aw,b.aQ,b.cn,b.cf,b.bp,a.ao.ai,a.ao.af,a.cI,d.akL,d.dg,d.dG,d.er,f.bT,f.dZ,f.ed,a.cW.dl,a.cW.dr,a.bw.aA,a.bz.aa0,a.bz.an,e.af,e.aa2,e.Out,c.State,c.dD,c.akU,c.aa0,a.bq.aA,a.bS,g.named)
def lu(H:ck)(z:ck)(i:eK)(E:jk):aR:=let (z0,F,w,v,d,K,k,p,I,g,A,x,j,l,r,n,J,t,s,c,f,B,h,q,C,e,G,o,m,a,b,u,y,D):=E;(aR.mk (aE.mk (aB.mk (ak.mk z0 F) w v d K k p I) (ak.mk g A) x (bE.mk j l r n) (cd.mk J t s) H z (cZ.mk c f) (aL.mk B) (bQ.mk h q) (bA.mk C e G) (b7.mk o m a b) (aL.mk u) y i) D)
abbrev nH:Type:=bU×bW×Int×dh×ah×dq×ah×ah×du×bU×bW×eD×ah×ah×ah×Int×ah×Int×Int×ah×ah×cG×Int×ah×ah×ah×Bool×Int×Int×Int×Int×cG×eP×ah×Int
def jw(g:aR)(i:Int):nH:=let a:=g.aI;let b:=a.au;let d:=a.bR;let f:=a.bM;let e:=a.aa2;let c:=a.cL;let h:=b.ao;(h.ai,h.af,b.aa0,b.aN,b.aw,b.aQ,b.cn,b.cf,b.bp,a.ao.ai,a.ao.af,a.cI,d.akL,d.dg,d.dG,d.er,f.bT,f.dZ,f.ed,a.cW.dl,a.cW.dr,a.bw.aA,a.bz.aa0,a.bz.an,e.af,e.aa2,e.Out,c.State,c.dD,c.akU,c.aa0,a.bq.aA,a.bS,g.named,i)
def tP(H:ck)(z:ck)(i:eK)(E:nH):aR:=let (z0,F,w,v,d,K,k,p,I,g,A,x,j,l,r,n,J,t,s,c,f,B,h,q,C,e,G,o,m,a,b,u,y,D,_):=E;(aR.mk (aE.mk (aB.mk (ak.mk z0 F) w v d K k p I) (ak.mk g A) x (bE.mk j l r n) (cd.mk J t s) H z (cZ.mk c f) (aL.mk B) (bQ.mk h q) (bA.mk C e G) (b7.mk o m a b) (aL.mk u) y i) D)
def um(a:nH):Int:=a.2.2.2.2.2.2.2.2.2.2.2.2.2.2.2.2.2.2.2.2.2.2.2.2.2.2.2.2.2.2.2.2.2.2
abbrev xe:Type:=ah×Int×ah×Int×Int×Int
def JB(b:bD)(a:aS):xe:=(b.L,b.At,a.ai,a.dX,a.dY,a.cR)
def ajn(a:xe):bD:=(bD.mk a.1 a.2.1)
def aom(a:xe):aS:=(aS.mk a.2.2.1 a.2.2.2.1 a.2.2.2.2.1 a.2.2.2.2.2)
abbrev DN:Type:=bU×bW×dq×ah×ah×eD×ah×ah×ah×Int×ah×Int×Int×ah
def zl(a:gM):DN:=let b:=a.bR;(a.ao.ai,a.ao.af,a.aQ,a.ai,a.aw,a.cI,b.akL,b.dg,b.dG,b.er,a.bM.bT,a.bM.dZ,a.bM.ed,a.gZ)
def Nr(b:DN):gM:=let (z0,e,g,f,i,m,j,a,h,c,n,k,d,l):=b;(gM.mk (ak.mk z0 e) g f i m (bE.mk j a h c) (cd.mk n k d) l)
abbrev vL:Type:=ah×Int×Int×Int×Int×Int
def rB(b:bD)(a:bH):vL:=(b.L,b.At,a.abv,a.A,a.B,a.C)
def aba(a:vL):bD:=(bD.mk a.1 a.2.1)
def age(a:vL):bH:=(bH.mk a.2.2.1 a.2.2.2.1 a.2.2.2.2.1 a.2.2.2.2.2)
abbrev Hr:Type:=Int×bU×bW×Int×dh×ah×dq×ah×ah×du×Int
def agv(a:Hr):Int:=a.1
def alg(b:Hr):aB:=let (_,d,f,e,h,j,i,a,g,c,_):=b;(aB.mk (ak.mk d f) e h j i a g c)
def aqn(a:Hr):Int:=a.2.2.2.2.2.2.2.2.2.2
abbrev Kh:Type:=ah×bU×bW×Int×dh×ah×dq×ah×ah×du×Int
def Lm(a:Kh):yc:=a.1
def Nn(b:Kh):aB:=let (_,d,f,e,h,j,i,a,g,c,_):=b;(aB.mk (ak.mk d f) e h j i a g c)
def Mw(a:Kh):Int:=a.2.2.2.2.2.2.2.2.2.2
abbrev Ov:Type:=bC×bU×bW×Int×dh×ah×dq×ah×ah×du
def af1(a:Ov):bC:=a.1
def ak0(b:Ov):aB:=let (_,d,f,e,h,j,i,a,g,c):=b;(aB.mk (ak.mk d f) e h j i a g c)
abbrev QE:Type:=dh×bU×bW×Int×dh×ah×dq×ah×ah×du
def Mf(a:QE):List bC:=a.1
def T7(b:QE):aB:=let (_,d,f,e,h,j,i,a,g,c):=b;(aB.mk (ak.mk d f) e h j i a g c)
abbrev sY:Type:=Int×ah×Int×Int×Int×Int×Int×Int×Int×Int×ak×aL
def acS(a:sY):Int:=a.1
def aay(a:sY):aS:=(aS.mk a.2.1 a.2.2.1 a.2.2.2.1 a.2.2.2.2.1)
def afC(b:sY):dC:=let (_,_,_,_,_,e,d,a,c,_,_,_):=b;(dC.mk e d a c)
def akx(a:sY):Int:=a.2.2.2.2.2.2.2.2.2.1
def aim(a:sY):ak:=a.2.2.2.2.2.2.2.2.2.2.1
def ank(a:sY):aL:=a.2.2.2.2.2.2.2.2.2.2.2
abbrev Ju:Type:=bC×bU×bW×Int×dh×ah×dq×ah×ah×du×bU×bW×eD×ah×ah×ah×Int×ah×Int×Int×ck×ck×ah×ah×cG×Int×ah×ah×ah×Bool×Int×Int×Int×Int×cG×eP×eK×ah×Int×Int×Int×Int
def anW(a:Ju):bC:=a.1
def WC(G:Ju):aR:=let (_,H,y,x,f,M,l,r,J,i,B,z,k,m,t,o,K,v,u,d,h,C,j,s,D,g,I,q,n,a,b,w,A,E,c,F,e,p,_,_,_,_):=G;(aR.mk (aE.mk (aB.mk (ak.mk H y) x f M l r J i) (ak.mk B z) k (bE.mk m t o K) (cd.mk v u d) h C (cZ.mk j s) (aL.mk D) (bQ.mk g I) (bA.mk q n a) (b7.mk b w A E) (aL.mk c) F e) p)
def acs(a:Ju):bH:=let (_,_,_,_,_,_,_,_,_,_,_,_,_,_,_,_,_,_,_,_,_,_,_,_,_,_,_,_,_,_,_,_,_,_,_,_,_,_,b,d,e,c):=a;(bH.mk b d e c)
abbrev Gf:Type:=dh×bU×bW×Int×dh×ah×dq×ah×ah×du×bU×bW×eD×ah×ah×ah×Int×ah×Int×Int×ck×ck×ah×ah×cG×Int×ah×ah×ah×Bool×Int×Int×Int×Int×cG×eP×eK×ah×Int×Int×Int×Int
def On(a:Gf):List bC:=a.1
def Qm(G:Gf):aR:=let (_,H,y,x,f,M,l,r,J,i,B,z,k,m,t,o,K,v,u,d,h,C,j,s,D,g,I,q,n,a,b,w,A,E,c,F,e,p,_,_,_,_):=G;(aR.mk (aE.mk (aB.mk (ak.mk H y) x f M l r J i) (ak.mk B z) k (bE.mk m t o K) (cd.mk v u d) h C (cZ.mk j s) (aL.mk D) (bQ.mk g I) (bA.mk q n a) (b7.mk b w A E) (aL.mk c) F e) p)
def Px(a:Gf):bH:=let (_,_,_,_,_,_,_,_,_,_,_,_,_,_,_,_,_,_,_,_,_,_,_,_,_,_,_,_,_,_,_,_,_,_,_,_,_,_,b,d,e,c):=a;(bH.mk b d e c)
abbrev Rm:Type:=List da
abbrev EQ:Type:=cS×Int×Int×uH×n9×n9×Rm
def Wh(a:EQ):cS:=a.1
def aqq(a:EQ):Int:=a.2.1
def ZI(a:EQ):cm:=(cm.mk a.2.2.1 a.2.2.2.1 a.2.2.2.2.1 a.2.2.2.2.2.1)
def aeS(a:EQ):List da:=a.2.2.2.2.2.2
abbrev Bn:Type:=uH×Int×Int×uH×n9×n9×Rm
def afq(a:Bn):List cS:=a.1
def akl(a:Bn):Int:=a.2.1
def aic(a:Bn):cm:=(cm.mk a.2.2.1 a.2.2.2.1 a.2.2.2.2.1 a.2.2.2.2.2.1)
def am5(a:Bn):List da:=a.2.2.2.2.2.2
abbrev Fv:Type:=Int×bU×bW×ah×ah×ah×Int
def Zl(a:Fv):Int:=a.1
def Wt(a:Fv):ak:=(ak.mk a.2.1 a.2.2.1)
def ace(a:Fv):bE:=let (_,_,_,b,c,e,d):=a;(bE.mk b c e d)
abbrev Gc:Type:=ah×bU×bW×ah×ah×ah×Int
def Q5(a:Gc):yc:=a.1
def Qh(a:Gc):ak:=(ak.mk a.2.1 a.2.2.1)
def Sc(a:Gc):bE:=let (_,_,_,b,c,e,d):=a;(bE.mk b c e d)
abbrev Rj:Type:=ck×ck×eK×bU×bW×Int×dh×ah×dq×ah×ah×du×bU×bW×eD×ah×ah×ah×Int×ah×Int×Int×ah×ah×cG×Int×ah×ah×ah×Bool×Int×Int×Int×Int×cG×eP×ah×bH
def kU(F:Rj):aR:=let (z0,G,x,w,f,K,l,q,I,i,A,y,k,m,s,o,J,u,t,d,h,B,j,r,C,g,H,p,n,a,b,v,z,D,c,E,e,_):=F;(aR.mk (aE.mk (aB.mk (ak.mk w f) K l q I i A y) (ak.mk k m) s (bE.mk o J u t) (cd.mk d h B) z0 G (cZ.mk j r) (aL.mk C) (bQ.mk g H) (bA.mk p n a) (b7.mk b v z D) (aL.mk c) E x) e)
def kT(a:Rj):bH:=a.2.2.2.2.2.2.2.2.2.2.2.2.2.2.2.2.2.2.2.2.2.2.2.2.2.2.2.2.2.2.2.2.2.2.2.2.2
abbrev wz:Type:=Int×Int×Int×Int×ah×Int×Int×Int×ck×eK×bU×bW×Int×dh×ah×dq×ah×ah×du×bU×bW×eD×ah×ah×ah×Int×ah×Int×Int×ck×ah×ah×cG×Int×ah×ah×ah×Bool×Int×Int×Int×Int×cG×eP×ah×ak×aL
def aeD(a:wz):dS:=(dS.mk a.1 a.2.1 a.2.2.1 a.2.2.2.1)
def acw(a:wz):aS:=(aS.mk a.2.2.2.2.1 a.2.2.2.2.2.1 a.2.2.2.2.2.2.1 a.2.2.2.2.2.2.2.1)
def ahv(G:wz):aR:=let (_,_,_,_,_,_,_,_,J,j,C,y,m,o,u,q,K,w,v,e,i,B,k,t,D,h,I,s,p,a,c,x,z,E,d,F,f,r,b,H,A,l,M,n,g,_,_):=G;(aR.mk (aE.mk (aB.mk (ak.mk C y) m o u q K w v) (ak.mk e i) B (bE.mk k t D h) (cd.mk I s p) J a (cZ.mk c x) (aL.mk z) (bQ.mk E d) (bA.mk F f r) (b7.mk b H A l) (aL.mk M) n j) g)
def amb(a:wz):ak:=a.2.2.2.2.2.2.2.2.2.2.2.2.2.2.2.2.2.2.2.2.2.2.2.2.2.2.2.2.2.2.2.2.2.2.2.2.2.2.2.2.2.2.2.2.2.1
def aj7(a:wz):aL:=a.2.2.2.2.2.2.2.2.2.2.2.2.2.2.2.2.2.2.2.2.2.2.2.2.2.2.2.2.2.2.2.2.2.2.2.2.2.2.2.2.2.2.2.2.2.2
abbrev Kv:Type:=ck×eK×bU×bW×Int×dh×ah×dq×ah×ah×du×bU×bW×eD×ah×ah×ah×Int×ah×Int×Int×ck×ah×ah×cG×Int×ah×ah×ah×Bool×Int×Int×Int×Int×cG×eP×ah×Int×Int
def Vp(F:Kv):aR:=let (z0,G,x,w,f,K,l,q,I,i,A,y,k,m,s,o,J,u,t,d,h,B,j,r,C,g,H,p,n,a,b,v,z,D,c,E,e,_,_):=F;(aR.mk (aE.mk (aB.mk (ak.mk x w) f K l q I i A) (ak.mk y k) m (bE.mk s o J u) (cd.mk t d h) z0 B (cZ.mk j r) (aL.mk C) (bQ.mk g H) (bA.mk p n a) (b7.mk b v z D) (aL.mk c) E G) e)
def apR(a:Kv):Int:=a.2.2.2.2.2.2.2.2.2.2.2.2.2.2.2.2.2.2.2.2.2.2.2.2.2.2.2.2.2.2.2.2.2.2.2.2.2.1
def Y6(a:Kv):Int:=a.2.2.2.2.2.2.2.2.2.2.2.2.2.2.2.2.2.2.2.2.2.2.2.2.2.2.2.2.2.2.2.2.2.2.2.2.2.2
abbrev OO:Type:=ck×eK×bU×bW×Int×dh×ah×dq×ah×ah×du×bU×bW×eD×ah×ah×ah×Int×ah×Int×Int×ah×ah×cG×Int×ah×ah×ah×Bool×Int×Int×Int×Int×cG×eP×ah×ck×bH
def agZ(F:OO):aR:=let (z0,G,x,w,f,K,l,q,I,i,A,y,k,m,s,o,J,u,t,d,h,B,j,r,C,g,H,p,n,a,b,v,z,D,c,E,e,_):=F;(aR.mk (aE.mk (aB.mk (ak.mk x w) f K l q I i A) (ak.mk y k) m (bE.mk s o J u) (cd.mk t d h) z0 e (cZ.mk B j) (aL.mk r) (bQ.mk C g) (bA.mk H p n) (b7.mk a b v z) (aL.mk D) c G) E)
def aeX(a:OO):bH:=a.2.2.2.2.2.2.2.2.2.2.2.2.2.2.2.2.2.2.2.2.2.2.2.2.2.2.2.2.2.2.2.2.2.2.2.2.2
abbrev QZ:Type:=ck×ck×eK×bU×bW×Int×dh×ah×dq×ah×ah×du×bU×bW×eD×ah×ah×ah×Int×ah×Int×Int×ah×ah×cG×Int×ah×ah×ah×Bool×Int×Int×Int×Int×cG×eP×ah×Int
def ams(F:QZ):aR:=let (z0,G,x,w,f,K,l,q,I,i,A,y,k,m,s,o,J,u,t,d,h,B,j,r,C,g,H,p,n,a,b,v,z,D,c,E,e,_):=F;(aR.mk (aE.mk (aB.mk (ak.mk w f) K l q I i A y) (ak.mk k m) s (bE.mk o J u t) (cd.mk d h B) z0 G (cZ.mk j r) (aL.mk C) (bQ.mk g H) (bA.mk p n a) (b7.mk b v z D) (aL.mk c) E x) e)
def UW(a:QZ):Int:=a.2.2.2.2.2.2.2.2.2.2.2.2.2.2.2.2.2.2.2.2.2.2.2.2.2.2.2.2.2.2.2.2.2.2.2.2.2
abbrev Ti:Type:=ay×bU×bW×Int×dh×ah×dq×ah×ah×du×bU×bW×eD×ah×ah×ah×Int×ah×Int×Int×ck×ck×ah×ah×cG×Int×ah×ah×ah×Bool×Int×Int×Int×Int×cG×eP×eK
def VG(a:Ti):ay:=a.1
def abC(F:Ti):aE:=let (_,G,x,w,f,K,l,q,I,i,A,y,k,m,s,o,J,u,t,d,h,B,j,r,C,g,H,p,n,a,b,v,z,D,c,E,e):=F;(aE.mk (aB.mk (ak.mk G x) w f K l q I i) (ak.mk A y) k (bE.mk m s o J) (cd.mk u t d) h B (cZ.mk j r) (aL.mk C) (bQ.mk g H) (bA.mk p n a) (b7.mk b v z D) (aL.mk c) E e)
abbrev PN:Type:=cG×bU×bW×Int×dh×ah×dq×ah×ah×du×bU×bW×eD×ah×ah×ah×Int×ah×Int×Int×ck×ck×ah×ah×cG×Int×ah×ah×ah×Bool×Int×Int×Int×Int×cG×eP×eK
def QN(a:PN):List ay:=a.1
def P0(F:PN):aE:=let (_,G,x,w,f,K,l,q,I,i,A,y,k,m,s,o,J,u,t,d,h,B,j,r,C,g,H,p,n,a,b,v,z,D,c,E,e):=F;(aE.mk (aB.mk (ak.mk G x) w f K l q I i) (ak.mk A y) k (bE.mk m s o J) (cd.mk u t d) h B (cZ.mk j r) (aL.mk C) (bQ.mk g H) (bA.mk p n a) (b7.mk b v z D) (aL.mk c) E e)
abbrev RT:Type:=Int×bU×bW×Int×dh×ah×dq×ah×ah×du×bU×bW×eD×ah×ah×ah×Int×ah×Int×Int×ck×ck×ah×ah×cG×Int×ah×ah×ah×Bool×Int×Int×Int×Int×cG×eP×eK
def SY(a:RT):Int:=a.1
def Mx(F:RT):aE:=let (_,G,x,w,f,K,l,q,I,i,A,y,k,m,s,o,J,u,t,d,h,B,j,r,C,g,H,p,n,a,b,v,z,D,c,E,e):=F;(aE.mk (aB.mk (ak.mk G x) w f K l q I i) (ak.mk A y) k (bE.mk m s o J) (cd.mk u t d) h B (cZ.mk j r) (aL.mk C) (bQ.mk g H) (bA.mk p n a) (b7.mk b v z D) (aL.mk c) E e)
abbrev Lz:Type:=bC×bU×bW×Int×dh×ah×dq×ah×ah×du×bU×bW×eD×ah×ah×ah×Int×ah×Int×Int×ck×ck×ah×ah×cG×Int×ah×ah×ah×Bool×Int×Int×Int×Int×cG×eP×eK
def YR(a:Lz):bC:=a.1
def ad4(F:Lz):aE:=let (_,G,x,w,f,K,l,q,I,i,A,y,k,m,s,o,J,u,t,d,h,B,j,r,C,g,H,p,n,a,b,v,z,D,c,E,e):=F;(aE.mk (aB.mk (ak.mk G x) w f K l q I i) (ak.mk A y) k (bE.mk m s o J) (cd.mk u t d) h B (cZ.mk j r) (aL.mk C) (bQ.mk g H) (bA.mk p n a) (b7.mk b v z D) (aL.mk c) E e)
abbrev NY:Type:=dh×bU×bW×Int×dh×ah×dq×ah×ah×du×bU×bW×eD×ah×ah×ah×Int×ah×Int×Int×ck×ck×ah×ah×cG×Int×ah×ah×ah×Bool×Int×Int×Int×Int×cG×eP×eK
def RK(a:NY):List bC:=a.1
def QT(F:NY):aE:=let (_,G,x,w,f,K,l,q,I,i,A,y,k,m,s,o,J,u,t,d,h,B,j,r,C,g,H,p,n,a,b,v,z,D,c,E,e):=F;(aE.mk (aB.mk (ak.mk G x) w f K l q I i) (ak.mk A y) k (bE.mk m s o J) (cd.mk u t d) h B (cZ.mk j r) (aL.mk C) (bQ.mk g H) (bA.mk p n a) (b7.mk b v z D) (aL.mk c) E e)
abbrev SO:Type:=dK×bU×bW×Int×dh×ah×dq×ah×ah×du×bU×bW×eD×ah×ah×ah×Int×ah×Int×Int×ck×ck×ah×ah×cG×Int×ah×ah×ah×Bool×Int×Int×Int×Int×cG×eP×eK
def UL(a:SO):dK:=a.1
def aaD(F:SO):aE:=let (_,G,x,w,f,K,l,q,I,i,A,y,k,m,s,o,J,u,t,d,h,B,j,r,C,g,H,p,n,a,b,v,z,D,c,E,e):=F;(aE.mk (aB.mk (ak.mk G x) w f K l q I i) (ak.mk A y) k (bE.mk m s o J) (cd.mk u t d) h B (cZ.mk j r) (aL.mk C) (bQ.mk g H) (bA.mk p n a) (b7.mk b v z D) (aL.mk c) E e)
abbrev MC:Type:=eK×bU×bW×Int×dh×ah×dq×ah×ah×du×bU×bW×eD×ah×ah×ah×Int×ah×Int×Int×ck×ck×ah×ah×cG×Int×ah×ah×ah×Bool×Int×Int×Int×Int×cG×eP×eK
def NM(a:MC):List dK:=a.1
def PH(F:MC):aE:=let (_,G,x,w,f,K,l,q,I,i,A,y,k,m,s,o,J,u,t,d,h,B,j,r,C,g,H,p,n,a,b,v,z,D,c,E,e):=F;(aE.mk (aB.mk (ak.mk G x) w f K l q I i) (ak.mk A y) k (bE.mk m s o J) (cd.mk u t d) h B (cZ.mk j r) (aL.mk C) (bQ.mk g H) (bA.mk p n a) (b7.mk b v z D) (aL.mk c) E e)
def I1(L:Lp)(a:yc):Option Bool:=c6 (c5 ((a.length:Int)<=400))
def yQ(L:Lp)(a:bI)(c:Int)(b:Int):Option Bool:=bif c5 (c<=a.eF) then bif c5 (a.eF<=a.fk) then c6 (c5 (a.fk<=b)) else c6 false else c6 false
def yL(L:Lp)(c:ak)(a:Int):Option (Int⊕(Unit⊕Unit)):=bif c5 (a<(c.ai.length:Int)) then(aj c.ai a).bind λb=>(bif c5 (b.eU<(-10000)) then c6 true else c6 (c5 (10000<b.eU))).bind λd=>bif d then c6 (c7 (dd ())) else c6 (dd (c3 c4 (a+1))) else c6 (c7 (c7 ()))
def vX(b:ak)(c:Int):Option (Int⊕(Int⊕Unit)):=bif c5 (c<(b.af.length:Int)) then(aj b.af c).bind λa=>(bif c5 (a.an<0) then c6 true else bif c5 ((b.ai.length:Int)<=a.an) then c6 true else bif c5 (a.To<0) then c6 true else bif c5 ((b.ai.length:Int)<=a.To) then c6 true else c6 (c5 (a.an=a.To))).bind λh=>bif h then c6 (c7 (dd 4)) else(bif c5 (a.aj3<1) then c6 true else bif c5 (100000<a.aj3) then c6 true else bif c5 (a.bT<1) then c6 true else c6 (c5 (1000<a.bT))).bind λe=>bif e then c6 (c7 (dd 1)) else((yQ L a.anC 1 262144).bind λg=>bif (!g) then c6 true else(yQ L a.eI (-2199023255552) 2199023255552).bind λf=>c6 (!f):Option Bool).bind λd=>bif d then c6 (c7 (dd 1)) else c6 (dd (c3 c4 (c+1))) else c6 (c7 (c7 ()))
def zG(a:ak):Option Int:=(bif c5 (64<(a.ai.length:Int)) then c6 true else c6 (c5 (128<(a.af.length:Int)))).bind λd=>bif d then c6 2 else(L.loop (λb=>yL L a b) 0).bind λc=>dt (λg=>c6 1) (λi=>(L.loop (λb=>vX L a b) 0).bind λf=>dt (λe=>c6 e) (λh=>c6 0) f) c
def ij(b:ak):Option Bool:=(zG L b).bind λa=>c6 (c5 (a=0))
def wx(L:Lp)(b:yc)(f:Int)(e:Int)(a:Int):Option (Int⊕(Unit⊕Unit)):=bif c5 (a<(b.length:Int)) then(aj b a).bind λc=>(bif c5 (c<f) then c6 true else bif c5 (e<c) then c6 true else bif c5 (0<a) then(aj b (c3 c4 (a -1))).bind λg=>c6 (c5 (c<=g)) else c6 false).bind λd=>bif d then c6 (c7 (dd ())) else c6 (dd (c3 c4 (a+1))) else c6 (c7 (c7 ()))
def iU(b:yc)(d:Int)(c:Int):Option Bool:=(L.loop (λe=>wx L b d c e) 0).bind λa=>dt (λg=>c6 false) (λf=>c6 true) a
def cp(L:Lp)(a:Int)(c:Int)(b:Int):Option Bool:=bif c5 (c<=a) then c6 (c5 (a<=b)) else c6 false
def wN(a:aS)(f:ak):Option Bool:=bif c5 ((a.ai.length:Int)=0) then c6 true else(iU L a.ai 0 (c3 c4 ((f.ai.length:Int) -1))).bind λd=>bif (!d) then c6 true else(cp L a.dX 1 600).bind λe=>bif (!e) then c6 true else(cp L a.dY 0 10).bind λb=>bif (!b) then c6 true else(cp L a.cR 0 60).bind λc=>c6 (!c)
def Ha(b:List aS)(d:ak)(c:Int):Option (Int⊕(Int⊕Unit)):=wi b (λa=>wN L a d) c
def Fh(a:List aS)(b:ak):Option Int:=(L.loop (λe=>Ha L a b e) 0).bind λd=>dt (λc=>c6 c) (λf=>c6 (-1)) d
def El(b:List aS)(c:ak):Option Bool:=(Fh L b c).bind λa=>c6 (c5 (0<=a))
def wI(a:ak)(b:List aS):Option Bool:=(ij L a).bind λc=>bif c then bif c5 ((b.length:Int)<=32) then(El L b a).bind λd=>c6 (!d) else c6 false else c6 false
def Ci(b:Int)(c:ak):Option Bool:=(cp L b 0 (c3 c4 ((c.ai.length:Int) -1))).bind λa=>c6 (!a)
def KM(b:yc)(d:ak)(c:Int):Option (Int⊕(Int⊕Unit)):=wi b (λa=>Ci L a d) c
def KC(a:yc)(b:ak):Option Int:=(L.loop (λe=>KM L a b e) 0).bind λd=>dt (λc=>c6 c) (λf=>c6 (-1)) d
def Cg(b:yc)(c:ak):Option Bool:=(KC L b c).bind λa=>c6 (c5 (0<=a))
def qK(L:Lp)(a:yc):Option yc:=c6 a
def rl(L:Lp)(a:yc):Option yc:=rC a
def IA(L:Lp)(a:yc):Option yc:=bj 8 [] a
def Kx(b:yc):Option yc:=(IA L b).bind λa=>c6 a
def rG(c:yc):Option yc:=(Kx L c).bind λa=>(rl L a).bind λb=>c6 b
def ym(c:yc):Option Bool:=(qK L c).bind λd=>(rG L d).bind λb=>(iU L b 1 65535).bind λa=>c6 a
def kF(L:Lp)(a:List bP):Option (List bP):=bj 16 [] a
def kQ(L:Lp)(a:List aZ):Option (List aZ):=bj 72 [] a
def rf(L:Lp)(a:List bC):Option (List bC):=bj 24 [] a
def cc(L:Lp)(a:yc):Option yc:=bj 8 [] a
def ue(c:aB)(b:aB)(a:Int):Option (Y9⊕Y3):=bif c5 (a<(c.aQ.length:Int)) then(aj c.aQ a).bind λd=>(cc L d.ai).bind λe=>(bj 48 b.aQ ([({d with ai:=e}:aS)]:List aS)).bind λf=>c6 (dd (u9 ({b with aQ:=f}:aB) (c3 c4 (a+1)))) else c6 (c7 (u3 b))
def tG(c:aB)(b:aB)(a:Int):Option (Y1⊕Y3):=bif c5 (a<(c.bp.length:Int)) then(aj c.bp a).bind λf=>(cc L f).bind λe=>(bj 24 b.bp ([e]:List (yc))).bind λd=>c6 (dd (u1 ({b with bp:=d}:aB) (c3 c4 (a+1)))) else c6 (c7 (u3 b))
def yS(a:aB):Option aB:=(kF L a.ao.ai).bind λc=>(kQ L a.ao.af).bind λl=>(rf L a.aN).bind λi=>(cc L a.aw).bind λj=>(L.loop (λb=>ue L a (Oe b) (Nk b)) (u9 ({a with ao:=(ak.mk c l),aN:=i,aw:=j,aQ:=([]:List aS)}:aB) 0)).bind λd=>let e:=wZ d;(cc L a.cn).bind λf=>(cc L a.cf).bind λh=>(L.loop (λb=>tG L a (CU b) (Eg b)) (u1 ({e with cn:=f,cf:=h,bp:=([]:List (yc))}:aB) 0)).bind λk=>let g:=wZ k;c6 g
def tX(L:Lp)(c:yc)(b:aB)(a:Int):Option (Y8⊕Y3):=bif c5 (a<(c.length:Int)) then(aj c a).bind λe=>(bj 24 b.aN ([(bC.mk e (-1) 0)]:List bC)).bind λd=>c6 (dd (u8 ({b with aN:=d}:aB) (c3 c4 (a+1)))) else c6 (c7 (u3 b))
def sH(L:Lp)(e:List aS)(d:yc)(a:aB)(b:Int):Option (Y1⊕Y3):=bif c5 (b<(e.length:Int)) then(bj 8 a.cn ([(-1)]:yc)).bind λh=>(bj 8 a.cf ([(-1)]:yc)).bind λg=>(gP 8 0 (d.length:Int)).bind λf=>(bj 24 a.bp ([f]:List (yc))).bind λc=>c6 (dd (u1 ({a with cn:=h,cf:=g,bp:=c}:aB) (c3 c4 (b+1)))) else c6 (c7 (u3 a))
def Ef(d:ak)(e:List aS)(a:yc)(c:yc)(f:Int):Option (aB×Int):=((wI L d e).bind λo=>bif (!o) then c6 true else bif c5 ((c.length:Int)≠(a.length:Int)) then c6 true else(cp L (a.length:Int) 1 12).bind λn=>c6 (!n):Option Bool).bind λq=>bif q then c6 ((aB.mk (ak.mk ([]:List bP) ([]:List aZ)) 0 ([]:List bC) ([]:yc) ([]:List aS) ([]:yc) ([]:yc) ([]:List (yc))),6) else(Cg L a d).bind λp=>bif p then c6 ((aB.mk (ak.mk ([]:List bP) ([]:List aZ)) 0 ([]:List bC) ([]:yc) ([]:List aS) ([]:yc) ([]:yc) ([]:List (yc))),3) else(ym L c).bind λg=>bif (!g) then c6 ((aB.mk (ak.mk ([]:List bP) ([]:List aZ)) 0 ([]:List bC) ([]:yc) ([]:List aS) ([]:yc) ([]:yc) ([]:List (yc))),41) else(cp L f 0 2147483648).bind λi=>bif (!i) then c6 ((aB.mk (ak.mk ([]:List bP) ([]:List aZ)) 0 ([]:List bC) ([]:yc) ([]:List aS) ([]:yc) ([]:yc) ([]:List (yc))),8) else(L.loop (λb=>tX L a (L6 b) (T0 b)) (u8 (aB.mk d f ([]:List bC) c e ([]:yc) ([]:yc) ([]:List (yc))) 0)).bind λj=>let l:=wZ j;((L.loop (λb=>sH L e a (CU b) (Eg b)) (u1 l 0)).bind λr=>let s:=wZ r;c6 (u3 s):Option Y3).bind λm=>let k:=wZ m;(yS L k).bind λh=>c6 (h,0)
def EP(L:Lp)(a:bI):Option Bool:=bif c5 (a.eF<(-1125899906842624)) then c6 true else bif c5 (1125899906842624<a.fk) then c6 true else c6 (c5 (a.fk<a.eF))
def Kz(b:List bI)(c:Int):Option (Int⊕(Int⊕Unit)):=wi b (λa=>EP L a) c
def Kq(a:List bI):Option Int:=(L.loop (λd=>Kz L a d) 0).bind λc=>dt (λb=>c6 b) (λe=>c6 (-1)) c
def B8(b:List bI):Option Bool:=(Kq L b).bind λa=>c6 (c5 (0<=a))
def pD(a:ak)(b:List bI):Option Bool:=(ij L a).bind λc=>bif c then bif c5 ((b.length:Int)=(a.af.length:Int)) then(B8 L b).bind λd=>c6 (!d) else c6 false else c6 false
def vk(L:Lp)(b:Int)(a:Int):Option (Int×Int):=(iN .u64 b 32).bind λc=>(iN .u64 a 32).bind λe=>(iN .u64 (dv.wrap ((bits .and .u64 b 4294967295)*(bits .and .u64 a 4294967295))) 32).bind λd=>(iN .u64 (dv.wrap ((dv.wrap (c*(bits .and .u64 a 4294967295)))+d)) 32).bind λg=>(iN .u64 (dv.wrap ((bits .and .u64 (dv.wrap ((dv.wrap (c*(bits .and .u64 a 4294967295)))+d)) 4294967295)+(dv.wrap ((bits .and .u64 b 4294967295)*e)))) 32).bind λf=>c6 (dv.wrap ((dv.wrap ((dv.wrap (c*e))+g))+f),dv.wrap (b*a))
def DJ(b:Int)(c:Int):Option (Int×Int):=(vk L b c).bind λa=>c6 (a.1,a.2)
def pZ(L:Lp)(a:yc)(b:Int):Option (((yc)×Int)⊕(yc)):=bif c5 (b<(a.length:Int)) then(eG a b (a.length:Int)).bind λ_=>(eG a 0 b).bind λ_=>c6 (dd (mg ((a.drop ((0:Int).toNat)).take (b.toNat - (0:Int).toNat)) (b.toNat) (((a.length:Int)).toNat -b.toNat) a,c3 c4 (b+((min (((a.length:Int)).toNat -b.toNat) ((a.drop ((0:Int).toNat)).take (b.toNat - (0:Int).toNat)).length:Nat):Int)))) else c6 (c7 a)
def EC(c:yc)(d:Int):Option yc:=bif c5 (d<0) then e0 else(DJ L (dv.wrap (c.length:Int)) (dv.wrap d)).bind λb=>(bif c5 (0<b.1) then c6 true else c6 (c5 (9223372036854775807<b.2))).bind λg=>bif g then e0 else(gP 8 0 (c3 c4 b.2)).bind λa=>(L.loop (λe=>pZ L e.1 e.2) (mg c 0 (a.length) a,((min (a.length) c.length:Nat):Int))).bind λf=>c6 f
def afR(L:Lp)(a:yc)(b:Int):Option (((yc)×Int)⊕(yc)):=bif c5 (b<(a.length:Int)) then(eG a b (a.length:Int)).bind λ_=>(eG a 0 b).bind λ_=>c6 (dd (mg ((a.drop ((0:Int).toNat)).take (b.toNat - (0:Int).toNat)) (b.toNat) (((a.length:Int)).toNat -b.toNat) a,c3 c4 (b+((min (((a.length:Int)).toNat -b.toNat) ((a.drop ((0:Int).toNat)).take (b.toNat - (0:Int).toNat)).length:Nat):Int)))) else c6 (c7 a)
def sJ(c:yc)(d:Int):Option yc:=bif c5 (d<0) then e0 else(DJ L (dv.wrap (c.length:Int)) (dv.wrap d)).bind λb=>(bif c5 (0<b.1) then c6 true else c6 (c5 (9223372036854775807<b.2))).bind λg=>bif g then e0 else(gP 8 0 (c3 c4 b.2)).bind λa=>(L.loop (λe=>afR L e.1 e.2) (mg c 0 (a.length) a,((min (a.length) c.length:Nat):Int))).bind λf=>c6 f
def n6(L:Lp)(f:ak)(c:Int)(a:bI)(h:Bool):Option Int:=(bif c5 (c<0) then c6 true else bif c5 ((f.af.length:Int)<=c) then c6 true else(aj f.af c).bind λk=>c6 k.eN).bind λj=>bif j then c6 (-1) else(aj f.af c).bind λb=>(bif h then c6 (c3 c4 (0 -a.fk),c3 c4 (0 -a.eF)) else c6 (a.eF,a.fk)).bind λe=>(bif c5 ((c3 c4 ((-500)*b.bT))<e.2) then c6 b.aj3 else c6 (-1)).bind λd=>bif c5 (0<e.2) then(ph .i64 (c3 c4 ((c3 c4 (b.aj3*b.bT))*1000)) e.2).bind λg=>(bif c5 (d<0) then c6 true else c6 (c5 (g<d))).bind λi=>bif i then c6 g else c6 d else c6 d
def yr(a:yc)(k:List bP)(i:List aZ)(f:List bI)(e:Int)(b:Int)(c:Int)(n:Bool):Option ((yc)×Bool):=(aj f e).bind λh=>(n6 L (ak.mk k i) e h n).bind λd=>(bif c5 (d<0) then c6 true else(aj a b).bind λ_=>(a[b.toNat]?).bind λp=>bif c5 (2147483648<p) then c6 true else(aj a b).bind λ_=>(a[b.toNat]?).bind λl=>bif c5 (2147483648<(c3 c4 (l+d))) then c6 true else(aj a b).bind λ_=>(a[b.toNat]?).bind λg=>(aj a c).bind λ_=>(a[c.toNat]?).bind λm=>c6 (c5 (m<=(c3 c4 (g+d))))).bind λo=>bif o then c6 (a,false) else(aj a b).bind λ_=>(a[b.toNat]?).bind λj=>(aj a c).bind λ_=>(a[c.toNat]?).bind λ_=>c6 (a.set (c.toNat) (c3 c4 (j+d)),true)
def I6(c:List aZ)(g:List bP)(d:List bI)(e:yc)(h:Bool)(a:Int):Option (((yc)×Bool×Int)⊕((yc)×Bool)):=bif c5 (a<(c.length:Int)) then(aj c a).bind λb=>(yr L e g c d a b.an b.To false).bind λi=>(yr L i.1 g c d a b.To b.an true).bind λf=>(bif h then c6 true else bif i.2 then c6 true else c6 f.2).bind λj=>c6 (dd (f.1,j,c3 c4 (a+1))) else c6 (c7 (e,h))
def Ms(e:List aZ)(f:List bP)(d:List bI)(b:yc)(g:Bool):Option (((yc)×Bool)⊕(yc)):=bif g then(L.loop (λa=>I6 L e f d a.1 a.2.1 a.2.2) (b,false,0)).bind λc=>c6 (dd (c.1,c.2)) else c6 (c7 b)
def rM(e:yc)(f:List bP)(d:List aZ)(b:List bI):Option yc:=(L.loop (λa=>Ms L d f b a.1 a.2) (e,true)).bind λc=>c6 c
def Fg(L:Lp)(d:yc)(e:Int)(a:yc)(c:Int):Option (((yc)×Int)⊕(yc)):=bif c5 (c<(d.length:Int)) then(aj d c).bind λb=>(aj a b).bind λ_=>(a[b.toNat]?).bind λ_=>c6 (dd (a.set (b.toNat) e,c3 c4 (c+1))) else c6 (c7 a)
def Eh(a:ak)(d:List bI)(c:yc)(b:Int):Option (bQ×Int):=(pD L a d).bind λk=>bif (!k) then c6 ((bQ.mk 0 ([]:yc)),6) else(iU L c 0 (c3 c4 ((a.ai.length:Int) -1))).bind λh=>bif (!h) then c6 ((bQ.mk 0 ([]:yc)),3) else(cp L b 0 2147483648).bind λi=>bif (!i) then c6 ((bQ.mk 0 ([]:yc)),8) else(sJ L ([1099511627776]:yc) (a.ai.length:Int)).bind λj=>(L.loop (λe=>Fg L c b e.1 e.2) (j,0)).bind λg=>(rM L g a.ai a.af d).bind λf=>c6 ((bQ.mk b f),0)
def rP(a:ak)(b:bE):Option Bool:=(ij L a).bind λc=>bif c then(iU L b.akL 0 (c3 c4 ((a.ai.length:Int) -1))).bind λe=>bif e then(iU L b.dg 0 (c3 c4 ((a.ai.length:Int) -1))).bind λd=>bif d then(iU L b.dG 0 (c3 c4 ((a.af.length:Int) -1))).bind λf=>bif f then(cp L b.er 0 2147483648).bind λg=>c6 g else c6 false else c6 false else c6 false else c6 false
def oT(b:cd)(a:b7):Option Bool:=(bif c5 ((b.bT.length:Int)=0) then c6 true else(iU L b.bT 0 63).bind λg=>bif (!g) then c6 true else(cp L b.dZ 1 100000).bind λi=>bif (!i) then c6 true else(cp L b.ed 1 100000).bind λf=>bif (!f) then c6 true else(cp L a.aa0 0 2147483648).bind λd=>c6 (!d)).bind λe=>bif e then c6 false else bif c5 (a.State=0) then c6 ((a.State==0)&&((a.dD==0)&&((a.akU==0)&&((a.aa0==0)&&true)))) else bif c5 (a.State=1) then bif c5 (0<a.dD) then c6 (c5 (a.akU=0)) else c6 false else(bif c5 (a.State=2) then c6 (c5 (a.State=2)) else(bif c5 (a.State=3) then c6 (c5 (a.State=3)) else c6 (c5 (a.State=4))).bind λh=>c6 h).bind λc=>bif c then bif c5 (0<a.dD) then bif c5 (0<a.akU) then c6 (c5 (a.dD≠a.akU)) else c6 false else c6 false else c6 false
def zm(b:Int)(c:ak):Option Bool:=(cp L b 0 (c3 c4 ((c.af.length:Int) -1))).bind λa=>c6 (!a)
def Za(b:yc)(d:ak)(c:Int):Option (Int⊕(Int⊕Unit)):=wi b (λa=>zm L a d) c
def Ak(a:yc)(b:ak):Option Int:=(L.loop (λe=>Za L a b e) 0).bind λd=>dt (λc=>c6 c) (λf=>c6 (-1)) d
def zi(b:yc)(c:ak):Option Bool:=(Ak L b c).bind λa=>c6 (c5 (0<=a))
def xa(a:yc):Option Bool:=(cp L (a.length:Int) 1 12).bind λb=>bif b then(iU L a 0 127).bind λc=>c6 c else c6 false
def AQ(a:yc):Option (bA×Int):=(xa L a).bind λb=>bif (!b) then c6 ((bA.mk ([]:yc) ([]:yc) false),6) else(cc L a).bind λd=>(gP 8 0 (a.length:Int)).bind λc=>c6 ((bA.mk d c false),0)
def AI(c:yc):Option Bool:=(qK L c).bind λd=>(rG L d).bind λb=>(iU L b 1 65535).bind λa=>c6 a
def yF(b:ak):Option yc:=(sJ L ([1099511627776]:yc) (b.ai.length:Int)).bind λa=>c6 a
def G5(L:Lp):Option kD:=c6 (kD.mk 6 9 12)
def xu(L:Lp)(c:ak)(j:Int)(i:Bool)(b:kD):Option Int:=(aj c.af j).bind λa=>(bif a.eN then c6 true else c6 (!a.jy)).bind λl=>bif l then c6 (-1) else(aj c.ai a.To).bind λd=>(aj c.ai a.an).bind λf=>(bif i then c6 (c3 c4 (0 - (c3 c4 (d.eU -f.eU)))) else c6 (c3 c4 (d.eU -f.eU))).bind λg=>(bif c5 (a.aj3<(c3 c4 (10*g))) then c6 b.up else(bif c5 (a.aj3<(c3 c4 ((-10)*g))) then c6 b.down else c6 b.level).bind λh=>c6 h).bind λe=>(ph .i64 (c3 c4 ((c3 c4 ((c3 c4 (10*a.aj3))+e)) -1)) e).bind λk=>c6 k
def FX(c:ak)(e:Int)(d:Bool):Option Int:=(G5 L).bind λa=>(xu L c e d a).bind λb=>c6 b
def rO(a:ak)(b:Int)(d:Bool):Option Int:=((ij L a).bind λc=>bif (!c) then c6 true else bif c5 (b<0) then c6 true else c6 (c5 ((a.af.length:Int)<=b)):Option Bool).bind λf=>bif f then c6 (-1) else(FX L a b d).bind λe=>c6 e
def KJ(L:Lp)(a:Int):Option Unit:=c6 ()
def CB(b:yc)(f:Bool)(g:Int)(a:Int)(c:Int)(d:Int):Option ((yc)×Bool):=(bif c5 ((max c d)<=2147483648) then(aj b a).bind λ_=>(b[a.toNat]?).bind λe=>bif c5 ((max c d)<e) then(KJ L a).bind λh=>c6 true else c6 false else c6 false).bind λjA=>bif jA then(aj b a).bind λ_=>(b[a.toNat]?).bind λ_=>c6 (b.set (a.toNat) (max c d),true) else c6 (b,f)
def th(c:aZ)(m:ak)(l:Int)(k:Int)(a:yc)(d:Bool)(e:Int):Option (((yc)×Bool×Int)⊕((yc)×Bool)):=bif c5 (e<2) then(aj [false,true] e).bind λi=>(bif i then c6 (c.To,c.an) else c6 (c.an,c.To)).bind λb=>(rO L m l i).bind λf=>(bif c5 (0<=f) then(aj a b.1).bind λ_=>(a[b.1.toNat]?).bind λn=>c6 (c5 (n<1099511627776)) else c6 false).bind λj=>(bif j then(aj a b.1).bind λ_=>(a[b.1.toNat]?).bind λo=>(CB L a d b.1 b.2 (c3 c4 (o+f)) k).bind λh=>c6 (h.1,h.2) else c6 (a,d)).bind λg=>c6 (dd (g.1,g.2,c3 c4 (e+1))) else c6 (c7 (a,d))
def vN(b:ak)(g:Int)(e:yc)(d:Bool)(a:Int):Option (((yc)×Bool×Int)⊕((yc)×Bool)):=bif c5 (a<(b.af.length:Int)) then(aj b.af a).bind λh=>(L.loop (λc=>th L h b a g c.1 c.2.1 c.2.2) (e,d,0)).bind λf=>c6 (dd (f.1,f.2,c3 c4 (a+1))) else c6 (c7 (e,d))
def yf(e:yc)(f:Bool)(d:ak)(c:Int):Option ((yc)×Bool):=(L.loop (λa=>vN L d c a.1 a.2.1 a.2.2) (e,f,0)).bind λb=>c6 (b.1,b.2)
def Gt(d:ak)(e:Int)(a:yc)(c:Bool):Option (((yc)×Bool)⊕(yc)):=bif c then(yf L a false d e).bind λb=>c6 (dd (b.1,b.2)) else c6 (c7 a)
def ze(c:ak)(d:yc)(b:Int):Option yc:=(cc L d).bind λf=>(L.loop (λa=>Gt L c b a.1 a.2) (f,true)).bind λe=>c6 e
def adr(d:ak)(e:Int)(a:yc)(c:Bool):Option (((yc)×Bool)⊕(yc)):=bif c then(yf L a false d e).bind λb=>c6 (dd (b.1,b.2)) else c6 (c7 a)
def sI(c:ak)(d:yc)(b:Int):Option yc:=(cc L d).bind λf=>(L.loop (λa=>adr L c b a.1 a.2) (f,true)).bind λe=>c6 e
def Cr(a:ak)(c:Int)(b:Int):Option (aM×Int):=(ij L a).bind λf=>bif (!f) then c6 ((aM.mk 0 ([]:yc)),6) else(cp L c 0 (c3 c4 ((a.ai.length:Int) -1))).bind λh=>bif (!h) then c6 ((aM.mk 0 ([]:yc)),3) else(cp L b 0 2147483648).bind λe=>bif (!e) then c6 ((aM.mk 0 ([]:yc)),8) else(yF L a).bind λd=>(aj d c).bind λ_=>(d[c.toNat]?).bind λ_=>(sI L a (d.set (c.toNat) b) b).bind λg=>c6 ((aM.mk b g),0)
def HP(d:yc)(f:ak)(e:Int)(a:ay)(b:Int):Option (((yc)×(List aM)×Int)⊕(((List ay)×Int)⊕((yc)×(List aM)))):=bif c5 (b<(d.length:Int)) then(aj d b).bind λg=>(Cr L f g e).bind λc=>bif c5 (c.2≠0) then c6 (c7 (dd (([]:List ay),c.2))) else(bj 32 a.aH ([c.1]:List aM)).bind λh=>c6 (dd (a.aw,h,c3 c4 (b+1))) else c6 (c7 (c7 (a.aw,a.aH)))
def Bk(d:ak)(a:yc)(e:yc)(i:Int):Option (aL×Int):=((ij L d).bind λj=>bif (!j) then c6 true else bif c5 ((a.length:Int)≠(e.length:Int)) then c6 true else(cp L (a.length:Int) 1 12).bind λh=>c6 (!h):Option Bool).bind λl=>bif l then c6 ((aL.mk ([]:List ay)),6) else(AI L a).bind λg=>bif (!g) then c6 ((aL.mk ([]:List ay)),41) else(cc L a).bind λm=>(L.loop (λb=>HP L e d i (ay.mk b.1 b.2.1) b.2.2) (m,([]:List aM),0)).bind λk=>dt (λc=>c6 ((aL.mk c.1),c.2)) (λf=>c6 ((aL.mk ([(ay.mk f.1 f.2)]:List ay)),0)) k
def DL:Option cZ:=(EC L ([(-1)]:yc) 32).bind λa=>(gP 8 0 32).bind λb=>c6 (cZ.mk a b)
def Ao(b:Int)(d:aB)(c:Int):Option Bool:=(aj d.aQ c).bind λe=>(cp L b 0 e.dY).bind λa=>c6 (!a)
def Kl(b:yc)(e:aB)(c:Int)(d:Int):Option (Int⊕(Int⊕Unit)):=wi b (λa=>Ao L a e c) d
def Iq(a:yc)(c:aB)(b:Int):Option Int:=(L.loop (λf=>Kl L a c b f) 0).bind λe=>dt (λd=>c6 d) (λg=>c6 (-1)) e
def BW(b:yc)(d:aB)(c:Int):Option Bool:=(Iq L b d c).bind λa=>c6 (c5 (0<=a))
def yM(a:ak)(b:Int)(c:Int):Option Int:=(cp L b 0 (c3 c4 ((a.af.length:Int) -1))).bind λg=>bif (!g) then c6 (-1) else(aj a.af b).bind λh=>bif c5 (c=h.an) then(rO L a b false).bind λf=>c6 f else(aj a.af b).bind λe=>bif c5 (c=e.To) then(rO L a b true).bind λd=>c6 d else c6 (-1)
def BS(b:ak)(a:bC):Option Bool:=(cp L a.abG 0 (c3 c4 ((b.ai.length:Int) -1))).bind λd=>bif (!d) then c6 false else bif c5 (a.akw=(-1)) then c6 (c5 (a.ami=0)) else(yM L b a.akw a.abG).bind λc=>bif c5 (0<=c) then(cp L a.ami 1 2147483648).bind λe=>c6 e else c6 false
def DB(b:bC)(c:aB):Option Bool:=(BS L c.ao b).bind λa=>c6 (!a)
def Gl(b:List bC)(d:aB)(c:Int):Option (Int⊕(Int⊕Unit)):=wi b (λa=>DB L a d) c
def Gd(a:List bC)(b:aB):Option Int:=(L.loop (λe=>Gl L a b e) 0).bind λd=>dt (λc=>c6 c) (λf=>c6 (-1)) d
def zH(b:List bC)(c:aB):Option Bool:=(Gd L b c).bind λa=>c6 (c5 (0<=a))
def xm(a:aB)(b:Int):Option (Int⊕(Unit⊕Unit)):=bif c5 (b<(a.aQ.length:Int)) then((aj a.cn b).bind λh=>(cp L h (-1) 65535).bind λg=>bif (!g) then c6 true else(aj a.cf b).bind λf=>(cp L f (-1) a.aa0).bind λl=>bif (!l) then c6 true else(aj a.cn b).bind λi=>(aj a.cf b).bind λj=>bif ((c5 (i=(-1))) != (c5 (j=(-1)))) then c6 true else(aj a.bp b).bind λc=>c6 (c5 ((c.length:Int)≠(a.aN.length:Int))):Option Bool).bind λk=>bif k then c6 (c7 (dd ())) else(aj a.bp b).bind λe=>(BW L e a b).bind λd=>bif d then c6 (c7 (dd ())) else c6 (dd (c3 c4 (b+1))) else c6 (c7 (c7 ()))
def pV(a:aB):Option Bool:=((wI L a.ao a.aQ).bind λd=>bif (!d) then c6 true else(cp L (a.aN.length:Int) 1 12).bind λe=>bif (!e) then c6 true else bif c5 ((a.aw.length:Int)≠(a.aN.length:Int)) then c6 true else(ym L a.aw).bind λc=>bif (!c) then c6 true else(cp L a.aa0 0 2147483648).bind λi=>bif (!i) then c6 true else bif c5 ((a.cn.length:Int)≠(a.aQ.length:Int)) then c6 true else bif c5 ((a.cf.length:Int)≠(a.aQ.length:Int)) then c6 true else c6 (c5 ((a.bp.length:Int)≠(a.aQ.length:Int))):Option Bool).bind λb=>bif b then c6 false else(L.loop (λh=>xm L a h) 0).bind λg=>dt (λk=>c6 false) (λj=>(zH L a.aN a).bind λf=>c6 (!f)) g
def CX(L:Lp)(d:ak)(b:Int)(c:Int):Option Int:=(bif c5 (b<0) then c6 true else c6 (c5 ((d.af.length:Int)<=b))).bind λe=>bif e then c6 (-1) else(aj d.af b).bind λa=>bif c5 (c=a.an) then c6 a.To else bif c5 (c=a.To) then c6 a.an else c6 (-1)
def sK(c:aB)(b:aB)(a:Int):Option (Bf⊕CN):=bif c5 (a<(c.aQ.length:Int)) then(aj c.aQ a).bind λd=>(cc L d.ai).bind λe=>(bj 48 b.aQ ([({d with ai:=e}:aS)]:List aS)).bind λf=>c6 (dd (Ga ({b with aQ:=f}:aB) (c3 c4 (a+1)))) else c6 (c7 (DY b))
def vc(c:aB)(b:aB)(a:Int):Option (EM⊕CN):=bif c5 (a<(c.bp.length:Int)) then(aj c.bp a).bind λf=>(cc L f).bind λe=>(bj 24 b.bp ([e]:List (yc))).bind λd=>c6 (dd (J4 ({b with bp:=d}:aB) (c3 c4 (a+1)))) else c6 (c7 (DY b))
def yC(a:aB):Option F4:=(kF L a.ao.ai).bind λd=>(kQ L a.ao.af).bind λl=>(rf L a.aN).bind λb=>(cc L a.aw).bind λj=>(L.loop (λc=>sK L a (Pa b c) (Oj c)) (Ga ({a with ao:=(ak.mk d l),aN:=b,aw:=j,aQ:=([]:List aS)}:aB) 0)).bind λe=>let f:=Rg b e;(cc L a.cn).bind λg=>(cc L a.cf).bind λi=>(L.loop (λc=>vc L a (LU b c) (Tv c)) (J4 ({f with cn:=g,cf:=i,bp:=([]:List (yc))}:aB) 0)).bind λk=>let h:=Rg b k;c6 (B7 h)
def vz(g:aB)(e:Int)(f:aB)(b:List bC)(c:Int):Option (((List bC)×Int)⊕(List bC)):=bif c5 (c<(g.aN.length:Int)) then((aj b c).bind λ_=>(b[c.toNat]?).bind λa=>bif c5 (a.akw<0) then c6 b else(bif c5 ((c3 c4 (a.ami -e))<=0) then(CX L f.ao a.akw a.abG).bind λh=>c6 (h,(-1),0) else c6 (a.abG,a.akw,c3 c4 (a.ami -e))).bind λd=>(aj b c).bind λ_=>(b[c.toNat]?).bind λ_=>c6 (b.set (c.toNat) (bC.mk d.1 d.2.1 d.2.2)):Option (List bC)).bind λi=>c6 (dd (i,c3 c4 (c+1))) else c6 (c7 b)
def qp(a:aB)(c:Int):Option (aB×Int):=(pV L a).bind λg=>bif (!g) then c6 (a,6) else(cp L c 0 3600).bind λh=>bif (!h) then c6 (a,1) else bif c5 (2147483648<(c3 c4 (a.aa0+c))) then c6 (a,8) else(yC L a).bind λe=>let b:=Bi e;(L.loop (λd=>vz L b c a d.1 d.2) (b.aN,0)).bind λf=>c6 (({b with aa0:=c3 c4 (b.aa0+c),aN:=f}:aB),0)
def q9(L:Lp)(a:List bI):Option (List bI):=bj 16 [] a
def tV(c:List aT)(b:List aT)(a:Int):Option (((List aT)×Int)⊕(List aT)):=bif c5 (a<(c.length:Int)) then(aj c a).bind λd=>(cc L d.aw).bind λe=>(bj 48 b ([({d with aw:=e}:aT)]:List aT)).bind λf=>c6 (dd (f,c3 c4 (a+1))) else c6 (c7 b)
def ry(b:List aT):Option (List aT):=(L.loop (λa=>tV L b a.1 a.2) (([]:List aT),0)).bind λc=>c6 c
def r9(d:ay)(a:ay)(b:Int):Option (((yc)×(List aM)×Int)⊕((yc)×(List aM))):=bif c5 (b<(d.aH.length:Int)) then(aj d.aH b).bind λc=>(cc L c.an).bind λf=>(bj 32 a.aH ([(aM.mk c.aa0 f)]:List aM)).bind λe=>c6 (dd (a.aw,e,c3 c4 (b+1))) else c6 (c7 (a.aw,a.aH))
def oM(b:ay):Option ay:=(cc L b.aw).bind λd=>(L.loop (λa=>r9 L b (ay.mk a.1 a.2.1) a.2.2) (d,([]:List aM),0)).bind λc=>c6 (ay.mk c.1 c.2)
def sB(c:aL)(b:List ay)(a:Int):Option (((List ay)×Int)⊕(List ay)):=bif c5 (a<(c.aA.length:Int)) then(aj c.aA a).bind λe=>(oM L e).bind λd=>(bj 48 b ([d]:List ay)).bind λf=>c6 (dd (f,c3 c4 (a+1))) else c6 (c7 b)
def pf(b:aL):Option aL:=(L.loop (λa=>sB L b a.1 a.2) (([]:List ay),0)).bind λc=>c6 (aL.mk c)
def pI(L:Lp)(a:List cy):Option (List cy):=bj 64 [] a
def tO(d:aE)(b:aE)(a:Int):Option (pJ⊕qc):=bif c5 (a<(d.bB.length:Int)) then(aj d.bB a).bind λc=>(cc L c.ll).bind λf=>(bj 72 b.bB ([({c with ll:=f}:dK)]:List dK)).bind λe=>c6 (dd (u16 ({b with bB:=e}:aE) (c3 c4 (a+1)))) else c6 (c7 (lR b))
def wc(a:aE):Option aE:=(qp L a.au 0).bind λs=>(kF L a.ao.ai).bind λd=>(kQ L a.ao.af).bind λh=>(q9 L a.cI).bind λe=>(cc L a.bR.akL).bind λk=>(cc L a.bR.dg).bind λq=>(cc L a.bR.dG).bind λi=>(cc L a.bM.bT).bind λj=>(ry L a.cq).bind λn=>(ry L a.bZ).bind λp=>(cc L a.cW.dl).bind λl=>(cc L a.cW.dr).bind λf=>(pf L a.bw).bind λo=>(pf L a.bq).bind λu=>(cc L a.bz.an).bind λr=>(cc L a.aa2.af).bind λv=>(cc L a.aa2.aa2).bind λm=>(pI L a.bS).bind λc=>(L.loop (λb=>tO L a (sN b) (sE b)) (u16 (aE.mk s.1 (ak.mk d h) e (bE.mk k q i a.bR.er) (cd.mk j a.bM.dZ a.bM.ed) n p (cZ.mk l f) o (bQ.mk a.bz.aa0 r) (bA.mk v m a.aa2.Out) a.cL u c ([]:List dK)) 0)).bind λt=>let g:=tT t;c6 g
def wX(a:ak)(g:List aS)(i:yc)(f:yc)(k:List bI)(j:bE)(b:cd)(h:yc):Option (aE×Int):=(Ef L a g i f 0).bind λc=>bif c5 (c.2≠0) then c6 ((aE.mk (aB.mk (ak.mk ([]:List bP) ([]:List aZ)) 0 ([]:List bC) ([]:yc) ([]:List aS) ([]:yc) ([]:yc) ([]:List (yc))) (ak.mk ([]:List bP) ([]:List aZ)) ([]:List bI) (bE.mk ([]:yc) ([]:yc) ([]:yc) 0) (cd.mk ([]:yc) 0 0) ([]:List aT) ([]:List aT) (cZ.mk ([]:yc) ([]:yc)) (aL.mk ([]:List ay)) (bQ.mk 0 ([]:yc)) (bA.mk ([]:yc) ([]:yc) false) (b7.mk 0 0 0 0) (aL.mk ([]:List ay)) ([]:List cy) ([]:List dK)),c.2) else(Eh L a k ([]:yc) 0).bind λo=>(bif c5 (o.2≠0) then c6 true else(rP L a j).bind λt=>bif (!t) then c6 true else(oT L b (b7.mk 0 0 0 0)).bind λs=>bif (!s) then c6 true else(aj b.bT (c3 c4 ((b.bT.length:Int) -1))).bind λq=>c6 (c5 ((a.ai.length:Int)<=q))).bind λp=>bif p then c6 ((aE.mk (aB.mk (ak.mk ([]:List bP) ([]:List aZ)) 0 ([]:List bC) ([]:yc) ([]:List aS) ([]:yc) ([]:yc) ([]:List (yc))) (ak.mk ([]:List bP) ([]:List aZ)) ([]:List bI) (bE.mk ([]:yc) ([]:yc) ([]:yc) 0) (cd.mk ([]:yc) 0 0) ([]:List aT) ([]:List aT) (cZ.mk ([]:yc) ([]:yc)) (aL.mk ([]:List ay)) (bQ.mk 0 ([]:yc)) (bA.mk ([]:yc) ([]:yc) false) (b7.mk 0 0 0 0) (aL.mk ([]:List ay)) ([]:List cy) ([]:List dK)),6) else(zi L h a).bind λl=>bif l then c6 ((aE.mk (aB.mk (ak.mk ([]:List bP) ([]:List aZ)) 0 ([]:List bC) ([]:yc) ([]:List aS) ([]:yc) ([]:yc) ([]:List (yc))) (ak.mk ([]:List bP) ([]:List aZ)) ([]:List bI) (bE.mk ([]:yc) ([]:yc) ([]:yc) 0) (cd.mk ([]:yc) 0 0) ([]:List aT) ([]:List aT) (cZ.mk ([]:yc) ([]:yc)) (aL.mk ([]:List ay)) (bQ.mk 0 ([]:yc)) (bA.mk ([]:yc) ([]:yc) false) (b7.mk 0 0 0 0) (aL.mk ([]:List ay)) ([]:List cy) ([]:List dK)),4) else(AQ L h).bind λe=>bif c5 (e.2≠0) then c6 ((aE.mk (aB.mk (ak.mk ([]:List bP) ([]:List aZ)) 0 ([]:List bC) ([]:yc) ([]:List aS) ([]:yc) ([]:yc) ([]:List (yc))) (ak.mk ([]:List bP) ([]:List aZ)) ([]:List bI) (bE.mk ([]:yc) ([]:yc) ([]:yc) 0) (cd.mk ([]:yc) 0 0) ([]:List aT) ([]:List aT) (cZ.mk ([]:yc) ([]:yc)) (aL.mk ([]:List ay)) (bQ.mk 0 ([]:yc)) (bA.mk ([]:yc) ([]:yc) false) (b7.mk 0 0 0 0) (aL.mk ([]:List ay)) ([]:List cy) ([]:List dK)),e.2) else(Bk L a f i 0).bind λd=>bif c5 (d.2≠0) then c6 ((aE.mk (aB.mk (ak.mk ([]:List bP) ([]:List aZ)) 0 ([]:List bC) ([]:yc) ([]:List aS) ([]:yc) ([]:yc) ([]:List (yc))) (ak.mk ([]:List bP) ([]:List aZ)) ([]:List bI) (bE.mk ([]:yc) ([]:yc) ([]:yc) 0) (cd.mk ([]:yc) 0 0) ([]:List aT) ([]:List aT) (cZ.mk ([]:yc) ([]:yc)) (aL.mk ([]:List ay)) (bQ.mk 0 ([]:yc)) (bA.mk ([]:yc) ([]:yc) false) (b7.mk 0 0 0 0) (aL.mk ([]:List ay)) ([]:List cy) ([]:List dK)),d.2) else(gP 48 (aT.mk 0 0 0 ([]:yc)) (g.length:Int)).bind λn=>(DL L).bind λm=>(wc L (aE.mk c.1 a k j b n ([]:List aT) m d.1 (bQ.mk 0 ([]:yc)) e.1 (b7.mk 0 0 0 0) (aL.mk ([]:List ay)) ([]:List cy) ([]:List dK))).bind λr=>c6 (r,0)
def zz(b:Int):Option Bool:=(cp L b 0 2).bind λa=>c6 (!a)
def It(b:yc)(c:Int):Option (Int⊕(Int⊕Unit)):=wi b (λa=>zz L a) c
def F6(a:yc):Option Int:=(L.loop (λd=>It L a d) 0).bind λc=>dt (λb=>c6 b) (λe=>c6 (-1)) c
def zw(b:yc):Option Bool:=(F6 L b).bind λa=>c6 (c5 (0<=a))
def CE(L:Lp)(a:Int):Option Bool:=c6 (c5 (a≠2))
def JW(b:yc)(c:Int):Option (Int⊕(Int⊕Unit)):=wi b (λa=>CE L a) c
def JN(a:yc):Option Int:=(L.loop (λd=>JW L a d) 0).bind λc=>dt (λb=>c6 b) (λe=>c6 (-1)) c
def IU(b:yc):Option Bool:=(JN L b).bind λa=>c6 (c5 (0<=a))
def yh(b:bA):Option Bool:=(IU L b.aa2).bind λa=>c6 (!a)
def oL(a:bA):Option Bool:=(xa L a.af).bind λd=>bif d then bif c5 ((a.aa2.length:Int)=(a.af.length:Int)) then(zw L a.aa2).bind λc=>bif (!c) then bif (!a.Out) then c6 true else(yh L a).bind λb=>c6 b else c6 false else c6 false else c6 false
def zj(a:aE):Option Bool:=(pV L a.au).bind λd=>bif d then(ij L a.ao).bind λc=>bif c then bif c5 ((a.cq.length:Int)=(a.au.aQ.length:Int)) then bif c5 ((a.cI.length:Int)=(a.ao.af.length:Int)) then bif c5 (0<(a.bw.aA.length:Int)) then(oL L a.aa2).bind λb=>c6 b else c6 false else c6 false else c6 false else c6 false else c6 false
def Ml(L:Lp)(a:Int):Option (Option Nat):=c6 (lK a)
def HU(L:Lp)(b:bA)(c:yc)(a:Int):Option (((yc)×Int)⊕(yc)):=bif c5 (a<(b.af.length:Int)) then(aj b.af a).bind λg=>(bif c5 (a<(b.aa2.length:Int)) then(aj b.aa2 a).bind λd=>c6 (c5 (d≠0)) else c6 false).bind λe=>(bif e then(bj 8 c ([g]:yc)).bind λh=>c6 h else c6 c).bind λf=>c6 (dd (f,c3 c4 (a+1))) else c6 (c7 c)
def yA(c:bA):Option yc:=(L.loop (λa=>HU L c a.1 a.2) (([]:yc),0)).bind λd=>(rl L d).bind λb=>c6 b
def Nf(L:Lp)(b:yc)(d:Int)(a:Int):Option (Int⊕(Int⊕Unit)):=bif c5 (a<(b.length:Int)) then(aj b a).bind λc=>bif c5 (d=c) then c6 (c7 (dd a)) else c6 (dd (c3 c4 (a+1))) else c6 (c7 (c7 ()))
def to(b:yc)(c:Int):Option Int:=(L.loop (λe=>Nf L b c e) 0).bind λd=>dt (λa=>c6 a) (λf=>c6 (-1)) d
def im(b:yc)(c:Int):Option Bool:=(to L b c).bind λa=>c6 (c5 (0<=a))
def wC(b:yc)(d:aB)(a:Int):Option (Int⊕(Unit⊕Unit)):=bif c5 (a<(b.length:Int)) then(aj b a).bind λe=>(cp L e 0 (c3 c4 ((d.aN.length:Int) -1))).bind λc=>bif (!c) then c6 (c7 (dd ())) else c6 (dd (c3 c4 (a+1))) else c6 (c7 (c7 ()))
def wv(a:aB)(d:yc):Option Int:=(pV L a).bind λb=>bif (!b) then c6 6 else(L.loop (λe=>wC L d a e) 0).bind λc=>dt (λf=>c6 19) (λg=>c6 0) c
def B1(b:aB)(a:Int)(e:Int)(f:Int):Option (aB×Int):=(wv L b ([a]:yc)).bind λj=>bif c5 (j≠0) then c6 (b,j) else(aj b.aN a).bind λg=>(yM L b.ao e g.abG).bind λi=>bif c5 (0<=g.akw) then c6 (b,10) else bif c5 (i<0) then c6 (b,4) else(cp L f 0 3600).bind λk=>bif (!k) then c6 (b,1) else(yC L b).bind λl=>let d:=Bi l;(aj d.aN a).bind λ_=>(d.aN[a.toNat]?).bind λc=>(aj (d.aN.set (a.toNat) (bC.mk c.abG e c.ami)) a).bind λ_=>((d.aN.set (a.toNat) (bC.mk c.abG e c.ami))[a.toNat]?).bind λh=>c6 (({d with aN:=(d.aN.set (a.toNat) (bC.mk c.abG e c.ami)).set (a.toNat) (bC.mk h.abG h.akw (c3 c4 (i+f)))}:aB),0)
def DC(d:aB)(g:List bP)(f:List aZ)(c:Int)(j:List bC)(h b:yc)(k:List (yc))(a:List aS)(i:Int):Option ((List bP×List aZ×Int×List bC×yc×yc×List (yc)×List aS×Int)⊕(List bP×List aZ×Int×List bC×List aS×yc×yc×List (yc))):=bif c5 (i<(d.aQ.length:Int)) then(aj d.aQ i).bind λe=>(cc L e.ai).bind λl=>(bj 48 a ([({e with ai:=l}:aS)]:List aS)).bind λz=>c6 (dd (g,f,c,j,h,b,k,z,c3 c4 (i+1))) else c6 (c7 (g,f,c,j,a,h,b,k))
def FD{d:Type}(a:aB)(e:List bP->List aZ->Int->List bC->yc->List aS->yc->yc->Option d):Option d:=(kF L a.ao.ai).bind λj=>(kQ L a.ao.af).bind λh=>(rf L a.aN).bind λk=>(cc L a.aw).bind λg=>(L.loop (λb=>DC L a b.1 b.2.1 b.2.2.1 b.2.2.2.1 b.2.2.2.2.1 b.2.2.2.2.2.1 b.2.2.2.2.2.2.1 b.2.2.2.2.2.2.2.1 b.2.2.2.2.2.2.2.2) (j,h,a.aa0,k,a.cn,a.cf,a.bp,([]:List aS),0)).bind λc=>(cc L a.cn).bind λf=>(cc L a.cf).bind λi=>e c.1 c.2.1 c.2.2.1 c.2.2.2.1 g c.2.2.2.2.1 f i
abbrev TD(a:Type):Type:=yc×yc×yc×a
abbrev TE:Type:=List bP×List aZ×Int×List bC×List aS
def we(a:aB):Option (TD TE):=match a.bp with |[]=>FD L a λh b i c e g f d=>c6 (e,f,d,h,b,i,c,g) |_=>e0
def uR(c:aB):Option (TD (yc×TE)):=match c.bp with |[a]=>FD L c λh b j d f i g e=>(cc L a).bind λa=>c6 (f,g,e,a,h,b,j,d,i) |_=>e0
def pO(d:aB):Option (TD (yc×yc×TE)):=match d.bp with |[c,a]=>FD L d λi b k e g j h f=>(cc L c).bind λc=>(cc L a).bind λa=>c6 (g,h,f,c,a,i,b,k,e,j) |_=>e0
def nM(e:aB):Option (TD (yc×yc×yc×TE)):=match e.bp with |[c,a,d]=>FD L e λj b l f h k i g=>(cc L c).bind λc=>(cc L a).bind λa=>(cc L d).bind λd=>c6 (h,i,g,c,a,d,j,b,l,f,k) |_=>e0
def EV(a:aB)(h:Int)(r:aS)(row:yc)(d b e:Int)(c:yc)(i:Int):Option ((yc×Int×Int×Int×yc×Int)⊕((List bP×List aZ×Int×List bC×yc×List aS×yc×yc×List (yc)×Int×Int×Int×yc×Int)⊕(yc×Int×Int×Int×yc))):=bif c5 (i<(a.aN.length:Int)) then(aj a.aN i).bind λj=>(im L r.ai j.abG).bind λhere=>(iN .i64 h i).bind λl=>(aj row i).bind λ_=>(bif here then c6 (c5 (bits .and .i64 l 1=1)) else c6 false).bind λk=>bif k then(row[i.toNat]?).bind λv=>(row[i.toNat]?).bind λ_=>((row.set i.toNat (c3 c4 (v+1)))[i.toNat]?).bind λf=>bif c5 (r.dY<f) then c6 (c7 (dd (a.ao.ai,a.ao.af,a.aa0,a.aN,a.aw,a.aQ,a.cn,a.cf,a.bp,0,0,0,([]:yc),43))) else c6 (dd (row.set i.toNat (c3 c4 (v+1)),d,b,e,c,c3 c4 (i+1))) else(row[i.toNat]?).bind λ_=>bif here then(aj a.aw i).bind λg=>(bj 8 c ([g]:yc)).bind λc=>c6 (dd (row.set i.toNat 0,d,b,e,c,c3 c4 (i+1))) else c6 (dd (row.set i.toNat 0,d,b,e,c,c3 c4 (i+1))) else c6 (c7 (c7 (row,d,b,e,c)))
def qw(c:aB)(b m i:Int)(r:aS)(l g f row:yc)(j:yc->List (yc))(e:TE):Option (aB×aT×Int):=((aj c.cf b).bind λn=>bif c5 (0<=n) then(aj c.cf b).bind λk=>c6 (c5 (r.dX<c3 c4 (c.aa0 -k))) else c6 false).bind λp=>(bif p then c6 2 else c6 1).bind λo=>(aj c.cn b).bind λh=>(nG (c3 c4 (h+o)) 65536).bind λnumber=>(aj g b).bind λ_=>(g[b.toNat]?).bind λ_=>(aj f b).bind λ_=>(f[b.toNat]?).bind λ_=>(L.loop (λd=>EV L c m r d.1 d.2.1 d.2.2.1 d.2.2.2.1 d.2.2.2.2.1 d.2.2.2.2.2) (row,b,number,c3 c4 (c.aa0+i),([]:yc),0)).bind λa=>dt (λa=>c6 (aB.mk (ak.mk a.1 a.2.1) a.2.2.1 a.2.2.2.1 a.2.2.2.2.1 a.2.2.2.2.2.1 a.2.2.2.2.2.2.1 a.2.2.2.2.2.2.2.1 a.2.2.2.2.2.2.2.2.1,aT.mk a.2.2.2.2.2.2.2.2.2.1 a.2.2.2.2.2.2.2.2.2.2.1 a.2.2.2.2.2.2.2.2.2.2.2.1 a.2.2.2.2.2.2.2.2.2.2.2.2.1,a.2.2.2.2.2.2.2.2.2.2.2.2.2)) (λa=>(rC a.2.2.2.2).bind λq=>c6 (aB.mk (ak.mk e.1 e.2.1) e.2.2.1 e.2.2.2.1 l e.2.2.2.2 (g.set b.toNat number) (f.set b.toNat c.aa0) (j a.1),aT.mk a.2.1 a.2.2.1 a.2.2.2.1 q,0)) a
def acN(a:aB)(c:Int)(r:aS)(f b g:Int)(e:yc)(i:Int):Option ((Int×Int×Int×yc×Int)⊕(Int×Int×Int×yc)):=bif c5 (i<(a.aN.length:Int)) then(aj a.aN i).bind λd=>(im L r.ai d.abG).bind λ_=>(iN .i64 c i).bind λ_=>e0 else c6 (c7 (f,b,g,e))
def aph(b:aB)(a m i:Int)(r:aS)(k g f:yc)(c:TE):Option (aB×aT×Int):=((aj b.cf a).bind λl=>bif c5 (0<=l) then(aj b.cf a).bind λj=>c6 (c5 (r.dX<c3 c4 (b.aa0 -j))) else c6 false).bind λo=>(bif o then c6 2 else c6 1).bind λn=>(aj b.cn a).bind λh=>(nG (c3 c4 (h+n)) 65536).bind λnumber=>(aj g a).bind λ_=>(g[a.toNat]?).bind λ_=>(aj f a).bind λ_=>(f[a.toNat]?).bind λ_=>(L.loop (λd=>acN L b m r d.1 d.2.1 d.2.2.1 d.2.2.2.1 d.2.2.2.2) (a,number,c3 c4 (b.aa0+i),([]:yc),0)).bind λe=>(rC e.2.2.2).bind λp=>c6 (aB.mk (ak.mk c.1 c.2.1) c.2.2.1 c.2.2.2.1 k c.2.2.2.2 (g.set a.toNat number) (f.set a.toNat b.aa0) [],aT.mk e.1 e.2.1 e.2.2.1 p,0)
def po(a:aB)(d g c:Int)(e:aS->Option (aB×aT×Int)):Option (aB×aT×Int):=(pV L a).bind λv=>bif (!v) then c6 (a,aT.mk 0 0 0 [],6) else(cp L d 0 (c3 c4 ((a.aQ.length:Int) -1))).bind λi=>bif (!i) then c6 (a,aT.mk 0 0 0 [],40) else(aj a.aQ d).bind λr=>((cp L c (c3 c4 (0 -r.cR)) r.cR).bind λf=>bif (!f) then c6 true else(cp L (c3 c4 (a.aa0+c)) 0 2147483648).bind λb=>c6 (!b)).bind λbad=>bif bad then c6 (a,aT.mk 0 0 0 [],1) else e r
def jO(b:aB)(c e d:Int):Option (aB×aT×Int):=match b.bp with |[]=>bif c5 (c=0) then po L b c e d λr=>(we L b).bind λa=>aph L b c e d r a.1 a.2.1 a.2.2.1 a.2.2.2 else e0 |[_]=>bif c5 (c=0) then po L b c e d λr=>(uR L b).bind λa=>qw L b c e d r a.1 a.2.1 a.2.2.1 a.2.2.2.1 (λr=>[r]) a.2.2.2.2 else e0 |[_,_]=>bif c5 (c=0) then po L b c e d λr=>(pO L b).bind λa=>qw L b c e d r a.1 a.2.1 a.2.2.1 a.2.2.2.1 (λr=>[r,a.2.2.2.2.1]) a.2.2.2.2.2 else bif c5 (c=1) then po L b c e d λr=>(pO L b).bind λa=>qw L b c e d r a.1 a.2.1 a.2.2.1 a.2.2.2.2.1 (λr=>[a.2.2.2.1,r]) a.2.2.2.2.2 else e0 |[_,_,_]=>bif c5 (c=0) then po L b c e d λr=>(nM L b).bind λa=>qw L b c e d r a.1 a.2.1 a.2.2.1 a.2.2.2.1 (λr=>[r,a.2.2.2.2.1,a.2.2.2.2.2.1]) a.2.2.2.2.2.2 else bif c5 (c=1) then po L b c e d λr=>(nM L b).bind λa=>qw L b c e d r a.1 a.2.1 a.2.2.1 a.2.2.2.2.1 (λr=>[a.2.2.2.1,r,a.2.2.2.2.2.1]) a.2.2.2.2.2.2 else bif c5 (c=2) then po L b c e d λr=>(nM L b).bind λa=>qw L b c e d r a.1 a.2.1 a.2.2.1 a.2.2.2.2.2.1 (λr=>[a.2.2.2.1,a.2.2.2.2.1,r]) a.2.2.2.2.2.2 else e0 |_=>e0
def Zb(c:List aT)(b:List aT)(a:Int):Option (((List aT)×Int)⊕(List aT)):=bif c5 (a<(c.length:Int)) then(aj c a).bind λd=>(cc L d.aw).bind λe=>(bj 48 b ([({d with aw:=e}:aT)]:List aT)).bind λf=>c6 (dd (f,c3 c4 (a+1))) else c6 (c7 b)
def zp(b:List aT):Option (List aT):=(L.loop (λa=>Zb L b a.1 a.2) (([]:List aT),0)).bind λc=>c6 c
def lQ(a:aT):Option Bool:=(cp L a.agX 0 31).bind λd=>bif d then(cp L a.aj6 0 65535).bind λe=>bif e then(cp L a.aa0 0 2147483648).bind λb=>bif b then bif c5 ((a.aw.length:Int)<=20) then(iU L a.aw 1 65535).bind λc=>c6 c else c6 false else c6 false else c6 false else c6 false
def vM(L:Lp)(d:Int)(b:yc)(a:Int):Option (((yc)×Int)⊕(yc)):=bif c5 (0<=a) then(iN .u64 d (dv.wrap (c3 c4 (8*a)))).bind λe=>(bj 1 b ([ej.wrap e]:yc)).bind λc=>c6 (dd (c,c3 c4 (a -1))) else c6 (c7 b)
def py(d:yc)(e:Int)(c:Int):Option yc:=(L.loop (λa=>vM L e a.1 a.2) (d,c3 c4 (c -1))).bind λb=>c6 b
def wg(c:aT)(b:yc)(a:Int):Option (((yc)×Int)⊕(yc)):=bif c5 (a<(c.aw.length:Int)) then(aj c.aw a).bind λd=>(py L b (dv.wrap d) 2).bind λe=>c6 (dd (e,c3 c4 (a+1))) else c6 (c7 b)
def Ex(a:aT):Option (fa×Int):=(lQ L a).bind λd=>bif (!d) then c6 ((fa.mk 0 0 ([]:yc)),6) else(py L ([]:yc) (dv.wrap a.aj6) 2).bind λc=>(py L c (dv.wrap a.aa0) 6).bind λf=>(bj 1 f ([ej.wrap (a.aw.length:Int)]:yc)).bind λg=>(L.loop (λb=>wg L a b.1 b.2) (g,0)).bind λe=>c6 ((fa.mk a.agX 9 e),0)
def zf(L:Lp)(b:yc)(c:Int)(a:Int):Option ((Int×Int)⊕Int):=bif c5 (a<(b.length:Int)) then(aj b a).bind λe=>(uU .u64 c 8).bind λd=>c6 (dd (bits .or .u64 d (dv.wrap e),c3 c4 (a+1))) else c6 (c7 c)
def jQ(c:yc):Option Int:=(L.loop (λa=>zf L c a.1 a.2) (0,0)).bind λb=>c6 b
def vE(L:Lp)(b:yc)(a:Int):Option ((yc)×Int):=bif c5 (a<1) then e0 else c6 (b,a)
def lj:yc->List (yc) |[]=>[] |[a]=>[[a]] |a::b::c=>[a,b]::lj c
def gW(L:Lp):List (yc)->yc->Option yc |[],a=>c6 a |d::b,a=>(jQ L d).bind λc=>(bj 8 a ([c3 c4 c]:yc)).bind λa=>gW L b a
def rA(d e a:Int)(b:yc)(f:Int):Option (aT×Int):=bif c5 (f=2) then bif c5 (b.length%2=0) then(gW L (lj b) []).bind λc=>(lQ L (aT.mk d e a c)).bind λv=>bif (!v) then c6 (aT.mk 0 0 0 [],6) else c6 (aT.mk d e a c,0) else e0 else e0
def zD(a:fa):Option (aT×Int):=bif c5 (a.abv≠9) then c6 (aT.mk 0 0 0 [],5) else(cp L a.kO 0 31).bind λg=>bif (!g) then c6 (aT.mk 0 0 0 [],40) else(bif c5 ((a.Data.length:Int)<9) then c6 true else(aj a.Data 8).bind λb=>c6 (c5 ((a.Data.length:Int)≠c3 c4 (9+c3 c4 (2*c3 c4 b))))).bind λbad=>bif bad then c6 (aT.mk 0 0 0 [],6) else(eG a.Data 0 2).bind λf=>(jQ L f).bind λh=>(eG a.Data 2 8).bind λe=>(jQ L e).bind λd=>(eG a.Data 9 (a.Data.length:Int)).bind λi=>(vE L i 2).bind λc=>rA L a.kO (c3 c4 h) (c3 c4 d) c.1 c.2
def Ap(b:Int):Option Bool:=(cp L b (-1) 65535).bind λa=>c6 (!a)
def I8(b:yc)(c:Int):Option (Int⊕(Int⊕Unit)):=wi b (λa=>Ap L a) c
def GR(a:yc):Option Int:=(L.loop (λd=>I8 L a d) 0).bind λc=>dt (λb=>c6 b) (λe=>c6 (-1)) c
def Am(b:yc):Option Bool:=(GR L b).bind λa=>c6 (c5 (0<=a))
def Dd(b:Int):Option Bool:=(cp L b 0 2147483648).bind λa=>c6 (!a)
def FL(b:yc)(c:Int):Option (Int⊕(Int⊕Unit)):=wi b (λa=>Dd L a) c
def JV(a:yc):Option Int:=(L.loop (λd=>FL L a d) 0).bind λc=>dt (λb=>c6 b) (λe=>c6 (-1)) c
def CZ(b:yc):Option Bool:=(JV L b).bind λa=>c6 (c5 (0<=a))
def zY(a:cZ):Option Bool:=bif c5 ((a.dl.length:Int)=32) then bif c5 ((a.dr.length:Int)=32) then(Am L a.dl).bind λb=>bif (!b) then(CZ L a.dr).bind λc=>c6 (!c) else c6 false else c6 false else c6 false
def CT(b:cZ)(a:aT):Option (cZ×Int):=(zY L b).bind λi=>bif (!i) then c6 (b,10) else(lQ L a).bind λj=>bif (!j) then c6 (b,6) else(aj b.dl a.agX).bind λf=>(nG (c3 c4 ((c3 c4 (a.aj6 -f))+65536)) 65536).bind λe=>(bif c5 (0<=f) then bif c5 (e=0) then c6 true else c6 (c5 (32768<=e)) else c6 false).bind λg=>bif g then c6 (b,42) else(cc L b.dl).bind λd=>(cc L b.dr).bind λc=>(aj d a.agX).bind λ_=>(d[a.agX.toNat]?).bind λ_=>bif c5 (0<=f) then(aj c a.agX).bind λ_=>(c[a.agX.toNat]?).bind λh=>(aj c a.agX).bind λ_=>(c[a.agX.toNat]?).bind λ_=>c6 ((cZ.mk (d.set (a.agX.toNat) a.aj6) (c.set (a.agX.toNat) (min (c3 c4 ((c3 c4 (h+e)) -1)) 2147483648))),0) else c6 ((cZ.mk (d.set (a.agX.toNat) a.aj6) c),0)
def Dq(L:Lp)(a:aT)(d:aS)(c:List dS)(b:Int):Option (((List dS)×Int)⊕(List dS)):=bif c5 (b<(a.aw.length:Int)) then(aj a.aw b).bind λf=>(bj 32 c ([(dS.mk a.agX f (max 0 (c3 c4 (a.aa0 -d.cR))) (c3 c4 (a.aa0+d.cR)))]:List dS)).bind λe=>c6 (dd (e,c3 c4 (b+1))) else c6 (c7 c)
def Bl(b:List aS)(a:aT):Option ((List dS)×Int):=(lQ L a).bind λd=>bif (!d) then c6 (([]:List dS),6) else bif c5 ((b.length:Int)<=a.agX) then c6 (([]:List dS),40) else(aj b a.agX).bind λf=>(L.loop (λc=>Dq L a f c.1 c.2) (([]:List dS),0)).bind λe=>c6 (e,0)
def fP(L:Lp)(a:aR):Option Int:=c6 a.aI.au.aa0
def yU(L:Lp)(b:yc)(e:yc)(a:Int):Option (Int⊕(Unit⊕Unit)):=bif c5 (a<(b.length:Int)) then(aj b a).bind λc=>(aj e a).bind λd=>bif c5 (c≠d) then c6 (c7 (dd ())) else c6 (dd (c3 c4 (a+1))) else c6 (c7 (c7 ()))
def qG(a:yc)(b:yc):Option Bool:=bif c5 ((a.length:Int)≠(b.length:Int)) then c6 false else(L.loop (λd=>yU L a b d) 0).bind λc=>dt (λe=>c6 false) (λf=>c6 true) c
def DR(a:Int):Option Bool:=bif c5 (a≠1099511627776) then(cp L a 0 2147483648).bind λb=>c6 (!b) else c6 false
def GO(b:yc)(c:Int):Option (Int⊕(Int⊕Unit)):=wi b (λa=>DR L a) c
def GG(a:yc):Option Int:=(L.loop (λd=>GO L a d) 0).bind λc=>dt (λb=>c6 b) (λe=>c6 (-1)) c
def zZ(b:yc):Option Bool:=(GG L b).bind λa=>c6 (c5 (0<=a))
def ur(d:ak)(a:aM):Option Bool:=bif c5 ((a.an.length:Int)=(d.ai.length:Int)) then(cp L a.aa0 0 2147483648).bind λb=>bif b then(zZ L a.an).bind λc=>c6 (!c) else c6 false else c6 false
def n7(b:ak)(a:aM):Option Bool:=(ij L b).bind λe=>bif e then(ur L b a).bind λf=>bif f then(ze L b a.an a.aa0).bind λc=>(qG L c a.an).bind λd=>c6 d else c6 false else c6 false
def Ld(b:aM)(c:ak):Option Bool:=(n7 L c b).bind λa=>c6 (!a)
def HW(b:List aM)(d:ak)(c:Int):Option (Int⊕(Int⊕Unit)):=wi b (λa=>Ld L a d) c
def FJ(a:List aM)(b:ak):Option Int:=(L.loop (λe=>HW L a b e) 0).bind λd=>dt (λc=>c6 c) (λf=>c6 (-1)) d
def E5(b:List aM)(c:ak):Option Bool:=(FJ L b c).bind λa=>c6 (c5 (0<=a))
def Cl(L:Lp)(a:Int):Option Bool:=c6 (c5 (a≠a))
def uE(a:Int)(b:Int):Option Int:=(Cl L a).bind λd=>(Cl L b).bind λc=>bif d then bif c then c6 0 else c6 (-1) else bif c then c6 1 else bif c5 (a<b) then c6 (-1) else bif c5 (b<a) then c6 1 else c6 0
def ui(c:yc)(d:yc)(a:Int):Option (Int⊕(Int⊕Unit)):=bif c5 (a<(c.length:Int)) then(aj c a).bind λe=>bif c5 ((d.length:Int)<=a) then c6 (c7 (dd 1)) else(aj d a).bind λf=>(uE L e f).bind λb=>bif c5 (b≠0) then c6 (c7 (dd b)) else c6 (dd (c3 c4 (a+1))) else c6 (c7 (c7 ()))
def sL(a:yc)(b:yc):Option Int:=(L.loop (λe=>ui L a b e) 0).bind λd=>dt (λc=>c6 c) (λf=>bif c5 ((a.length:Int)<(b.length:Int)) then c6 (-1) else c6 0) d
def Fm(c:aL)(m:yc)(j:ak)(b:Int):Option (Int⊕(Unit⊕Unit)):=bif c5 (b<(c.aA.length:Int)) then(aj c.aA b).bind λa=>((cp L (a.aw.length:Int) 1 12).bind λh=>bif (!h) then c6 true else bif c5 ((a.aH.length:Int)≠(a.aw.length:Int)) then c6 true else(AI L a.aw).bind λn=>c6 (!n):Option Bool).bind λo=>bif o then c6 (c7 (dd ())) else(qK L a.aw).bind λf=>(rG L f).bind λl=>(qG L l m).bind λg=>bif (!g) then c6 (c7 (dd ())) else(bif c5 (0<b) then(aj c.aA (c3 c4 (b -1))).bind λe=>(sL L e.aw a.aw).bind λk=>c6 (c5 (0<=k)) else c6 false).bind λd=>bif d then c6 (c7 (dd ())) else(E5 L a.aH j).bind λi=>bif i then c6 (c7 (dd ())) else c6 (dd (c3 c4 (b+1))) else c6 (c7 (c7 ()))
def p8(b:ak)(a:aL):Option Bool:=((ij L b).bind λe=>bif (!e) then c6 true else(cp L (a.aA.length:Int) 1 24).bind λd=>c6 (!d):Option Bool).bind λg=>bif g then c6 false else(aj a.aA 0).bind λh=>(qK L h.aw).bind λc=>(rG L c).bind λi=>(L.loop (λj=>Fm L a i b j) 0).bind λf=>dt (λk=>c6 false) (λl=>c6 true) f
def vY(b:ak)(h:aM)(c:yc)(a:Int)(d:Int):Option Int:=((n7 L b h).bind λk=>bif (!k) then c6 true else bif c5 ((c.length:Int)=0) then c6 true else(iU L c 0 (c3 c4 ((b.ai.length:Int) -1))).bind λi=>c6 (!i):Option Bool).bind λg=>bif g then c6 6 else((cp L a 0 2147483648).bind λe=>bif (!e) then c6 true else(cp L d 0 2147483648).bind λj=>bif (!j) then c6 true else c6 (c5 (d<a)):Option Bool).bind λf=>bif f then c6 8 else c6 0
def Ds(L:Lp)(d:yc)(e:aM)(i:Int)(b:yc)(g:Bool)(c:Int):Option (((yc)×Bool×Int)⊕((yc)×Bool)):=bif c5 (c<(d.length:Int)) then(aj d c).bind λa=>(aj e.an a).bind λh=>(bif c5 (h<=i) then(aj e.an a).bind λj=>(aj b a).bind λ_=>(b[a.toNat]?).bind λ_=>c6 (b.set (a.toNat) j,true) else c6 (b,g)).bind λf=>c6 (dd (f.1,f.2,c3 c4 (c+1))) else c6 (c7 (b,g))
def yX(c:ak)(a:aM)(g:yc)(b:Int)(d:Int):Option (aM×Int):=(vY L c a g b d).bind λh=>bif c5 (h≠0) then c6 (a,h) else bif c5 (b<a.aa0) then c6 (a,42) else(yF L c).bind λi=>(L.loop (λe=>Ds L g a d e.1 e.2.1 e.2.2) (i,false,0)).bind λf=>bif (!f.2) then c6 (a,43) else(sI L c f.1 b).bind λj=>c6 ((aM.mk d j),0)
def CH(d:ay)(a:ay)(b:Int):Option (((yc)×(List aM)×Int)⊕((yc)×(List aM))):=bif c5 (b<(d.aH.length:Int)) then(aj d.aH b).bind λc=>(cc L c.an).bind λf=>(bj 32 a.aH ([(aM.mk c.aa0 f)]:List aM)).bind λe=>c6 (dd (a.aw,e,c3 c4 (b+1))) else c6 (c7 (a.aw,a.aH))
def mH(b:ay):Option ((List aM)×(yc)):=(cc L b.aw).bind λd=>(L.loop (λa=>CH L b (ay.mk a.1 a.2.1) a.2.2) (d,([]:List aM),0)).bind λc=>c6 (c.2,c.1)
def JT(a:ak)(d:yc)(c:Int)(b:Int)(f:aM):Option ((List bP)×(List aZ)×(yc)×Int×Int×aM×Int):=(yX L a f d c b).bind λe=>c6 (a.ai,a.af,d,c,b,e.1,e.2)
def Gz(h:aL)(q:Int)(f:ak)(o:yc)(m:Int)(l:Int)(i:List ay)(g:Int):Option (((List bP)×(List aZ)×(yc)×Int×Int×(List ay)×Int)⊕(((List bP)×(List aZ)×(yc)×Int×Int×(List ay)×Int)⊕((List bP)×(List aZ)×(yc)×Int×Int×(List ay)))):=bif c5 (g<(h.aA.length:Int)) then((aj h.aA g).bind λn=>(to L n.aw q).bind λe=>(mH L n).bind λb=>(aj b.1 e).bind λ_=>(b.1[e.toNat]?).bind λp=>(JT L f o m l p).bind λa=>((bif c5 (a.2.2.2.2.2.2=6) then c6 (c5 (a.2.2.2.2.2.2=6)) else c6 (c5 (a.2.2.2.2.2.2=8))).bind λt=>bif t then c6 (c7 (dd (h.aA,a.2.2.2.2.2.2))) else bif c5 (a.2.2.2.2.2.2=43) then c6 (c7 (c7 ())) else(bif c5 (a.2.2.2.2.2.2=0) then(aj b.1 e).bind λ_=>(b.1[e.toNat]?).bind λ_=>c6 (b.1.set (e.toNat) a.2.2.2.2.2.1) else c6 b.1).bind λr=>c6 (dd (b.2,r)):Option (((yc)×(List aM))⊕(((List ay)×Int)⊕Unit))).bind λu=>dt (λj=>(bj 48 i ([(ay.mk j.1 j.2)]:List ay)).bind λs=>c6 (dd (a.1,a.2.1,a.2.2.1,a.2.2.2.1,a.2.2.2.2.1,s))) (λv=>dt (λk=>c6 (c7 (a.1,a.2.1,a.2.2.1,a.2.2.2.1,a.2.2.2.2.1,k.1,k.2))) (λx=>c6 (dd (a.1,a.2.1,a.2.2.1,a.2.2.2.1,a.2.2.2.2.1,i))) v) u:Option (((List bP)×(List aZ)×(yc)×Int×Int×(List ay))⊕((List bP)×(List aZ)×(yc)×Int×Int×(List ay)×Int))).bind λw=>dt (λd=>c6 (dd (d.1,d.2.1,d.2.2.1,d.2.2.2.1,d.2.2.2.2.1,d.2.2.2.2.2,c3 c4 (g+1)))) (λc=>c6 (c7 (dd (c.1,c.2.1,c.2.2.1,c.2.2.2.1,c.2.2.2.2.1,c.2.2.2.2.2.1,c.2.2.2.2.2.2)))) w else c6 (c7 (c7 (f.ai,f.af,o,m,l,i)))
def I3(d:ak)(h:yc)(g:Int)(f:Int)(l:ak)(e:aL)(i:Int):Option ((List bP)×(List aZ)×(yc)×Int×Int×aL×Int):=(p8 L l e).bind λm=>bif (!m) then c6 (d.ai,d.af,h,g,f,e,6) else(aj e.aA 0).bind λn=>(im L n.aw i).bind λj=>bif (!j) then c6 (d.ai,d.af,h,g,f,e,41) else(L.loop (λc=>Gz L e i (ak.mk c.1 c.2.1) c.2.2.1 c.2.2.2.1 c.2.2.2.2.1 c.2.2.2.2.2.1 c.2.2.2.2.2.2) (d.ai,d.af,h,g,f,([]:List ay),0)).bind λk=>dt (λb=>c6 (b.1,b.2.1,b.2.2.1,b.2.2.2.1,b.2.2.2.2.1,(aL.mk b.2.2.2.2.2.1),b.2.2.2.2.2.2)) (λa=>bif c5 ((a.2.2.2.2.2.length:Int)=0) then c6 (a.1,a.2.1,a.2.2.1,a.2.2.2.1,a.2.2.2.2.1,e,43) else c6 (a.1,a.2.1,a.2.2.1,a.2.2.2.1,a.2.2.2.2.1,(aL.mk a.2.2.2.2.2),0)) k
def CS(a:ak)(e:aL)(d:Int)(c:yc)(f:Int)(g:Int):Option (aL×Int):=(I3 L a c f g a e d).bind λb=>c6 (b.2.2.2.2.2.1,b.2.2.2.2.2.2)
def ra(L:Lp)(a:aR):Option Bool:=c6 (c5 (0<(a.aI.bq.aA.length:Int)))
def Hb(L:Lp)(d:yc)(a:List aZ)(b:Int):Option (((List aZ)×Int)⊕(List aZ)):=bif c5 (b<(d.length:Int)) then(aj d b).bind λc=>(aj a c).bind λ_=>(a[c.toNat]?).bind λe=>c6 (dd (a.set (c.toNat) ({e with jy:=false}:aZ),c3 c4 (b+1))) else c6 (c7 a)
def sW(a:ak)(b:yc):Option (ak×Int):=(ij L a).bind λe=>bif (!e) then c6 ((ak.mk ([]:List bP) ([]:List aZ)),6) else(iU L b 0 (c3 c4 ((a.af.length:Int) -1))).bind λg=>bif (!g) then c6 ((ak.mk ([]:List bP) ([]:List aZ)),4) else(kF L a.ai).bind λd=>(kQ L a.af).bind λh=>(L.loop (λc=>Hb L b c.1 c.2) (h,0)).bind λf=>c6 ((ak.mk d f),0)
def Bp(L:Lp)(d:yc)(a:List aZ)(b:Int):Option (((List aZ)×Int)⊕(List aZ)):=bif c5 (b<(d.length:Int)) then(aj d b).bind λc=>(aj a c).bind λ_=>(a[c.toNat]?).bind λe=>c6 (dd (a.set (c.toNat) ({e with jy:=false}:aZ),c3 c4 (b+1))) else c6 (c7 a)
def vU(a:ak)(b:yc):Option ((List bP)×(List aZ)×Int):=(ij L a).bind λe=>bif (!e) then c6 (([]:List bP),([]:List aZ),6) else(iU L b 0 (c3 c4 ((a.af.length:Int) -1))).bind λg=>bif (!g) then c6 (([]:List bP),([]:List aZ),4) else(kF L a.ai).bind λd=>(kQ L a.af).bind λh=>(L.loop (λc=>Bp L b c.1 c.2) (h,0)).bind λf=>c6 (d,f,0)
def mT(b:aR):Option ((List bP)×(List aZ)):=(vU L b.aI.ao b.aI.aa2.af).bind λa=>c6 (a.1,a.2.1)
def Ai(b:aT):Option Bool:=(lQ L b).bind λa=>c6 (!a)
def I4(b:List aT)(c:Int):Option (Int⊕(Int⊕Unit)):=wi b (λa=>Ai L a) c
def GJ(a:List aT):Option Int:=(L.loop (λd=>I4 L a d) 0).bind λc=>dt (λb=>c6 b) (λe=>c6 (-1)) c
def Ad(b:List aT):Option Bool:=(GJ L b).bind λa=>c6 (c5 (0<=a))
def xD(L:Lp)(c:List aT)(a:aS)(d:Int)(b:Int)(e:List dC):Option sw:=bif c5 (1<(c.length:Int)) then(aj c 0).bind λg=>(aj c (c3 c4 ((c.length:Int) -1))).bind λf=>bif c5 ((c3 c4 (g.aa0+a.cR))<(c3 c4 (f.aa0 -a.cR))) then(bj 32 e ([(dC.mk d b (c3 c4 (g.aa0+a.cR)) (c3 c4 (f.aa0 -a.cR)))]:List dC)).bind λh=>c6 (u32 ([]:List aT) a h d b) else c6 (u32 ([]:List aT) a e d b) else c6 (u32 ([]:List aT) a e d b)
def xH(L:Lp)(c:aS)(a:aT)(b:aT):Option Bool:=(nG (c3 c4 (a.aj6+1)) 65536).bind λd=>bif c5 (b.aj6=d) then bif c5 (a.aa0<=b.aa0) then c6 (c5 ((c3 c4 (b.aa0 -a.aa0))<=(c3 c4 (c.dX+(c3 c4 (2*c.cR)))))) else c6 false else c6 false
def yG(L:Lp)(a:List aT)(b:aS)(d:Int)(c:Int)(e:List dC):Option qv:=bif c5 (1<(a.length:Int)) then(aj a 0).bind λ_=>(a[(0:Int).toNat]?).bind λg=>(aj a (c3 c4 ((a.length:Int) -1))).bind λ_=>(a[(c3 c4 ((a.length:Int) -1)).toNat]?).bind λf=>bif c5 ((c3 c4 (g.aa0+b.cR))<(c3 c4 (f.aa0 -b.cR))) then(bj 32 e ([(dC.mk d c (c3 c4 (g.aa0+b.cR)) (c3 c4 (f.aa0 -b.cR)))]:List dC)).bind λh=>c6 (pC a b d c ([]:List aT) h) else c6 (pC a b d c ([]:List aT) e) else c6 (pC a b d c ([]:List aT) e)
def vj(l:List aT)(b:Int)(d:Int)(f:aS)(g:List dC)(a:List aT)(k:Int):Option (oI⊕qt):=bif c5 (k<(l.length:Int)) then((aj l k).bind λj=>bif c5 (j.agX≠b) then c6 (ql b d f g a) else(im L j.aw d).bind λx=>bif x then(yG L a f b d g).bind λc=>let M:=Se c;let C:=Fp c;let H:=KG c;let I:=FU c;let G:=Hz c;let y:=GM c;c6 (ql H I C y G) else(bif c5 (0<(a.length:Int)) then(aj a (c3 c4 ((a.length:Int) -1))).bind λ_=>(a[(c3 c4 ((a.length:Int) -1)).toNat]?).bind λz=>(xH L f z j).bind λp=>c6 (!p) else c6 false).bind λB=>(bif B then(yG L a f b d g).bind λe=>let N:=Se e;let F:=Fp e;let w:=KG e;let r:=FU e;let K:=Hz e;let J:=GM e;c6 (ql w r F J K) else c6 (ql b d f g a)).bind λh=>let E:=Jw h;let t:=KY h;let m:=Kd h;let s:=FE h;let A:=vh h;(bj 48 A ([j]:List aT)).bind λo=>c6 (ql E t m s o):Option pg).bind λi=>let n:=Jw i;let D:=KY i;let v:=Kd i;let q:=FE i;let u:=vh i;c6 (dd (vI n D v q u (c3 c4 (k+1)))) else c6 (c7 (qA b d f a g))
def xp(f:List aS)(d:Int)(g:Int)(e:List aT):Option ((List dC)×Int):=bif c5 (400<(e.length:Int)) then c6 (([]:List dC),2) else(Ad L e).bind λk=>bif k then c6 (([]:List dC),6) else(bif c5 (d<0) then c6 true else c6 (c5 ((f.length:Int)<=d))).bind λl=>bif l then c6 (([]:List dC),40) else(cp L g 1 65535).bind λh=>bif (!h) then c6 (([]:List dC),41) else(aj f d).bind λn=>(L.loop (λa=>vj L e (ac8 a) (ah4 a) (afQ a) (akR a) (aiI a) (anA a)) (vI d g n ([]:List dC) ([]:List aT) 0)).bind λb=>let q:=LJ b;let j:=Tn b;let p:=MT b;let o:=Mb b;let i:=N2 b;(xD L o p q j i).bind λc=>let r:=Xb c;let t:=acU c;let m:=aaB c;let u:=afG c;let s:=adt c;c6 (m,0)
def Dh(L:Lp)(a:aS):Option Int:=c6 (c3 c4 ((c3 c4 (a.dY+1))*a.dX))
def Gs(b:Int)(c:yc):Option Bool:=(im L c b).bind λa=>c6 a
def DD(b:yc)(g:Bool)(i:Int)(a:Int)(c:Int)(d:Int)(h:yc):Option ((yc)×Bool):=(bif c5 ((max c d)<=2147483648) then(aj b a).bind λ_=>(b[a.toNat]?).bind λf=>bif c5 ((max c d)<f) then(Gs L a h).bind λe=>c6 e else c6 false else c6 false).bind λjA=>bif jA then(aj b a).bind λ_=>(b[a.toNat]?).bind λ_=>c6 (b.set (a.toNat) (max c d),true) else c6 (b,g)
def tY(c:aZ)(m:ak)(l:Int)(k:Int)(n:yc)(a:yc)(d:Bool)(e:Int):Option (((yc)×Bool×Int)⊕((yc)×Bool)):=bif c5 (e<2) then(aj [false,true] e).bind λi=>(bif i then c6 (c.To,c.an) else c6 (c.an,c.To)).bind λb=>(rO L m l i).bind λf=>(bif c5 (0<=f) then(aj a b.1).bind λ_=>(a[b.1.toNat]?).bind λo=>c6 (c5 (o<1099511627776)) else c6 false).bind λj=>(bif j then(aj a b.1).bind λ_=>(a[b.1.toNat]?).bind λp=>(DD L a d b.1 b.2 (c3 c4 (p+f)) k n).bind λh=>c6 (h.1,h.2) else c6 (a,d)).bind λg=>c6 (dd (g.1,g.2,c3 c4 (e+1))) else c6 (c7 (a,d))
def xS(b:ak)(g:Int)(i:yc)(e:yc)(d:Bool)(a:Int):Option (((yc)×Bool×Int)⊕((yc)×Bool)):=bif c5 (a<(b.af.length:Int)) then(aj b.af a).bind λh=>(L.loop (λc=>tY L h b a g i c.1 c.2.1 c.2.2) (e,d,0)).bind λf=>c6 (dd (f.1,f.2,c3 c4 (a+1))) else c6 (c7 (e,d))
def Bj(e:yc)(g:Bool)(d:ak)(c:Int)(f:yc):Option ((yc)×Bool):=(L.loop (λa=>xS L d c f a.1 a.2.1 a.2.2) (e,g,0)).bind λb=>c6 (b.1,b.2)
def HZ(e:ak)(f:Int)(c:yc)(a:yc)(d:Bool):Option (((yc)×Bool)⊕(yc)):=bif d then(Bj L a false e f c).bind λb=>c6 (dd (b.1,b.2)) else c6 (c7 a)
def Ay(d:ak)(e:yc)(c:Int)(b:yc):Option yc:=(cc L e).bind λg=>(L.loop (λa=>HZ L d c b a.1 a.2) (g,true)).bind λf=>c6 f
def CO(L:Lp)(d:yc)(a:yc)(b:Int):Option (((yc)×Int)⊕(yc)):=bif c5 (b<(d.length:Int)) then(aj d b).bind λc=>(aj a c).bind λ_=>(a[c.toNat]?).bind λ_=>c6 (dd (a.set (c.toNat) 1099511627776,c3 c4 (b+1))) else c6 (c7 a)
def wV(c:ak)(a:aM)(d:yc)(f:Int)(b:Int)(e:Int):Option (aM×Int):=(vY L c a d f b).bind λg=>bif c5 (g≠0) then c6 (a,g) else(cp L e 0 2147483648).bind λi=>bif (!i) then c6 (a,8) else bif c5 (b<a.aa0) then c6 (a,42) else bif c5 ((c3 c4 (b - (max f a.aa0)))<=e) then c6 (a,0) else(cc L a.an).bind λm=>(L.loop (λh=>CO L d h.1 h.2) (m,0)).bind λj=>(Ay L c j (c3 c4 (b -e)) d).bind λk=>(sI L c k b).bind λl=>c6 ((aM.mk b l),0)
def Io(a:ak)(d:yc)(c:Int)(b:Int)(e:Int)(g:aM):Option ((List bP)×(List aZ)×(yc)×Int×Int×Int×aM×Int):=(wV L a g d c b e).bind λf=>c6 (a.ai,a.af,d,c,b,e,f.1,f.2)
def Fl(g:aL)(u:Int)(i:ak)(k:yc)(n:Int)(m:Int)(p:Int)(f:List ay)(h:Int):Option (((List bP)×(List aZ)×(yc)×Int×Int×Int×(List ay)×Int)⊕(((List bP)×(List aZ)×(yc)×Int×Int×Int×(List ay)×Int)⊕((List bP)×(List aZ)×(yc)×Int×Int×Int×(List ay)))):=bif c5 (h<(g.aA.length:Int)) then((aj g.aA h).bind λj=>(to L j.aw u).bind λe=>(mH L j).bind λd=>(aj d.1 e).bind λ_=>(d.1[e.toNat]?).bind λv=>(Io L i k n m p v).bind λa=>((bif c5 (a.2.2.2.2.2.2.2=6) then c6 (c5 (a.2.2.2.2.2.2.2=6)) else c6 (c5 (a.2.2.2.2.2.2.2=8))).bind λq=>bif q then c6 (c7 (dd (g.aA,a.2.2.2.2.2.2.2))) else bif c5 (a.2.2.2.2.2.2.2=43) then c6 (c7 (c7 ())) else(bif c5 (a.2.2.2.2.2.2.2=0) then(aj d.1 e).bind λ_=>(d.1[e.toNat]?).bind λ_=>c6 (d.1.set (e.toNat) a.2.2.2.2.2.2.1) else c6 d.1).bind λr=>c6 (dd (d.2,r)):Option (((yc)×(List aM))⊕(((List ay)×Int)⊕Unit))).bind λx=>dt (λl=>(bj 48 f ([(ay.mk l.1 l.2)]:List ay)).bind λt=>c6 (dd (a.1,a.2.1,a.2.2.1,a.2.2.2.1,a.2.2.2.2.1,a.2.2.2.2.2.1,t))) (λs=>dt (λo=>c6 (c7 (a.1,a.2.1,a.2.2.1,a.2.2.2.1,a.2.2.2.2.1,a.2.2.2.2.2.1,o.1,o.2))) (λy=>c6 (dd (a.1,a.2.1,a.2.2.1,a.2.2.2.1,a.2.2.2.2.1,a.2.2.2.2.2.1,f))) s) x:Option (((List bP)×(List aZ)×(yc)×Int×Int×Int×(List ay))⊕((List bP)×(List aZ)×(yc)×Int×Int×Int×(List ay)×Int))).bind λw=>dt (λc=>c6 (dd (c.1,c.2.1,c.2.2.1,c.2.2.2.1,c.2.2.2.2.1,c.2.2.2.2.2.1,c.2.2.2.2.2.2,c3 c4 (h+1)))) (λb=>c6 (c7 (dd (b.1,b.2.1,b.2.2.1,b.2.2.2.1,b.2.2.2.2.1,b.2.2.2.2.2.1,b.2.2.2.2.2.2.1,b.2.2.2.2.2.2.2)))) w else c6 (c7 (c7 (i.ai,i.af,k,n,m,p,f)))
def Hu(d:ak)(h:yc)(g:Int)(f:Int)(i:Int)(o:ak)(e:aL)(j:Int):Option ((List bP)×(List aZ)×(yc)×Int×Int×Int×aL×Int):=(p8 L o e).bind λk=>bif (!k) then c6 (d.ai,d.af,h,g,f,i,e,6) else(aj e.aA 0).bind λl=>(im L l.aw j).bind λm=>bif (!m) then c6 (d.ai,d.af,h,g,f,i,e,41) else(L.loop (λc=>Fl L e j (ak.mk c.1 c.2.1) c.2.2.1 c.2.2.2.1 c.2.2.2.2.1 c.2.2.2.2.2.1 c.2.2.2.2.2.2.1 c.2.2.2.2.2.2.2) (d.ai,d.af,h,g,f,i,([]:List ay),0)).bind λn=>dt (λb=>c6 (b.1,b.2.1,b.2.2.1,b.2.2.2.1,b.2.2.2.2.1,b.2.2.2.2.2.1,(aL.mk b.2.2.2.2.2.2.1),b.2.2.2.2.2.2.2)) (λa=>bif c5 ((a.2.2.2.2.2.2.length:Int)=0) then c6 (a.1,a.2.1,a.2.2.1,a.2.2.2.1,a.2.2.2.2.1,a.2.2.2.2.2.1,e,43) else c6 (a.1,a.2.1,a.2.2.1,a.2.2.2.1,a.2.2.2.2.1,a.2.2.2.2.2.1,(aL.mk a.2.2.2.2.2.2),0)) n
def Bq(a:ak)(e:aL)(d:Int)(c:yc)(f:Int)(h:Int)(g:Int):Option (aL×Int):=(Hu L a c f h g a e d).bind λb=>c6 (b.2.2.2.2.2.2.1,b.2.2.2.2.2.2.2)
def uQ(d:Int)(a:aS)(e:dC)(b:Int)(g:ak)(h:aL):Option pT:=(Dh L a).bind λf=>(Bq L g h d a.ai e.an b f).bind λc=>c6 (Ft d a e b c.1 c.2)
def swp(c b:Int){e:Type}(a:yc)(f:yc->Option e):Option e:=(aj a b).bind λ_=>(a[b.toNat]?).bind λd=>(aj a c).bind λ_=>(a[c.toNat]?).bind λv=>(aj a c).bind λ_=>(a[c.toNat]?).bind λ_=>(aj (a.set c.toNat d) b).bind λ_=>((a.set c.toNat d)[b.toNat]?).bind λ_=>f ((a.set c.toNat d).set b.toNat v)
def oX(e:aB)(d c:Int):Option (aB×Int):=(wv L e [d,c]).bind λi=>bif c5 (i≠0) then c6 (e,i) else bif c5 (d=c) then c6 (e,19) else(aj e.aN d).bind λj=>(aj e.aN c).bind λb=>bif c5 (j.abG≠b.abG) then c6 (e,3) else match e.bp with |[]=>(we L e).bind λa=>swp d c a.1 λf=>c6 (aB.mk (ak.mk a.2.2.2.1 a.2.2.2.2.1) a.2.2.2.2.2.1 a.2.2.2.2.2.2.1 f a.2.2.2.2.2.2.2 a.2.1 a.2.2.1 [],0) |[_]=>(uR L e).bind λa=>swp d c a.1 λf=>swp d c a.2.2.2.1 λg=>c6 (aB.mk (ak.mk a.2.2.2.2.1 a.2.2.2.2.2.1) a.2.2.2.2.2.2.1 a.2.2.2.2.2.2.2.1 f a.2.2.2.2.2.2.2.2 a.2.1 a.2.2.1 [g],0) |[_,_]=>(pO L e).bind λa=>swp d c a.1 λf=>swp d c a.2.2.2.1 λg=>swp d c a.2.2.2.2.1 λh=>c6 (aB.mk (ak.mk a.2.2.2.2.2.1 a.2.2.2.2.2.2.1) a.2.2.2.2.2.2.2.1 a.2.2.2.2.2.2.2.2.1 f a.2.2.2.2.2.2.2.2.2 a.2.1 a.2.2.1 [g,h],0) |[_,_,_]=>(nM L e).bind λa=>swp d c a.1 λf=>swp d c a.2.2.2.1 λg=>swp d c a.2.2.2.2.1 λh=>swp d c a.2.2.2.2.2.1 λk=>c6 (aB.mk (ak.mk a.2.2.2.2.2.2.1 a.2.2.2.2.2.2.2.1) a.2.2.2.2.2.2.2.2.1 a.2.2.2.2.2.2.2.2.2.1 f a.2.2.2.2.2.2.2.2.2.2 a.2.1 a.2.2.1 [g,h,k],0) |_=>e0
def Dw(L:Lp)(b:Int)(a:aM)(c:Int):Option Bool:=(aj a.an b).bind λd=>c6 (c5 (d<=c))
def Ge(c:Int)(e:aM)(d:Int)(b:yc)(a:Int):Option (((yc)×Int)⊕(yc)):=bif c5 (a<c) then(Dw L a e d).bind λf=>(bif f then(bj 8 b ([a]:yc)).bind λg=>c6 g else c6 b).bind λh=>c6 (dd (h,c3 c4 (a+1))) else c6 (c7 b)
def HL(c:Int)(d:aM)(b:Int):Option yc:=(L.loop (λa=>Ge L c d b a.1 a.2) (([]:yc),0)).bind λe=>c6 e
def su(a:aM)(c:Int):Option yc:=(HL L (a.an.length:Int) a c).bind λb=>c6 b
def zO(b:Int)(c:yc):Option Bool:=(im L c b).bind λa=>c6 a
def IF(b:yc)(d:yc)(c:Int):Option (Int⊕(Int⊕Unit)):=wi b (λa=>zO L a d) c
def Iw(a:yc)(b:yc):Option Int:=(L.loop (λe=>IF L a b e) 0).bind λd=>dt (λc=>c6 c) (λf=>c6 (-1)) d
def B3(b:yc)(c:yc):Option Bool:=(Iw L b c).bind λa=>c6 (c5 (0<=a))
def EE(e:aM)(f:aM)(a:Int):Option Bool:=(su L f a).bind λb=>(su L e a).bind λd=>(B3 L d b).bind λc=>c6 c
def xc(a:aM)(b:Int):Option (aM×Int):=(bif c5 (b<a.aa0) then c6 true else c6 (c5 (2147483648<b))).bind λd=>bif d then c6 (a,8) else(cc L a.an).bind λc=>c6 ((aM.mk b c),0)
def CV(c:ay)(d:ay)(a:Int):Option (((List aM)×Int)⊕(List aM)):=bif c5 (a<(c.aH.length:Int)) then(aj c.aH a).bind λb=>(cc L b.an).bind λf=>(bj 32 d.aH ([(aM.mk b.aa0 f)]:List aM)).bind λe=>c6 (dd (e,c3 c4 (a+1))) else c6 (c7 d.aH)
def Ac(b:ay):Option ((yc)×(List aM)):=(cc L b.aw).bind λa=>(L.loop (λc=>CV L b (ay.mk a c.1) c.2) (([]:List aM),0)).bind λd=>c6 (a,d)
def Ke(L:Lp)(a:List ay):Option (List ay):=bj 48 [] a
def EG(L:Lp)(c:aM)(d:aM)(b:aM)(a:Int):Option ((Int×(yc)×Int)⊕(Int×(yc))):=bif c5 (a<(c.an.length:Int)) then(aj c.an a).bind λe=>(aj d.an a).bind λf=>(bj 8 b.an ([min e f]:yc)).bind λg=>c6 (dd (b.aa0,g,c3 c4 (a+1))) else c6 (c7 (b.aa0,b.an))
def xW(a:aM)(c:aM):Option (aM×Int):=bif c5 ((a.an.length:Int)≠(c.an.length:Int)) then c6 ((aM.mk 0 ([]:yc)),6) else(L.loop (λb=>EG L a c (aM.mk b.1 b.2.1) b.2.2) (max a.aa0 c.aa0,([]:yc),0)).bind λd=>c6 ((aM.mk d.1 d.2),0)
def IK(b:ay)(c:ay):Option Int:=(sL L b.aw c.aw).bind λa=>c6 a
def Mg(h:Int)(b:List ay)(a:Int):Option (((List ay)×Int)⊕(List ay)):=(bif c5 (h<a) then(aj b a).bind λ_=>(b[a.toNat]?).bind λe=>(aj b (c3 c4 (a -1))).bind λ_=>(b[(c3 c4 (a -1)).toNat]?).bind λd=>(IK L e d).bind λi=>c6 (c5 (i<0)) else c6 false).bind λg=>bif g then(aj b (c3 c4 (a -1))).bind λ_=>(b[(c3 c4 (a -1)).toNat]?).bind λc=>(aj b a).bind λ_=>(b[a.toNat]?).bind λf=>(aj b a).bind λ_=>(b[a.toNat]?).bind λ_=>(aj (b.set (a.toNat) c) (c3 c4 (a -1))).bind λ_=>((b.set (a.toNat) c)[(c3 c4 (a -1)).toNat]?).bind λ_=>c6 (dd ((b.set (a.toNat) c).set ((c3 c4 (a -1)).toNat) f,c3 c4 (a -1))) else c6 (c7 b)
def Sx(e:Int)(f:Int)(b:List ay)(a:Int):Option (((List ay)×Int)⊕(List ay)):=bif c5 (a<e) then(L.loop (λc=>Mg L f c.1 c.2) (b,a)).bind λd=>c6 (dd (d,c3 c4 (a+1))) else c6 (c7 b)
def xn(d:List ay)(a:Int)(c:Int):Option (List ay):=(L.loop (λb=>Sx L c a b.1 b.2) (d,c3 c4 (a+1))).bind λe=>c6 e
def zB(e:Int)(c:List ay)(b:Int)(a:Int):Option (((List ay)×Int×Int)⊕((List ay)×Int)):=bif c5 (a<=e) then(xn L c b a).bind λd=>c6 (dd (d,a,c3 c4 (a+20))) else c6 (c7 (c,b))
def afc(L:Lp)(a:Int)(b:Int):Option (Int⊕Unit):=bif c5 (b<=a) then e0 else c6 (c7 ())
def KH(b:Int)(a:Int):Option (Int⊕Unit):=bif c5 (a<b) then(L.loop (λc=>afc L b c) (c3 c4 (2*a))).bind λd=>bif c5 ((c3 c4 (0+a))<b) then e0 else c6 (dd (c3 c4 (a*2))) else c6 (c7 ())
def Je(e:List ay)(b:Int):Option (List ay):=(L.loop (λa=>zB L b a.1 a.2.1 a.2.2) (e,0,20)).bind λc=>(xn L c.1 c.2 b).bind λd=>(L.loop (λa=>KH L b a) 20).bind λf=>c6 d
def GP(a:List ay):Option (List ay):=(Je L a (a.length:Int)).bind λb=>c6 b
def JY(L:Lp)(a:List ay):Option (List ay):=bj 48 [] a
def FQ(b:List ay):Option (List ay):=(JY L b).bind λa=>c6 a
def uv(c:List ay):Option (List ay):=(FQ L c).bind λa=>(GP L a).bind λb=>c6 b
def qR(b:List aM)(a:List aM)(i:Int):Option ((List aM×Int)⊕List aM):=bif c5 (i<(b.length:Int)) then(aj a i).bind λd=>(aj b i).bind λc=>(xW L d c).bind λe=>c6 (dd (a.set i.toNat e.1,c3 c4 (i+1))) else c6 (c7 a)
def lZ(c out:List ay)(i:Int):Option ((List ay×Int)⊕List ay):=bif c5 (i<(c.length:Int)) then(aj c i).bind λb=>(bif c5 (0<(out.length:Int)) then(aj out (c3 c4 ((out.length:Int) -1))).bind λa=>qG L a.aw b.aw else c6 false).bind λf=>bif f then(aj out (c3 c4 ((out.length:Int) -1))).bind λa=>(L.loop (λd=>qR L b.aH d.1 d.2) (a.aH,0)).bind λe=>c6 (dd (out.set (c3 c4 ((out.length:Int) -1)).toNat {a with aH:=e},c3 c4 (i+1))) else(oM L b).bind λg=>(bj 48 out [g]).bind λout=>c6 (dd (out,c3 c4 (i+1))) else c6 (c7 out)
def yK(b:List ay):Option (List ay):=(uv L b).bind λc=>L.loop (λa=>lZ L c a.1 a.2) (([]:List ay),0)
def tC(f:Int)(e:Int)(g:Int)(a:List aM)(c:Int):Option (((List aM)×Int)⊕(List aM)):=bif c5 (c<2) then(aj ([f,e]:yc) c).bind λb=>(aj a b).bind λ_=>(a[b.toNat]?).bind λi=>(xc L i g).bind λd=>(bif c5 (d.2=0) then(aj a b).bind λ_=>(a[b.toNat]?).bind λ_=>c6 (a.set (b.toNat) d.1) else c6 a).bind λh=>c6 (dd (h,c3 c4 (c+1))) else c6 (c7 a)
def H9(i:aL)(b:Int)(c:Int)(j:Int)(e:List ay)(f:Int):Option (((List ay)×Int)⊕(List ay)):=bif c5 (f<(i.aA.length:Int)) then((aj i.aA f).bind λd=>(aj d.aH b).bind λr=>(aj d.aH c).bind λl=>(EE L r l j).bind λp=>bif (!p) then c6 e else(Ac L d).bind λa=>(aj a.1 c).bind λ_=>(a.1[c.toNat]?).bind λg=>(aj a.1 b).bind λ_=>(a.1[b.toNat]?).bind λm=>(aj a.1 b).bind λ_=>(a.1[b.toNat]?).bind λ_=>(aj (a.1.set (b.toNat) g) c).bind λ_=>((a.1.set (b.toNat) g)[c.toNat]?).bind λ_=>((L.loop (λk=>tC L b c j k.1 k.2) (a.2,0)).bind λn=>c6 ((a.1.set (b.toNat) g).set (c.toNat) m,n):Option ((yc)×(List aM))).bind λh=>(bj 48 e ([(ay.mk h.1 h.2)]:List ay)).bind λo=>c6 o:Option (List ay)).bind λq=>c6 (dd (q,c3 c4 (f+1))) else c6 (c7 e)
def yY(l:ak)(a:aL)(c:Int)(b:Int)(d:Int):Option (aL×Int):=(p8 L l a).bind λh=>bif (!h) then c6 (a,6) else(aj a.aA 0).bind λf=>((cp L c 0 (c3 c4 ((f.aw.length:Int) -1))).bind λm=>bif (!m) then c6 true else(cp L b 0 (c3 c4 ((f.aw.length:Int) -1))).bind λk=>bif (!k) then c6 true else c6 (c5 (c=b)):Option Bool).bind λj=>bif j then c6 (a,19) else(cp L d 0 2147483648).bind λo=>bif (!o) then c6 (a,8) else(Ke L a.aA).bind λi=>(L.loop (λg=>H9 L a c b d g.1 g.2) (i,0)).bind λn=>(yK L n).bind λe=>bif c5 (24<(e.length:Int)) then c6 (a,44) else c6 ((aL.mk e),0)
def DV(a:Int)(c:bQ):Option Bool:=bif c5 (a≠1099511627776) then(cp L a c.aa0 2147483648).bind λb=>c6 (!b) else c6 false
def GU(b:yc)(d:bQ)(c:Int):Option (Int⊕(Int⊕Unit)):=wi b (λa=>DV L a d) c
def GH(a:yc)(b:bQ):Option Int:=(L.loop (λe=>GU L a b e) 0).bind λd=>dt (λc=>c6 c) (λf=>c6 (-1)) d
def Ab(b:yc)(c:bQ):Option Bool:=(GH L b c).bind λa=>c6 (c5 (0<=a))
def wB(b:ak)(a:bQ):Option Bool:=(ij L b).bind λc=>bif c then bif c5 ((a.an.length:Int)=(b.ai.length:Int)) then(cp L a.aa0 0 2147483648).bind λe=>bif e then(Ab L a.an a).bind λd=>c6 (!d) else c6 false else c6 false else c6 false
def Fi(L:Lp)(c:bQ)(d:Int)(b:yc)(a:Int):Option (((yc)×Int)⊕(yc)):=bif c5 (a<(c.an.length:Int)) then(aj c.an a).bind λe=>(aj b a).bind λ_=>(b[a.toNat]?).bind λ_=>c6 (dd (b.set (a.toNat) (max e d),c3 c4 (a+1))) else c6 (c7 b)
def Ii(d:ak)(g:bQ)(f:Int)(h:List bI)(c:yc)(b:Int):Option (((yc)×Int)⊕(yc)):=bif c5 (b<(d.af.length:Int)) then(aj d.af b).bind λa=>((aj g.an a.an).bind λl=>bif c5 (l<=f) then(aj h b).bind λm=>(n6 L d b m false).bind λo=>c6 (c5 (0<=o)) else c6 false:Option Bool).bind λj=>(bif j then(aj c a.To).bind λ_=>(c[a.To.toNat]?).bind λ_=>c6 (c.set (a.To.toNat) f) else c6 c).bind λe=>((aj g.an a.To).bind λk=>bif c5 (k<=f) then(aj h b).bind λq=>(n6 L d b q true).bind λn=>c6 (c5 (0<=n)) else c6 false:Option Bool).bind λi=>(bif i then(aj e a.an).bind λ_=>(e[a.an.toNat]?).bind λ_=>c6 (e.set (a.an.toNat) f) else c6 e).bind λp=>c6 (dd (p,c3 c4 (b+1))) else c6 (c7 c)
def uk(d:ak)(g:List bI)(e:ak)(f:List bI)(a:bQ)(c:Int):Option (bQ×Int):=((pD L d g).bind λk=>bif (!k) then c6 true else(wB L d a).bind λj=>bif (!j) then c6 true else(pD L e f).bind λp=>bif (!p) then c6 true else c6 (c5 ((e.ai.length:Int)≠(d.ai.length:Int))):Option Bool).bind λi=>bif i then c6 (a,6) else(bif c5 (c<a.aa0) then c6 true else c6 (c5 (2147483648<c))).bind λh=>bif h then c6 (a,8) else(gP 8 0 (a.an.length:Int)).bind λm=>(L.loop (λb=>Fi L a c b.1 b.2) (m,0)).bind λl=>(L.loop (λb=>Ii L d a c g b.1 b.2) (l,0)).bind λo=>(rM L o e.ai e.af f).bind λn=>c6 ((bQ.mk c n),0)
def HM(L:Lp)(d:yc)(e:Int)(a:yc)(c:Int):Option (((yc)×Int)⊕(yc)):=bif c5 (c<(d.length:Int)) then(aj d c).bind λb=>(aj a b).bind λ_=>(a[b.toNat]?).bind λ_=>c6 (dd (a.set (b.toNat) e,c3 c4 (c+1))) else c6 (c7 a)
def EX(a:ak)(d:List bI)(c:yc)(b:Int):Option ((yc)×Int×Int):=(pD L a d).bind λk=>bif (!k) then c6 (([]:yc),0,6) else(iU L c 0 (c3 c4 ((a.ai.length:Int) -1))).bind λh=>bif (!h) then c6 (([]:yc),0,3) else(cp L b 0 2147483648).bind λi=>bif (!i) then c6 (([]:yc),0,8) else(sJ L ([1099511627776]:yc) (a.ai.length:Int)).bind λj=>(L.loop (λe=>HM L c b e.1 e.2) (j,0)).bind λg=>(rM L g a.ai a.af d).bind λf=>c6 (f,b,0)
def xP(a:cy)(b:Int):Option (Int⊕(Unit⊕Unit)):=bif c5 (b<4) then(aj ([a.abv,a.eB,a.ku,a.mZ]:yc) b).bind λc=>(cp L c 0 2147483648).bind λd=>bif (!d) then c6 (c7 (dd ())) else c6 (dd (c3 c4 (b+1))) else c6 (c7 (c7 ()))
def Dg(a:cy):Option Bool:=(L.loop (λg=>xP L a g) 0).bind λb=>dt (λh=>c6 false) (λi=>((cp L a.anS 1 4).bind λf=>bif (!f) then c6 true else(cp L a.pB 1 2147483648).bind λc=>c6 (!c):Option Bool).bind λe=>bif e then c6 false else bif a.sd then c6 (c5 (a.l9=0)) else(cp L a.l9 a.ku 2147483648).bind λd=>bif d then c6 (!a.uV) else c6 false) b
def qF(L:Lp)(b:yc)(a:Int):Option (Int⊕(Int⊕Unit)):=bif c5 (a<(b.length:Int)) then(aj b a).bind λc=>bif c5 (c≠0) then c6 (c7 (dd c)) else c6 (dd (c3 c4 (a+1))) else c6 (c7 (c7 ()))
def CY(b:yc):Option Int:=(L.loop (λd=>qF L b d) 0).bind λc=>dt (λa=>c6 a) (λe=>c6 0) c
def rK(a:cy)(b:kC):Option Int:=(uE L a.abv b.kind).bind λc=>(uE L a.eB b.Dn).bind λe=>(CY L ([c,e]:yc)).bind λd=>c6 d
def vH(b:List cy)(a:Int):Option (Int⊕(Unit⊕Unit)):=bif c5 (a<(b.length:Int)) then(aj b a).bind λc=>((Dg L c).bind λe=>bif (!e) then c6 true else bif c5 (0<a) then(aj b (c3 c4 (a -1))).bind λg=>(rK L g (kC.mk c.abv c.eB)).bind λd=>c6 (c5 (0<=d)) else c6 false:Option Bool).bind λf=>bif f then c6 (c7 (dd ())) else c6 (dd (c3 c4 (a+1))) else c6 (c7 (c7 ()))
def yE(a:List cy):Option Bool:=bif c5 (64<(a.length:Int)) then c6 false else(L.loop (λc=>vH L a c) 0).bind λb=>dt (λd=>c6 false) (λe=>c6 true) b
def Rt(f:List cy)(g:kC)(a:Int)(b:Int):Option ((Int×Int)⊕Int):=bif c5 (a<b) then(iN .u64 (dv.wrap (c3 c4 (a+b))) 1).bind λc=>(aj f (c3 c4 c)).bind λh=>(rK L h g).bind λe=>(bif c5 (e<0) then c6 (c3 c4 ((c3 c4 c)+1),b) else c6 (a,c3 c4 c)).bind λd=>c6 (dd (d.1,d.2)) else c6 (c7 a)
def Ec(b:List cy)(c:kC):Option (Int×Bool):=(L.loop (λd=>Rt L b c d.1 d.2) (0,(b.length:Int))).bind λa=>bif c5 (a<(b.length:Int)) then(aj b a).bind λe=>(rK L e c).bind λf=>c6 (a,c5 (f=0)) else c6 (a,false)
def D3(L:Lp)(a:List cy)(b:List cy)(c:Int):Option (List cy):=B2 64 a c b
def rk(b:List cy)(f:Int)(g:Int)(d:Int)(e:Int):Option ((List cy)×Int):=(yE L b).bind λi=>bif (!i) then c6 (b,6) else((cp L f 0 2147483648).bind λv=>bif (!v) then c6 true else(cp L g 0 2147483648).bind λs=>bif (!s) then c6 true else(cp L d 1 4).bind λm=>c6 (!m):Option Bool).bind λo=>bif o then c6 (b,1) else(Ec L b (kC.mk f g)).bind λa=>((cp L e 0 2147483648).bind λu=>bif (!u) then c6 true else bif a.2 then(aj b a.1).bind λq=>bif c5 (e<q.ku) then c6 true else(aj b a.1).bind λl=>c6 (c5 (e<l.l9)) else c6 false:Option Bool).bind λp=>bif p then c6 (b,8) else bif (!a.2) then bif c5 ((b.length:Int)=64) then c6 (b,2) else(pI L b).bind λw=>(D3 L w ([(cy.mk f g d e 0 true false 0 1)]:List cy) a.1).bind λj=>c6 (j,0) else(pI L b).bind λc=>(aj c a.1).bind λ_=>(c[a.1.toNat]?).bind λn=>bif (!n.sd) then(c[a.1.toNat]?).bind λk=>(c[a.1.toNat]?).bind λ_=>c6 (c.set (a.1.toNat) (cy.mk f g d e 0 true false 0 (min (c3 c4 (k.pB+1)) 2147483648)),0) else(c[a.1.toNat]?).bind λt=>bif c5 (d<t.anS) then(c[a.1.toNat]?).bind λh=>((c.set (a.1.toNat) ({h with anS:=d}:cy))[a.1.toNat]?).bind λr=>c6 ((c.set (a.1.toNat) ({h with anS:=d}:cy)).set (a.1.toNat) ({r with mZ:=0}:cy),0) else c6 (c,0)
def B0(L:Lp)(b:bC)(a:aR)(c:bH):Option Bool:=(aj a.aI.aa2.af c.A).bind λd=>c6 (c5 (b.akw=d))
def aou(b:List bC)(e:aR)(c:bH)(d:Int):Option (Int⊕(Int⊕Unit)):=wi b (λa=>B0 L a e c) d
def Er(a:List bC)(c:aR)(b:bH):Option Int:=(L.loop (λf=>aou L a c b f) 0).bind λe=>dt (λd=>c6 d) (λg=>c6 (-1)) e
def Dv(b:List bC)(d:aR)(c:bH):Option Bool:=(Er L b d c).bind λa=>c6 (c5 (0<=a))
def EA(a:bA):Option bA:=(cc L a.af).bind λb=>(cc L a.aa2).bind λc=>c6 (bA.mk b c a.Out)
def IL(a:bA):Option ((yc)×(yc)×Bool):=(cc L a.af).bind λb=>(cc L a.aa2).bind λc=>c6 (c,b,a.Out)
def qO(a:bA)(b:Int)(e:Int)(d:Int):Option (bA×Int):=(oL L a).bind λh=>bif (!h) then c6 (a,6) else(cp L b 0 (c3 c4 ((a.aa2.length:Int) -1))).bind λg=>bif (!g) then c6 (a,47) else((aj a.aa2 b).bind λf=>bif c5 (f≠e) then c6 true else c6 a.Out:Option Bool).bind λi=>bif i then c6 (a,48) else(IL L a).bind λc=>(aj c.1 b).bind λ_=>(c.1[b.toNat]?).bind λ_=>c6 ((bA.mk c.2.1 (c.1.set (b.toNat) d) c.2.2),0)
def GQ(b:bA)(c:Int):Option (bA×Int):=(qO L b c 0 1).bind λa=>c6 (a.1,a.2)
def J0(b:bA)(c:Int):Option (bA×Int):=(qO L b c 1 2).bind λa=>c6 (a.1,a.2)
def KV(L:Lp)(a:Int):Option Bool:=c6 (c5 (a≠2))
def ahp(b:yc)(c:Int):Option (Int⊕(Int⊕Unit)):=wi b (λa=>KV L a) c
def CC(a:yc):Option Int:=(L.loop (λd=>ahp L a d) 0).bind λc=>dt (λb=>c6 b) (λe=>c6 (-1)) c
def zA(b:yc):Option Bool:=(CC L b).bind λa=>c6 (c5 (0<=a))
def xi(a:bA)(b:Bool):Option (bA×Int):=(oL L a).bind λd=>bif (!d) then c6 (a,6) else(bif (a.Out==b) then c6 true else bif b then(yh L a).bind λe=>c6 (!e) else c6 false).bind λf=>bif f then c6 (a,48) else(EA L a).bind λc=>c6 ((bA.mk c.af c.aa2 b),0)
def Cu(b:bA):Option (bA×Int):=(xi L b true).bind λa=>c6 (a.1,a.2)
def Jb(L:Lp)(a:aM)(b:Int):Option Bool:=c6 (c5 (b<a.aa0))
def Gr(b:List aM)(d:Int)(c:Int):Option (Int⊕(Int⊕Unit)):=wi b (λa=>Jb L a d) c
def Gk(a:List aM)(b:Int):Option Int:=(L.loop (λe=>Gr L a b e) 0).bind λd=>dt (λc=>c6 c) (λf=>c6 (-1)) d
def JC(b:List aM)(c:Int):Option Bool:=(Gk L b c).bind λa=>c6 (c5 (0<=a))
def AP(b:ay)(c:Int):Option Bool:=(JC L b.aH c).bind λa=>c6 a
def Jx(b:List ay)(d:Int)(c:Int):Option (Int⊕(Int⊕Unit)):=wi b (λa=>AP L a d) c
def Jm(a:List ay)(b:Int):Option Int:=(L.loop (λe=>Jx L a b e) 0).bind λd=>dt (λc=>c6 c) (λf=>c6 (-1)) d
def AL(b:List ay)(c:Int):Option Bool:=(Jm L b c).bind λa=>c6 (c5 (0<=a))
def xT(c:ak)(a:aM)(b:Int):Option (aM×Int):=((ij L c).bind λe=>bif (!e) then c6 true else(ur L c a).bind λf=>c6 (!f):Option Bool).bind λjA=>bif jA then c6 (a,6) else(bif c5 (b<a.aa0) then c6 true else c6 (c5 (2147483648<b))).bind λkE=>bif kE then c6 (a,8) else(ze L c a.an b).bind λd=>c6 ((aM.mk b d),0)
def IJ(b:yc)(d:ak)(c:Int)(a:Int):Option (aM×Int):=((ij L d).bind λf=>bif (!f) then c6 true else(ur L d (aM.mk c b)).bind λg=>c6 (!g):Option Bool).bind λjA=>bif jA then c6 ((aM.mk c b),6) else(bif c5 (a<c) then c6 true else c6 (c5 (2147483648<a))).bind λkE=>bif kE then c6 ((aM.mk c b),8) else(sI L d b a).bind λe=>c6 ((aM.mk a e),0)
def JO(L:Lp)(d:yc)(e:aM)(a:yc)(c:Int):Option (((yc)×Int)⊕(yc)):=bif c5 (c<(d.length:Int)) then(aj d c).bind λb=>(aj e.an b).bind λf=>(aj a b).bind λ_=>(a[b.toNat]?).bind λ_=>c6 (dd (a.set (b.toNat) f,c3 c4 (c+1))) else c6 (c7 a)
def CA(f:ak)(a:aM)(c:Int):Option (aM×Int):=(sJ L ([1099511627776]:yc) (a.an.length:Int)).bind λh=>(su L a c).bind λg=>(L.loop (λd=>JO L g a d.1 d.2) (h,0)).bind λe=>(IJ L e f a.aa0 c).bind λb=>c6 (b.1,b.2)
def zx(d:ay)(h:ak×Int)(e:Int)(g:aL)(b:List aM)(a:Int):Option (((List aM)×Int)⊕(((List ay)×Int)⊕(List aM))):=bif c5 (a<(d.aH.length:Int)) then(aj d.aH a).bind λf=>(CA L h.1 f e).bind λc=>bif c5 (c.2≠0) then c6 (c7 (dd (g.aA,c.2))) else(aj b a).bind λ_=>(b[a.toNat]?).bind λ_=>c6 (dd (b.set (a.toNat) c.1,c3 c4 (a+1))) else c6 (c7 (c7 b))
def FR(b:aL)(n:ak×Int)(j:Int)(f:List ay)(a:Int):Option (((List ay)×Int)⊕(((List ay)×Int)⊕(List ay))):=bif c5 (a<(b.aA.length:Int)) then(aj b.aA a).bind λi=>(mH L i).bind λe=>((L.loop (λd=>zx L i n j b d.1 d.2) (e.1,0)).bind λo=>dt (λc=>c6 (c7 (c.1,c.2))) (λk=>c6 (dd (e.2,k))) o:Option (((yc)×(List aM))⊕((List ay)×Int))).bind λl=>dt (λh=>(bj 48 f ([(ay.mk h.1 h.2)]:List ay)).bind λm=>c6 (dd (m,c3 c4 (a+1)))) (λg=>c6 (c7 (dd (g.1,g.2)))) l else c6 (c7 (c7 f))
def Em(f:ak)(a:aL)(k:yc)(b:Int):Option (aL×Int):=(p8 L f a).bind λh=>bif (!h) then c6 (a,6) else(sW L f k).bind λc=>bif c5 (c.2≠0) then c6 (a,c.2) else(bif c5 (2147483648<b) then c6 true else(AL L a.aA b).bind λm=>c6 m).bind λl=>bif l then c6 (a,8) else(L.loop (λd=>FR L a c b d.1 d.2) (([]:List ay),0)).bind λj=>dt (λe=>c6 ((aL.mk e.1),e.2)) (λg=>(yK L g).bind λi=>c6 ((aL.mk i),0)) j
def zd(L:Lp)(b:b7)(a:Int):Option Bool:=bif c5 (b.aa0<=a) then c6 (c5 (a<=2147483648)) else c6 false
def CR(a:Int)(b:aM):Option Bool:=(cp L a 0 (c3 c4 ((b.an.length:Int) -1))).bind λc=>bif c then(aj b.an a).bind λd=>c6 (c5 (d≠1099511627776)) else c6 false
def G9(b:yc)(d:aM)(c:Int):Option (Int⊕(Int⊕Unit)):=wi b (λa=>CR L a d) c
def G4(a:yc)(b:aM):Option Int:=(L.loop (λe=>G9 L a b e) 0).bind λd=>dt (λc=>c6 c) (λf=>c6 (-1)) d
def As(b:yc)(c:aM):Option Bool:=(G4 L b c).bind λa=>c6 (c5 (0<=a))
def xK(b:ay)(d:yc)(a:Int):Option (Int⊕(Unit⊕Unit)):=bif c5 (a<(b.aH.length:Int)) then(aj b.aH a).bind λe=>(As L d e).bind λc=>bif c then c6 (c7 (dd ())) else c6 (dd (c3 c4 (a+1))) else c6 (c7 (c7 ()))
def wF(b:aL)(d:yc)(a:Int):Option (Int⊕(Unit⊕Unit)):=bif c5 (a<(b.aA.length:Int)) then(aj b.aA a).bind λc=>(L.loop (λf=>xK L c d f) 0).bind λe=>dt (λg=>c6 (c7 (dd ()))) (λh=>c6 (dd (c3 c4 (a+1)))) e else c6 (c7 (c7 ()))
def wA(a:aL)(b:yc):Option Bool:=(L.loop (λc=>wF L a b c) 0).bind λd=>dt (λf=>c6 false) (λe=>c6 true) d
def Ah(a:cd)(c:bA)(b:aL):Option Bool:=(oT L a (b7.mk 0 0 0 0)).bind λd=>bif d then(oL L c).bind λf=>bif f then bif c.Out then bif c5 (0<(b.aA.length:Int)) then(wA L b a.bT).bind λe=>c6 e else c6 false else c6 false else c6 false else c6 false
def si(a:jf)(f:Bool):Option Int:=(oT L a.x a.s).bind λh=>bif (!h) then c6 6 else bif c5 (a.s.State≠a.from_) then c6 10 else(bif c5 (a.t<0) then c6 true else(zd L a.s a.t).bind λi=>c6 (!i)).bind λd=>bif d then c6 8 else bif f then c6 19 else(bif c5 (a.from_≠0) then c6 (c5 (a.x.dZ<(c3 c4 (a.t -a.s.aa0)))) else c6 false).bind λc=>bif c then c6 10 else((oL L a.k).bind λb=>bif (!b) then c6 true else c6 (!a.k.Out):Option Bool).bind λe=>bif e then c6 48 else(Ah L a.x a.k a.b).bind λg=>bif (!g) then c6 49 else c6 0
def BR(f:cd)(a:b7)(g:bA)(e:aL)(b:Int)(d:Int):Option (b7×Int):=(si L (jf.mk f a g e d 0) (c5 (b<=0))).bind λc=>bif c5 (c≠0) then c6 (a,c) else c6 ((b7.mk 1 b 0 d),0)
def AJ(e:cd)(a:b7)(f:bA)(d:aL)(b:Int)(c:Int):Option (b7×Int):=(bif c5 (b<=0) then(si L (jf.mk e a f d c 1) true).bind λi=>c6 i else(si L (jf.mk e a f d c 1) (c5 (b=a.dD))).bind λh=>c6 h).bind λg=>bif c5 (g≠0) then c6 (a,g) else c6 ((b7.mk 2 a.dD b c),0)
def CM(e:cd)(a:b7)(f:bA)(d:aL)(b:Int)(g:Bool):Option (b7×Int):=(si L (jf.mk e a f d b 2) false).bind λc=>bif c5 (c≠0) then c6 (a,c) else bif g then c6 (({a with State:=4,aa0:=b}:b7),0) else c6 (({a with State:=3,aa0:=b}:b7),0)
def tW(c:aB)(b:aB)(a:Int):Option (zu⊕Ba):=bif c5 (a<(c.aQ.length:Int)) then(aj c.aQ a).bind λd=>(cc L d.ai).bind λe=>(bj 48 b.aQ ([({d with ai:=e}:aS)]:List aS)).bind λf=>c6 (dd (KL ({b with aQ:=f}:aB) (c3 c4 (a+1)))) else c6 (c7 (CD b))
def va(c:aB)(b:aB)(a:Int):Option (Df⊕Ba):=bif c5 (a<(c.bp.length:Int)) then(aj c.bp a).bind λf=>(cc L f).bind λe=>(bj 24 b.bp ([e]:List (yc))).bind λd=>c6 (dd (IC ({b with bp:=d}:aB) (c3 c4 (a+1)))) else c6 (c7 (CD b))
def D6(a:aB):Option KA:=(kF L a.ao.ai).bind λe=>(kQ L a.ao.af).bind λc=>(rf L a.aN).bind λb=>(cc L a.aw).bind λk=>(L.loop (λd=>tW L a (MR c b d) (L9 d)) (KL ({a with ao:=(ak.mk e c),aN:=b,aw:=k,aQ:=([]:List aS)}:aB) 0)).bind λf=>let g:=O3 c b f;(cc L a.cn).bind λh=>(cc L a.cf).bind λj=>(L.loop (λd=>va L a (R4 c b d) (Lw d)) (IC ({g with cn:=h,cf:=j,bp:=([]:List (yc))}:aB) 0)).bind λl=>let i:=O3 c b l;c6 (MF i)
def vt(L:Lp)(d:aB)(e:Int)(a:List bC)(b:Int):Option (((List bC)×Int)⊕(List bC)):=bif c5 (b<(d.aN.length:Int)) then(aj a b).bind λ_=>(a[b.toNat]?).bind λc=>(bif c5 (c.akw=e) then(aj a b).bind λ_=>(a[b.toNat]?).bind λ_=>c6 (a.set (b.toNat) (bC.mk c.abG (-1) 0)) else c6 a).bind λf=>c6 (dd (f,c3 c4 (b+1))) else c6 (c7 a)
def wO(b:aB)(c:Int):Option (aB×Int):=(pV L b).bind λg=>bif (!g) then c6 (b,6) else((cp L c 0 (c3 c4 ((b.ao.af.length:Int) -1))).bind λe=>bif (!e) then c6 true else(aj b.ao.af c).bind λh=>c6 h.eN:Option Bool).bind λf=>bif f then c6 (b,4) else(D6 L b).bind λi=>let a:=VD i;(aj a.ao.af c).bind λ_=>(a.ao.af[c.toNat]?).bind λj=>(L.loop (λd=>vt L a c d.1 d.2) (a.aN,0)).bind λk=>c6 (({a with ao:=(ak.mk a.ao.ai (a.ao.af.set (c.toNat) ({j with eN:=true}:aZ))),aN:=k}:aB),0)
def An(e:ay)(g:ak)(h:Int)(i:aL)(c:List aM)(d:Int)(a:Int):Option (((List aM)×Int×Int)⊕(((List ay)×Int)⊕((List aM)×Int))):=bif c5 (a<(e.aH.length:Int)) then(aj e.aH a).bind λf=>(xT L g f h).bind λb=>bif c5 (b.2=6) then c6 (c7 (dd (i.aA,b.2))) else(bif c5 (d=0) then c6 b.2 else c6 d).bind λj=>(aj c a).bind λ_=>(c[a.toNat]?).bind λ_=>c6 (dd (c.set (a.toNat) b.1,j,c3 c4 (a+1))) else c6 (c7 (c7 (c,d)))
def Ka(b:aL)(l:ak)(m:Int)(k:List ay)(e:Int)(a:Int):Option (((List ay)×Int×Int)⊕(((List ay)×Int)⊕((List ay)×Int))):=bif c5 (a<(b.aA.length:Int)) then(aj b.aA a).bind λh=>(mH L h).bind λj=>((L.loop (λd=>An L h l m b d.1 d.2.1 d.2.2) (j.1,e,0)).bind λp=>dt (λf=>c6 (c7 (f.1,f.2))) (λi=>c6 (dd (j.2,i.1,i.2))) p:Option (((yc)×(List aM)×Int)⊕((List ay)×Int))).bind λn=>dt (λc=>(bj 48 k ([(ay.mk c.1 c.2.1)]:List ay)).bind λo=>c6 (dd (o,c.2.2,c3 c4 (a+1)))) (λg=>c6 (c7 (dd (g.1,g.2)))) n else c6 (c7 (c7 (k,e)))
def kW(e:ak)(a:aL)(g:Int):Option (aL×Int):=((ij L e).bind λj=>bif (!j) then c6 true else(cp L (a.aA.length:Int) 1 24).bind λi=>c6 (!i):Option Bool).bind λh=>bif h then c6 (a,6) else(L.loop (λc=>Ka L a e g c.1 c.2.1 c.2.2) (([]:List ay),0,0)).bind λf=>dt (λd=>c6 ((aL.mk d.1),d.2)) (λb=>bif c5 (b.2≠0) then c6 (a,b.2) else c6 ((aL.mk b.1),0)) f
def Kc(L:Lp)(c:bQ)(d:Int)(b:yc)(a:Int):Option (((yc)×Int)⊕(yc)):=bif c5 (a<(c.an.length:Int)) then(aj c.an a).bind λe=>(aj b a).bind λ_=>(b[a.toNat]?).bind λ_=>c6 (dd (b.set (a.toNat) (max e d),c3 c4 (a+1))) else c6 (c7 b)
def Jl(e:ak)(h:bQ)(f:Int)(g:List bI)(c:yc)(b:Int):Option (((yc)×Int)⊕(yc)):=bif c5 (b<(e.af.length:Int)) then(aj e.af b).bind λa=>((aj h.an a.an).bind λl=>bif c5 (l<=f) then(aj g b).bind λm=>(n6 L e b m false).bind λo=>c6 (c5 (0<=o)) else c6 false:Option Bool).bind λj=>(bif j then(aj c a.To).bind λ_=>(c[a.To.toNat]?).bind λ_=>c6 (c.set (a.To.toNat) f) else c6 c).bind λd=>((aj h.an a.To).bind λk=>bif c5 (k<=f) then(aj g b).bind λq=>(n6 L e b q true).bind λn=>c6 (c5 (0<=n)) else c6 false:Option Bool).bind λi=>(bif i then(aj d a.an).bind λ_=>(d[a.an.toNat]?).bind λ_=>c6 (d.set (a.an.toNat) f) else c6 d).bind λp=>c6 (dd (p,c3 c4 (b+1))) else c6 (c7 c)
def yg(c:List bI)(f:ak)(g:List bI)(e:ak)(a:bQ)(d:Int):Option ((List bI)×bQ×Int):=((pD L f g).bind λk=>bif (!k) then c6 true else(wB L f a).bind λj=>bif (!j) then c6 true else(pD L e c).bind λp=>bif (!p) then c6 true else c6 (c5 ((e.ai.length:Int)≠(f.ai.length:Int))):Option Bool).bind λi=>bif i then c6 (c,a,6) else(bif c5 (d<a.aa0) then c6 true else c6 (c5 (2147483648<d))).bind λh=>bif h then c6 (c,a,8) else(gP 8 0 (a.an.length:Int)).bind λm=>(L.loop (λb=>Kc L a d b.1 b.2) (m,0)).bind λl=>(L.loop (λb=>Jl L f a d g b.1 b.2) (l,0)).bind λo=>(rM L o e.ai e.af c).bind λn=>c6 (c,(bQ.mk d n),0)
def A8(L:Lp)(b:Int)(a:bQ)(c:Int):Option Bool:=(aj a.an b).bind λd=>c6 (c5 (d<=c))
def JS(c:Int)(e:bQ)(d:Int)(b:yc)(a:Int):Option (((yc)×Int)⊕(yc)):=bif c5 (a<c) then(A8 L a e d).bind λf=>(bif f then(bj 8 b ([a]:yc)).bind λg=>c6 g else c6 b).bind λh=>c6 (dd (h,c3 c4 (a+1))) else c6 (c7 b)
def Fc(c:Int)(d:bQ)(b:Int):Option yc:=(L.loop (λa=>JS L c d b a.1 a.2) (([]:yc),0)).bind λe=>c6 e
def w6(a:bQ)(c:Int):Option yc:=(Fc L (a.an.length:Int) a c).bind λb=>c6 b
def E7(b:Int)(c:yc):Option Bool:=(im L c b).bind λa=>c6 a
def X8(b:yc)(d:yc)(c:Int):Option (Int⊕(Int⊕Unit)):=wi b (λa=>E7 L a d) c
def zW(a:yc)(b:yc):Option Int:=(L.loop (λe=>X8 L a b e) 0).bind λd=>dt (λc=>c6 c) (λf=>c6 (-1)) d
def EZ(b:yc)(c:yc):Option Bool:=(zW L b c).bind λa=>c6 (c5 (0<=a))
def Cj(L:Lp)(d:yc)(a:List aZ)(c:Int):Option (((List aZ)×Int)⊕(List aZ)):=bif c5 (c<(d.length:Int)) then(aj d c).bind λb=>(aj a b).bind λ_=>(a[b.toNat]?).bind λe=>c6 (dd (a.set (b.toNat) ({e with eN:=true}:aZ),c3 c4 (c+1))) else c6 (c7 a)
def T4(L:Lp)(d:yc)(a:List aZ)(b:Int):Option (((List aZ)×Int)⊕(List aZ)):=bif c5 (b<(d.length:Int)) then(aj d b).bind λc=>(aj a c).bind λ_=>(a[c.toNat]?).bind λe=>c6 (dd (a.set (c.toNat) ({e with eN:=false}:aZ),c3 c4 (b+1))) else c6 (c7 a)
def yB(a:ak)(d:yc)(c:yc):Option (ak×Int):=(ij L a).bind λf=>bif (!f) then c6 ((ak.mk ([]:List bP) ([]:List aZ)),6) else((iU L d 0 (c3 c4 ((a.af.length:Int) -1))).bind λj=>bif (!j) then c6 true else(iU L c 0 (c3 c4 ((a.af.length:Int) -1))).bind λm=>bif (!m) then c6 true else(EZ L d c).bind λg=>c6 g:Option Bool).bind λh=>bif h then c6 ((ak.mk ([]:List bP) ([]:List aZ)),4) else(kF L a.ai).bind λi=>(kQ L a.af).bind λk=>(L.loop (λb=>Cj L d b.1 b.2) (k,0)).bind λe=>(L.loop (λb=>T4 L c b.1 b.2) (e,0)).bind λl=>c6 ((ak.mk i l),0)
def EU(a:ak)(g:bE)(e:aL)(c:Int)(h:Int):Option Int:=((rP L a g).bind λk=>bif (!k) then c6 true else(p8 L a e).bind λi=>c6 (!i):Option Bool).bind λf=>bif f then c6 6 else((cp L c 0 2147483648).bind λb=>bif (!b) then c6 true else(cp L h 0 2147483648).bind λj=>c6 (!j):Option Bool).bind λd=>bif d then c6 8 else c6 0
def zt(a:ay)(b:Int)(c:Int)(d:Int):Option Bool:=(cp L b 0 (c3 c4 ((a.aH.length:Int) -1))).bind λe=>bif e then(aj a.aH b).bind λf=>bif c5 (c<(f.an.length:Int)) then(aj a.aH b).bind λh=>(aj h.an c).bind λg=>c6 (c5 (g<=d)) else c6 false else c6 false
def GA(c:List ay)(f:Int)(d:Int)(a:Int)(e:Int):Option (Int⊕(Int⊕Unit)):=wi c (λb=>zt L b f d a) e
def Gu(c:List ay)(d:Int)(b:Int)(a:Int):Option Int:=(L.loop (λg=>GA L c d b a g) 0).bind λf=>dt (λe=>c6 e) (λh=>c6 (-1)) f
def FH(b:List ay)(d:Int)(c:Int)(a:Int):Option Bool:=(Gu L b d c a).bind λe=>c6 (c5 (0<=e))
def AZ(b:Int)(d:List ay)(c:Int)(a:Int):Option Bool:=(FH L d c b a).bind λe=>c6 e
def JI(d:Int)(f:List ay)(e:Int)(c:Int)(b:yc)(a:Int):Option (((yc)×Int)⊕(yc)):=bif c5 (a<d) then(AZ L a f e c).bind λg=>(bif g then(bj 8 b ([a]:yc)).bind λh=>c6 h else c6 b).bind λi=>c6 (dd (i,c3 c4 (a+1))) else c6 (c7 b)
def Lb(d:Int)(e:List ay)(c:Int)(b:Int):Option yc:=(L.loop (λa=>JI L d e c b a.1 a.2) (([]:yc),0)).bind λf=>c6 f
def rJ(b:aL)(d:Int)(c:Int):Option yc:=(Lb L 64 b.aA d c).bind λa=>c6 a
def CW(L:Lp)(a:Int):Option yc:=Ct 8 a
def ve(L:Lp)(c:List (yc))(b:Int)(a:Int):Option ((Int×Int)⊕Int):=bif c5 (a<(c.length:Int)) then(aj c a).bind λd=>bif c5 ((c3 c4 (b+(d.length:Int)))<0) then e0 else c6 (dd (c3 c4 (b+(d.length:Int)),c3 c4 (a+1))) else c6 (c7 b)
def xV(L:Lp)(b:List (yc))(c:yc)(a:Int):Option (((yc)×Int)⊕(yc)):=bif c5 (a<(b.length:Int)) then(aj b a).bind λd=>(bj 8 c d).bind λe=>c6 (dd (e,c3 c4 (a+1))) else c6 (c7 c)
def He(b:List (yc)):Option yc:=(L.loop (λa=>ve L b a.1 a.2) (0,0)).bind λd=>(CW L d).bind λc=>(L.loop (λa=>xV L b a.1 a.2) (c,0)).bind λe=>c6 e
def Bc(a:ak)(e:bE)(d:Int):Option Bool:=(rP L a e).bind λb=>bif b then(cp L d 0 (c3 c4 ((a.ai.length:Int) -1))).bind λc=>c6 c else c6 false
def Fx(L:Lp):Option kD:=c6 (kD.mk 2 3 4)
def nK(a:ak)(b:Int)(d:Bool):Option Int:=((ij L a).bind λe=>bif (!e) then c6 true else bif c5 (b<0) then c6 true else c6 (c5 ((a.af.length:Int)<=b)):Option Bool).bind λg=>bif g then c6 (-1) else(Fx L).bind λf=>(xu L a b d f).bind λc=>c6 c
def u5(L:Lp)(c:ak)(b:List Bool)(a:Int):Option (((List Bool)×Int)⊕(List Bool)):=bif c5 (a<(c.ai.length:Int)) then(aj c.ai a).bind λd=>(aj b a).bind λ_=>(b[a.toNat]?).bind λ_=>c6 (dd (b.set (a.toNat) d.wj,c3 c4 (a+1))) else c6 (c7 b)
def wU(L:Lp)(d:bE)(a:List Bool)(c:Int):Option (((List Bool)×Int)⊕(List Bool)):=bif c5 (c<(d.akL.length:Int)) then(aj d.akL c).bind λb=>(aj a b).bind λ_=>(a[b.toNat]?).bind λ_=>c6 (dd (a.set (b.toNat) true,c3 c4 (c+1))) else c6 (c7 a)
def wu(L:Lp)(d:bE)(a:List Bool)(b:Int):Option (((List Bool)×Int)⊕(List Bool)):=bif c5 (b<(d.dg.length:Int)) then(aj d.dg b).bind λc=>(aj a c).bind λ_=>(a[c.toNat]?).bind λ_=>c6 (dd (a.set (c.toNat) true,c3 c4 (b+1))) else c6 (c7 a)
def pS(f:ak)(m:bE)(c:List Bool)(b:List Bool)(d:cm)(a:Int):Option (pE⊕lU):=bif c5 (a<(f.af.length:Int)) then((aj f.af a).bind λe=>(im L m.dG a).bind λo=>bif o then c6 (iC d) else(nK L f a false).bind λi=>(bif c5 (0<=i) then(bj 32 d.steps ([(cS.mk a e.an e.To i)]:List cS)).bind λj=>c6 (iC (cm.mk d.n j c b)) else c6 (iC d)).bind λp=>let g:=ox c b p;(nK L f a true).bind λh=>(bif c5 (0<=h) then(bj 32 g.steps ([(cS.mk a e.To e.an h)]:List cS)).bind λk=>c6 (iC (cm.mk g.n k c b)) else c6 (iC g)).bind λn=>let r:=ox c b n;c6 (iC r):Option lU).bind λl=>let q:=ox c b l;c6 (dd (nC q (c3 c4 (a+1)))) else c6 (c7 (iC d))
def w9(b:ak)(e:bE):Option cm:=(gP 1 false (b.ai.length:Int)).bind λh=>(gP 1 false (b.ai.length:Int)).bind λi=>(L.loop (λa=>u5 L b a.1 a.2) (h,0)).bind λj=>(L.loop (λa=>wU L e a.1 a.2) (j,0)).bind λc=>(L.loop (λa=>wu L e a.1 a.2) (i,0)).bind λd=>(L.loop (λa=>pS L b e c d (wK c d a) (wo a)) (nC (cm.mk (b.ai.length:Int) ([]:List cS) c d) 0)).bind λg=>let f:=ox c d g;c6 f
def wJ(L:Lp)(a:cm)(b:cS):Option Bool:=(aj a.safe b.from_).bind λd=>bif (!d) then(aj a.bad b.b9).bind λc=>c6 (!c) else c6 false
def zX(L:Lp)(a:da)(b:da):Option Bool:=bif c5 (a.time<b.time) then c6 true else bif c5 (a.time=b.time) then c6 (c5 (a.roads<b.roads)) else c6 false
def zV(L:Lp)(d:List da)(e:cm)(b:List da)(a:Int):Option (((List da)×Int)⊕(List da)):=bif c5 (a<(d.length:Int)) then(aj e.safe a).bind λc=>(bif (!c) then(aj b a).bind λ_=>(b[a.toNat]?).bind λf=>c6 (b.set (a.toNat) (da.mk 1152921504606846976 f.roads)) else c6 b).bind λg=>c6 (dd (g,c3 c4 (a+1))) else c6 (c7 b)
def AB(c:cm)(b:List da)(f:Bool)(d:Int):Option (((List da)×Bool×Int)⊕((List da)×Bool)):=bif c5 (d<(c.steps.length:Int)) then(aj c.steps d).bind λa=>(aj b a.b9).bind λ_=>(b[a.b9.toNat]?).bind λe=>(aj b a.b9).bind λ_=>(b[a.b9.toNat]?).bind λg=>((wJ L c a).bind λl=>bif l then(aj b a.b9).bind λ_=>(b[a.b9.toNat]?).bind λj=>bif c5 (j.time<1152921504606846976) then(aj b a.from_).bind λ_=>(b[a.from_.toNat]?).bind λi=>(zX L (da.mk (c3 c4 (e.time+a.time)) (c3 c4 (g.roads+1))) i).bind λk=>c6 k else c6 false else c6 false:Option Bool).bind λm=>(bif m then(aj b a.from_).bind λ_=>(b[a.from_.toNat]?).bind λ_=>c6 (b.set (a.from_.toNat) (da.mk (c3 c4 (e.time+a.time)) (c3 c4 (g.roads+1))),true) else c6 (b,f)).bind λh=>c6 (dd (h.1,h.2,c3 c4 (d+1))) else c6 (c7 (b,f))
def Tg(d:cm)(c:List da)(e:Bool):Option (((List da)×Bool)⊕(List da)):=bif e then(L.loop (λa=>AB L d a.1 a.2.1 a.2.2) (c,false,0)).bind λb=>c6 (dd (b.1,b.2)) else c6 (c7 c)
def Bg(b:cm):Option (List da):=(gP 16 (da.mk 0 0) b.n).bind λc=>(L.loop (λa=>zV L c b a.1 a.2) (c,0)).bind λd=>(L.loop (λa=>Tg L b a.1 a.2) (d,true)).bind λe=>c6 e
def EN(a:cS)(c:Int)(f:cm)(b:List da):Option Bool:=bif c5 (a.from_=c) then(wJ L f a).bind λe=>bif e then(aj b a.b9).bind λd=>(aj b c).bind λh=>(aj b c).bind λg=>c6 ((d.time==(c3 c4 (h.time -a.time)))&&((d.roads==(c3 c4 (g.roads -1)))&&true)) else c6 false else c6 false
def Y0(c:List cS)(f:Int)(d:cm)(a:List da)(e:Int):Option (Int⊕(Int⊕Unit)):=wi c (λb=>EN L b f d a) e
def Aj(c:List cS)(d:Int)(b:cm)(a:List da):Option Int:=(L.loop (λg=>Y0 L c d b a g) 0).bind λf=>dt (λe=>c6 e) (λh=>c6 (-1)) f
def Lo(a:cm)(h:List da)(b:yc)(d:yc)(f:Int):Option (((yc)×(yc)×Int)⊕((yc)×(yc))):=(aj a.safe f).bind λk=>bif (!k) then(Aj L a.steps f a h).bind λc=>(aj a.steps c).bind λe=>(aj a.steps c).bind λi=>(bj 8 d ([i.gX]:yc)).bind λj=>(bj 8 b ([e.b9]:yc)).bind λg=>c6 (dd (g,j,e.b9)) else c6 (c7 (b,d))
def yN(d:cm)(a:Int):Option ((yc)×(yc)×Int×Bool):=(Bg L d).bind λb=>(aj b a).bind λg=>bif c5 (1152921504606846976<=g.time) then c6 (([]:yc),([]:yc),0,false) else(L.loop (λc=>Lo L d b c.1 c.2.1 c.2.2) (([a]:yc),([]:yc),a)).bind λe=>(aj b a).bind λf=>c6 (e.2,e.1,f.time,true)
def ye(b:cS)(c:yc):Option Bool:=(im L c b.gX).bind λa=>c6 a
def aaQ(b:List cS)(d:yc)(c:Int):Option (Int⊕(Int⊕Unit)):=wi b (λa=>ye L a d) c
def AM(a:List cS)(b:yc):Option Int:=(L.loop (λe=>aaQ L a b e) 0).bind λd=>dt (λc=>c6 c) (λf=>c6 (-1)) d
def Ww(g:yc)(a:List cS)(b:Int)(c:Int):Option (((List cS)×Int×Int)⊕((List cS)×Int)):=bif c5 (c<(a.length:Int)) then(aj a c).bind λ_=>(a[c.toNat]?).bind λe=>(ye L e g).bind λf=>(bif (!f) then(aj a b).bind λ_=>(a[b.toNat]?).bind λ_=>c6 (a.set (b.toNat) e,c3 c4 (b+1)) else c6 (a,b)).bind λd=>c6 (dd (d.1,d.2,c3 c4 (c+1))) else c6 (c7 (a,b))
def Bm(c:List cS)(e:yc):Option (List cS):=(AM L c e).bind λb=>bif c5 (b=(-1)) then c6 c else(L.loop (λd=>Ww L e d.1 d.2.1 d.2.2) (c,b,c3 c4 (b+1))).bind λa=>(eG a.1 a.2 (a.1.length:Int)).bind λ_=>(eG (iG (cS.mk 0 0 0 0) (a.2.toNat) (((a.1.length:Int)).toNat -a.2.toNat) a.1) 0 a.2).bind λf=>c6 f
def ZO(L:Lp)(c:ak)(b:List Bool)(a:Int):Option (((List Bool)×Int)⊕(List Bool)):=bif c5 (a<(c.ai.length:Int)) then(aj c.ai a).bind λd=>(aj b a).bind λ_=>(b[a.toNat]?).bind λ_=>c6 (dd (b.set (a.toNat) d.wj,c3 c4 (a+1))) else c6 (c7 b)
def VO(L:Lp)(d:bE)(a:List Bool)(c:Int):Option (((List Bool)×Int)⊕(List Bool)):=bif c5 (c<(d.akL.length:Int)) then(aj d.akL c).bind λb=>(aj a b).bind λ_=>(a[b.toNat]?).bind λ_=>c6 (dd (a.set (b.toNat) true,c3 c4 (c+1))) else c6 (c7 a)
def ahZ(L:Lp)(d:bE)(a:List Bool)(b:Int):Option (((List Bool)×Int)⊕(List Bool)):=bif c5 (b<(d.dg.length:Int)) then(aj d.dg b).bind λc=>(aj a c).bind λ_=>(a[c.toNat]?).bind λ_=>c6 (dd (a.set (c.toNat) true,c3 c4 (b+1))) else c6 (c7 a)
def aeO(f:ak)(m:bE)(c:List Bool)(b:List Bool)(d:cm)(a:Int):Option (pE⊕lU):=bif c5 (a<(f.af.length:Int)) then((aj f.af a).bind λe=>(im L m.dG a).bind λo=>bif o then c6 (iC d) else(nK L f a false).bind λi=>(bif c5 (0<=i) then(bj 32 d.steps ([(cS.mk a e.an e.To i)]:List cS)).bind λj=>c6 (iC (cm.mk d.n j c b)) else c6 (iC d)).bind λp=>let g:=ox c b p;(nK L f a true).bind λh=>(bif c5 (0<=h) then(bj 32 g.steps ([(cS.mk a e.To e.an h)]:List cS)).bind λk=>c6 (iC (cm.mk g.n k c b)) else c6 (iC g)).bind λn=>let r:=ox c b n;c6 (iC r):Option lU).bind λl=>let q:=ox c b l;c6 (dd (nC q (c3 c4 (a+1)))) else c6 (c7 (iC d))
def DM(b:ak)(e:bE):Option Il:=(gP 1 false (b.ai.length:Int)).bind λh=>(gP 1 false (b.ai.length:Int)).bind λi=>(L.loop (λa=>ZO L b a.1 a.2) (h,0)).bind λj=>(L.loop (λa=>VO L e a.1 a.2) (j,0)).bind λc=>(L.loop (λa=>ahZ L e a.1 a.2) (i,0)).bind λd=>(L.loop (λa=>aeO L b e c d (wK c d a) (wo a)) (nC (cm.mk (b.ai.length:Int) ([]:List cS) c d) 0)).bind λg=>let f:=ox c d g;c6 (JJ f)
def I9(L:Lp)(a:(yc)×(yc)×Int×Bool)(c:List Bool)(b:Int):Option (((List Bool)×Int)⊕(List Bool)):=bif c5 (b<(((a.2.1.drop ((1:Int).toNat)).take (((a.2.1.length:Int)).toNat - (1:Int).toNat)).length:Int)) then(aj ((a.2.1.drop ((1:Int).toNat)).take (((a.2.1.length:Int)).toNat - (1:Int).toNat)) b).bind λ_=>(a.2.1[((1:Int).toNat+b.toNat)]?).bind λd=>(aj c d).bind λ_=>(c[d.toNat]?).bind λ_=>c6 (dd (c.set (d.toNat) true,c3 c4 (b+1))) else c6 (c7 c)
def r7(e:ak)(f:bE)(d:Int):Option ((yc)×(yc)×ju×Bool):=(Bc L e f d).bind λk=>bif (!k) then c6 (([]:yc),([]:yc),(ju.mk 0 0),false) else(DM L e f).bind λh=>let b:=Lk h;(aj b.safe d).bind λl=>bif l then c6 (([]:yc),([]:yc),(ju.mk 0 0),true) else(yN L b d).bind λa=>bif (!a.2.2.2) then c6 (([]:yc),([]:yc),(ju.mk 0 0),false) else(eG a.2.1 1 (a.2.1.length:Int)).bind λ_=>(L.loop (λg=>I9 L a g.1 g.2) (b.bad,0)).bind λi=>(Bm L b.steps a.1).bind λj=>(yN L ({b with steps:=j,bad:=i}:cm) d).bind λc=>bif (!c.2.2.2) then c6 (([]:yc),([]:yc),(ju.mk a.2.2.1 c.2.2.1),false) else c6 (a.1,c.1,(ju.mk a.2.2.1 c.2.2.1),true)
def Kb(b:ak)(e:Int)(c:Int)(a:Int):Option ((Int×Int)⊕Int):=bif c5 (a<(b.af.length:Int)) then(aj b.af a).bind λf=>(bif c5 (f.To=e) then(nK L b a false).bind λh=>c6 (max c h) else c6 c).bind λd=>(bif c5 (f.an=e) then(nK L b a true).bind λg=>c6 (max d g) else c6 d).bind λi=>c6 (dd (i,c3 c4 (a+1))) else c6 (c7 c)
def v7(b:ak)(d:Int):Option Int:=(L.loop (λa=>Kb L b d a.1 a.2) (0,0)).bind λc=>c6 c
def r6(b:ak)(d:bE)(c:Int):Option Bool:=(r7 L b d c).bind λa=>bif a.2.2.2 then(v7 L b c).bind λe=>c6 (c5 ((c3 c4 (e+(max a.2.2.1.a0 a.2.2.1.a1)))<=d.er)) else c6 false
def w5(b:Int)(d:ak)(c:bE):Option Bool:=(r6 L d c b).bind λa=>c6 a
def aqe(b:yc)(e:ak)(c:bE)(d:Int):Option (Int⊕(Int⊕Unit)):=wi b (λa=>w5 L a e c) d
def ER(a:yc)(c:ak)(b:bE):Option Int:=(L.loop (λf=>aqe L a c b f) 0).bind λe=>dt (λd=>c6 d) (λg=>c6 (-1)) e
def amq(h:ak)(g:bE)(a:yc)(b:Int)(c:Int):Option (((yc)×Int×Int)⊕((yc)×Int)):=bif c5 (c<(a.length:Int)) then(aj a c).bind λ_=>(a[c.toNat]?).bind λe=>(w5 L e h g).bind λf=>(bif (!f) then(aj a b).bind λ_=>(a[b.toNat]?).bind λ_=>c6 (a.set (b.toNat) e,c3 c4 (b+1)) else c6 (a,b)).bind λd=>c6 (dd (d.1,d.2,c3 c4 (c+1))) else c6 (c7 (a,b))
def zr(c:yc)(f:ak)(e:bE):Option yc:=(ER L c f e).bind λb=>bif c5 (b=(-1)) then c6 c else(L.loop (λd=>amq L f e d.1 d.2.1 d.2.2) (c,b,c3 c4 (b+1))).bind λa=>(eG a.1 a.2 (a.1.length:Int)).bind λ_=>(eG (iG 0 (a.2.toNat) (((a.1.length:Int)).toNat -a.2.toNat) a.1) 0 a.2).bind λg=>c6 g
def Kw(L:Lp)(b:Int)(e:yc)(a:yc)(d:Int)(c:Int):Option (((yc)×Int×Int)⊕((yc)×Int)):=bif c5 (c<(((a.drop (b.toNat)).take (((e.length:Int)).toNat -b.toNat)).length:Int)) then(aj ((a.drop (b.toNat)).take (((e.length:Int)).toNat -b.toNat)) c).bind λ_=>(a[(b.toNat+c.toNat)]?).bind λg=>(aj ((a.drop (b.toNat)).take (((e.length:Int)).toNat -b.toNat)) (c3 c4 (c -1))).bind λ_=>(a[(b.toNat+(c3 c4 (c -1)).toNat)]?).bind λi=>(bif c5 (g≠i) then(aj ((a.drop (b.toNat)).take (((e.length:Int)).toNat -b.toNat)) c).bind λ_=>(a[(b.toNat+c.toNat)]?).bind λh=>(aj a d).bind λ_=>(a[d.toNat]?).bind λ_=>c6 (a.set (d.toNat) h,c3 c4 (d+1)) else c6 (a,d)).bind λf=>c6 (dd (f.1,f.2,c3 c4 (c+1))) else c6 (c7 (a,d))
def If(b:yc)(a:Int):Option (Int⊕((yc)⊕Unit)):=bif c5 (a<(b.length:Int)) then(aj b a).bind λ_=>(b[a.toNat]?).bind λg=>(aj b (c3 c4 (a -1))).bind λ_=>(b[(c3 c4 (a -1)).toNat]?).bind λf=>bif c5 (g=f) then(eG b a (b.length:Int)).bind λ_=>(L.loop (λd=>Kw L a b d.1 d.2.1 d.2.2) (b,a,1)).bind λc=>(eG c.1 c.2 (c.1.length:Int)).bind λ_=>(eG (iG 0 (c.2.toNat) (((c.1.length:Int)).toNat -c.2.toNat) c.1) 0 c.2).bind λe=>c6 (c7 (dd e)) else c6 (dd (c3 c4 (a+1))) else c6 (c7 (c7 ()))
def ED(a:yc):Option yc:=bif c5 ((a.length:Int)<2) then c6 a else(L.loop (λd=>If L a d) 1).bind λc=>dt (λb=>c6 b) (λe=>c6 a) c
def zT(d:yc)(e:yc):Option yc:=(He L ([d,e]:List (yc))).bind λa=>(rl L a).bind λc=>(ED L c).bind λb=>c6 b
def Jp(g:ay)(e:aL)(c:Int)(b:yc)(a:Int):Option (((yc)×Int)⊕(yc)):=bif c5 (a<(g.aH.length:Int)) then(rJ L e a c).bind λd=>(zT L b d).bind λf=>c6 (dd (f,c3 c4 (a+1))) else c6 (c7 b)
def Bo(d:ak)(e:bE)(a:aL)(c:Int):Option yc:=(aj a.aA 0).bind λf=>(L.loop (λb=>Jp L f a c b.1 b.2) (([]:yc),0)).bind λh=>(zr L h d e).bind λg=>c6 g
def za(b:Int)(c:yc):Option Bool:=(im L c b).bind λa=>c6 a
def afe(b:yc)(d:yc)(c:Int):Option (Int⊕(Int⊕Unit)):=wi b (λa=>za L a d) c
def zU(a:yc)(b:yc):Option Int:=(L.loop (λe=>afe L a b e) 0).bind λd=>dt (λc=>c6 c) (λf=>c6 (-1)) d
def apZ(g:yc)(a:yc)(b:Int)(c:Int):Option (((yc)×Int×Int)⊕((yc)×Int)):=bif c5 (c<(a.length:Int)) then(aj a c).bind λ_=>(a[c.toNat]?).bind λe=>(za L e g).bind λf=>(bif (!f) then(aj a b).bind λ_=>(a[b.toNat]?).bind λ_=>c6 (a.set (b.toNat) e,c3 c4 (b+1)) else c6 (a,b)).bind λd=>c6 (dd (d.1,d.2,c3 c4 (c+1))) else c6 (c7 (a,b))
def Av(c:yc)(e:yc):Option yc:=(zU L c e).bind λb=>bif c5 (b=(-1)) then c6 c else(L.loop (λd=>apZ L e d.1 d.2.1 d.2.2) (c,b,c3 c4 (b+1))).bind λa=>(eG a.1 a.2 (a.1.length:Int)).bind λ_=>(eG (iG 0 (a.2.toNat) (((a.1.length:Int)).toNat -a.2.toNat) a.1) 0 a.2).bind λf=>c6 f
def zJ(b:ak)(g:bE)(f:aL)(k:yc)(l:yc)(n:yc)(c:Int)(h:Int):Option (ak×(yc)×Int):=(yB L b k l).bind λa=>bif c5 (a.2≠0) then c6 ((ak.mk ([]:List bP) ([]:List aZ)),([]:yc),a.2) else(EU L b g f c h).bind λe=>bif c5 (e≠0) then c6 ((ak.mk ([]:List bP) ([]:List aZ)),([]:yc),e) else(kW L a.1 f c).bind λd=>bif c5 (d.2≠0) then c6 ((ak.mk ([]:List bP) ([]:List aZ)),([]:yc),d.2) else(Bo L a.1 g d.1 (c3 c4 (c+h))).bind λj=>(cc L j).bind λo=>(Av L o n).bind λi=>bif c5 (0<(i.length:Int)) then(yB L b ([]:yc) ([]:yc)).bind λm=>c6 (m.1,i,46) else c6 (a.1,j,0)
def BY(c:cd)(a:b7)(b:Int):Option (b7×Int):=(oT L c a).bind λe=>bif (!e) then c6 (a,6) else bif c5 (a.State=0) then c6 (a,10) else(zd L a b).bind λf=>bif (!f) then c6 (a,8) else(bif c5 (a.State=4) then c6 (c5 ((c3 c4 (b -a.aa0))<c.ed)) else c6 false).bind λd=>bif d then c6 (a,10) else c6 ((b7.mk 0 0 0 0),0)
def vQ(b:bA):Option (bA×Int):=(xi L b false).bind λa=>c6 (a.1,a.2)
def qu(b:bA)(c:Int):Option (bA×Int):=(qO L b c 2 1).bind λa=>c6 (a.1,a.2)
def vJ(b:bA)(c:Int):Option (bA×Int):=(qO L b c 1 0).bind λa=>c6 (a.1,a.2)
def uo(d:aE)(b:aE)(a:Int):Option (pJ⊕qc):=bif c5 (a<(d.bB.length:Int)) then(aj d.bB a).bind λc=>(cc L c.ll).bind λf=>(bj 72 b.bB ([({c with ll:=f}:dK)]:List dK)).bind λe=>c6 (dd (u16 ({b with bB:=e}:aE) (c3 c4 (a+1)))) else c6 (c7 (lR b))
def Cp(a:aE):Option FP:=(qp L a.au 0).bind λs=>(kF L a.ao.ai).bind λd=>(kQ L a.ao.af).bind λh=>(q9 L a.cI).bind λe=>(cc L a.bR.akL).bind λk=>(cc L a.bR.dg).bind λq=>(cc L a.bR.dG).bind λi=>(cc L a.bM.bT).bind λj=>(ry L a.cq).bind λn=>(ry L a.bZ).bind λp=>(cc L a.cW.dl).bind λl=>(cc L a.cW.dr).bind λf=>(pf L a.bw).bind λo=>(pf L a.bq).bind λu=>(cc L a.bz.an).bind λr=>(cc L a.aa2.af).bind λv=>(cc L a.aa2.aa2).bind λm=>(pI L a.bS).bind λc=>(L.loop (λb=>uo L a (sN b) (sE b)) (u16 (aE.mk s.1 (ak.mk d h) e (bE.mk k q i a.bR.er) (cd.mk j a.bM.dZ a.bM.ed) n p (cZ.mk l f) o (bQ.mk a.bz.aa0 r) (bA.mk v m a.aa2.Out) a.cL u c ([]:List dK)) 0)).bind λt=>let g:=tT t;c6 (OE g)
def xR(a:aR)(c:bH):Option jt:=(qp L a.aI.au c.A).bind λb=>c6 (cT (aR.mk ({a.aI with au:=b.1}:aE) a.named) b.2)
def uS(d:aE)(b:aE)(a:Int):Option (CQ⊕J9):=bif c5 (a<(d.bB.length:Int)) then(aj d.bB a).bind λc=>(cc L c.ll).bind λf=>(bj 72 b.bB ([({c with ll:=f}:dK)]:List dK)).bind λe=>c6 (dd (J3 ({b with bB:=e}:aE) (c3 c4 (a+1)))) else c6 (c7 (Mj b))
def Dr(a:aE):Option Jr:=(qp L a.au 0).bind λs=>(kF L a.ao.ai).bind λf=>(kQ L a.ao.af).bind λj=>(q9 L a.cI).bind λg=>(cc L a.bR.akL).bind λm=>(cc L a.bR.dg).bind λq=>(cc L a.bR.dG).bind λk=>(cc L a.bM.bT).bind λl=>(zp L a.cq).bind λb=>(zp L a.bZ).bind λc=>(cc L a.cW.dl).bind λn=>(cc L a.cW.dr).bind λh=>(pf L a.bw).bind λp=>(pf L a.bq).bind λu=>(cc L a.bz.an).bind λr=>(cc L a.aa2.af).bind λv=>(cc L a.aa2.aa2).bind λo=>(pI L a.bS).bind λe=>(L.loop (λd=>uS L a (Rx b c d) (Tu d)) (J3 (aE.mk s.1 (ak.mk f j) g (bE.mk m q k a.bR.er) (cd.mk l a.bM.dZ a.bM.ed) b c (cZ.mk n h) p (bQ.mk a.bz.aa0 r) (bA.mk v o a.aa2.Out) a.cL u e ([]:List dK)) 0)).bind λt=>let i:=Uh b c t;c6 (IW i)
def yV(a:aR)(b:bH):Option jt:=(yA L a.aI.aa2).bind λd=>(im L d b.B).bind λe=>bif e then c6 (cT a 47) else(B1 L a.aI.au b.A b.B b.C).bind λc=>c6 (cT (aR.mk ({a.aI with au:=c.1}:aE) a.named) c.2)
def yT(a:aR)(b:bH):Option jt:=(jO L a.aI.au b.A b.B b.C).bind λc=>bif c5 (c.2.2=0) then(aj a.aI.cq b.A).bind λ_=>(a.aI.cq[b.A.toNat]?).bind λ_=>c6 (cT (aR.mk ({a.aI with au:=c.1,cq:=a.aI.cq.set (b.A.toNat) c.2.1}:aE) a.named) c.2.2) else c6 (cT a c.2.2)
def uX(a:dS)(d:aS)(c:aR)(e:ak)(g:aL):Option qW:=(fP L c).bind λf=>(CS L e g a.Tag d.ai a.an (min a.To f)).bind λb=>c6 (La a d c b.1 b.2)
def A5(f:aR)(n:dS)(o:aS):Option vq:=(uX L n o f f.aI.ao f.aI.bw).bind λd=>let j:=F7 d;let k:=HJ d;let a:=G2 d;let r:=IB d;let l:=HV d;(bif c5 (l=0) then c6 (qI (aR.mk ({a.aI with bw:=r}:aE) a.named)) else c6 (qI a)).bind λq=>let b:=Sl a.aI.cq a.aI.bB q;(ra L b).bind λm=>bif (!m) then c6 (ol b j k) else(mT L b).bind λg=>(uX L j k b (ak.mk g.1 g.2) b.aI.bq).bind λc=>let h:=F7 c;let i:=HJ c;let e:=G2 c;let p:=IB c;let s:=HV c;bif c5 (s=0) then c6 (ol (aR.mk ({e.aI with bq:=p}:aE) e.named) h i) else c6 (ol e h i)
def zg(a:aR)(s:Int)(t:aS)(n:dC)(w:Int):Option qU:=(uQ L s t n w a.aI.ao a.aI.bw).bind λd=>let f:=Gy d;let m:=Ib d;let k:=HF d;let l:=I2 d;let u:=Ir d;let r:=JK d;(bif c5 (r=0) then c6 (qI (aR.mk ({a.aI with bw:=u}:aE) a.named)) else c6 (qI a)).bind λq=>let b:=Sl a.aI.cq a.aI.bB q;(ra L b).bind λv=>bif (!v) then c6 (nJ b f m k l) else(mT L b).bind λg=>(uQ L f m k l (ak.mk g.1 g.2) b.aI.bq).bind λc=>let j:=Gy c;let i:=Ib c;let e:=HF c;let h:=I2 c;let p:=Ir c;let o:=JK c;bif c5 (o=0) then c6 (nJ (aR.mk ({b.aI with bq:=p}:aE) b.named) j i e h) else c6 (nJ b j i e h)
def Eb(a:aR)(f:Int)(e:Int):Option rY:=(aj a.aI.au.aQ f).bind λh=>(xp L a.aI.au.aQ f e a.aI.bZ).bind λc=>(bif c5 (c.2≠0) then c6 true else c6 (c5 ((c.1.length:Int)=0))).bind λj=>bif j then c6 (mf a) else(aj c.1 (c3 c4 ((c.1.length:Int) -1))).bind λd=>(fP L a).bind λg=>bif c5 ((min d.To g)<=d.an) then c6 (mf a) else(zg L a e h d (min d.To g)).bind λb=>let i:=M2 b;let k:=OW b;let n:=N9 b;let m:=P1 b;let l:=RU b;c6 (mf i)
def sC(d:(List dS)×Int)(c:aR)(h:aS)(b:Int):Option (ug⊕rY):=bif c5 (b<(d.1.length:Int)) then((aj d.1 b).bind λf=>c6 (u31 f):Option Hx).bind λe=>let j:=anK e;(A5 L c j h).bind λa=>let g:=MU a;let k:=Me a;let i:=N4 a;c6 (dd (Cb g i (c3 c4 (b+1)))) else c6 (c7 (mf c))
def uN(c:yc)(j:aT×Int)(k:bH)(a:aR)(b:Int):Option (uy⊕rY):=bif c5 (b<(c.length:Int)) then(aj c b).bind λd=>(im L j.1.aw d).bind λh=>(bif (!h) then(Eb L a k.A d).bind λi=>let e:=Al i;c6 (mf e) else c6 (mf a)).bind λg=>let f:=Al g;c6 (dd (uZ f (c3 c4 (b+1)))) else c6 (c7 (mf a))
def wP(a:aR)(d:bH):Option qz:=(cp L d.A 0 (c3 c4 ((a.aI.cq.length:Int) -1))).bind λq=>bif (!q) then c6 (dp a 40) else(aj a.aI.au.cn d.A).bind λr=>bif c5 (r<0) then c6 (dp a 13) else(aj a.aI.cq d.A).bind λ_=>(a.aI.cq[d.A.toNat]?).bind λp=>(Ex L p).bind λg=>bif c5 (g.2≠0) then c6 (dp a g.2) else(zD L g.1).bind λc=>bif c5 (c.2≠0) then c6 (dp a c.2) else(CT L a.aI.cW c.1).bind λf=>bif c5 (f.2≠0) then c6 (dp (aR.mk ({a.aI with cW:=f.1}:aE) a.named) f.2) else(bj 48 a.aI.bZ ([c.1]:List aT)).bind λb=>(eG b (max 0 (c3 c4 ((b.length:Int) -60))) (b.length:Int)).bind λ_=>(Bl L a.aI.au.aQ c.1).bind λh=>bif c5 (h.2≠0) then c6 (dp (aR.mk ({a.aI with bZ:=(b.drop ((max 0 (c3 c4 ((b.length:Int) -60))).toNat)).take (((b.length:Int)).toNat - (max 0 (c3 c4 ((b.length:Int) -60))).toNat),cW:=f.1}:aE) a.named) h.2) else(aj a.aI.au.aQ d.A).bind λk=>(L.loop (λe=>sC L h (Q2 e) (Qd e) (R9 e)) (Cb (aR.mk ({a.aI with bZ:=(b.drop ((max 0 (c3 c4 ((b.length:Int) -60))).toNat)).take (((b.length:Int)).toNat - (max 0 (c3 c4 ((b.length:Int) -60))).toNat),cW:=f.1}:aE) a.named) k 0)).bind λl=>let i:=Al l;(aj i.aI.bw.aA 0).bind λj=>(cc L j.aw).bind λm=>(L.loop (λe=>uN L m c d (Si e) (LF e)) (uZ i 0)).bind λn=>let o:=Al n;c6 (dp o 0)
def yb(a:aR)(d:bH):Option jt:=(oX L a.aI.au d.A d.B).bind λb=>bif c5 (b.2≠0) then c6 (cT (aR.mk ({a.aI with au:=b.1}:aE) a.named) b.2) else(fP L (aR.mk ({a.aI with au:=b.1}:aE) a.named)).bind λg=>(yY L a.aI.ao a.aI.bw d.A d.B g).bind λc=>(bif c5 (c.2≠0) then c6 true else(ra L (aR.mk ({a.aI with au:=b.1,bw:=c.1}:aE) a.named)).bind λj=>c6 (!j)).bind λi=>bif i then c6 (cT (aR.mk ({a.aI with au:=b.1,bw:=c.1}:aE) a.named) c.2) else(mT L (aR.mk ({a.aI with au:=b.1,bw:=c.1}:aE) a.named)).bind λf=>(fP L (aR.mk ({a.aI with au:=b.1,bw:=c.1}:aE) a.named)).bind λh=>(yY L (ak.mk f.1 f.2) a.aI.bq d.A d.B h).bind λe=>c6 (cT (aR.mk ({a.aI with au:=b.1,bw:=c.1,bq:=e.1}:aE) a.named) e.2)
def uq(L:Lp)(c:bQ×Int)(b:yc)(a:Int):Option (((yc)×Int)⊕(yc)):=bif c5 (a<(c.1.an.length:Int)) then(aj c.1.an a).bind λd=>(aj b a).bind λ_=>(b[a.toNat]?).bind λe=>(aj b a).bind λ_=>(b[a.toNat]?).bind λ_=>c6 (dd (b.set (a.toNat) (min e d),c3 c4 (a+1))) else c6 (c7 b)
def xy(a:aR)(c:bH):Option jt:=(cp L c.A 0 (c3 c4 ((a.aI.ao.ai.length:Int) -1))).bind λi=>bif (!i) then c6 (cT a 3) else(fP L a).bind λn=>(EX L a.aI.ao a.aI.cI ([c.A]:yc) n).bind λb=>bif c5 (b.2.2≠0) then c6 (cT a b.2.2) else(bif c5 (0<(a.aI.bz.an.length:Int)) then(fP L a).bind λh=>(uk L a.aI.ao a.aI.cI a.aI.ao a.aI.cI a.aI.bz h).bind λd=>bif c5 (d.2≠0) then c6 (c7 d.2) else(L.loop (λe=>uq L d e.1 e.2) (b.1,0)).bind λj=>c6 (dd j) else c6 (dd b.1)).bind λk=>dt (λg=>(fP L (aR.mk ({a.aI with bz:=(bQ.mk b.2.1 g)}:aE) a.named)).bind λm=>(rk L a.aI.bS 1 c.A 1 m).bind λf=>c6 (cT (aR.mk ({a.aI with bz:=(bQ.mk b.2.1 g),bS:=f.1}:aE) a.named) f.2)) (λl=>c6 (cT a l)) k
def vA(a:aR)(d:bH):Option jt:=(cp L d.A 0 (c3 c4 ((a.aI.aa2.af.length:Int) -1))).bind λh=>bif (!h) then c6 (cT a 47) else(Dv L a.aI.au.aN a d).bind λj=>bif j then c6 (cT a 49) else(GQ L a.aI.aa2 d.A).bind λe=>bif c5 (e.2≠0) then c6 (cT (aR.mk ({a.aI with aa2:=e.1}:aE) a.named) e.2) else(J0 L e.1 d.A).bind λc=>bif c5 (c.2≠0) then c6 (cT (aR.mk ({a.aI with aa2:=c.1}:aE) a.named) c.2) else(zA L c.1.aa2).bind λi=>bif i then c6 (cT (aR.mk ({a.aI with aa2:=c.1}:aE) a.named) 0) else(Cu L c.1).bind λb=>bif c5 (b.2≠0) then c6 (cT (aR.mk ({a.aI with aa2:=b.1}:aE) a.named) b.2) else(fP L (aR.mk ({a.aI with aa2:=b.1}:aE) a.named)).bind λg=>(Em L a.aI.ao a.aI.bw b.1.af g).bind λf=>c6 (cT (aR.mk ({a.aI with aa2:=b.1,bq:=f.1}:aE) a.named) f.2)
def vm(a:aR)(d:bH):Option jt:=(fP L a).bind λc=>(BR L a.aI.bM a.aI.cL a.aI.aa2 a.aI.bq d.A c).bind λb=>c6 (cT (aR.mk ({a.aI with cL:=b.1}:aE) a.named) b.2)
def wR(a:aR)(d:bH):Option jt:=(fP L a).bind λc=>(AJ L a.aI.bM a.aI.cL a.aI.aa2 a.aI.bq d.A c).bind λb=>c6 (cT (aR.mk ({a.aI with cL:=b.1}:aE) a.named) b.2)
def yu(a:aR)(d:bH):Option jt:=(fP L a).bind λc=>(CM L a.aI.bM a.aI.cL a.aI.aa2 a.aI.bq c (c5 (d.B≠0))).bind λb=>c6 (cT (aR.mk ({a.aI with cL:=b.1}:aE) a.named) b.2)
def xg(b:aR)(e:Int):Option jt:=(q9 L b.aI.cI).bind λi=>(kF L b.aI.ao.ai).bind λp=>(kQ L b.aI.ao.af).bind λh=>(aj h e).bind λ_=>(h[e.toNat]?).bind λs=>((aj i e).bind λ_=>(i[e.toNat]?).bind λ_=>c6 (UN (aR.mk ({b.aI with ao:=(ak.mk p (h.set (e.toNat) ({s with eN:=true}:aZ)))}:aE) b.named) (i.set (e.toNat) (bI.mk 0 0))):Option DU).bind λk=>let a:=ao9 b.aI.cq b.aI.bZ b.aI.bB k;let l:=Yk k;(fP L a).bind λr=>(kW L a.aI.ao a.aI.bw r).bind λd=>bif c5 (d.2≠0) then c6 (cT (aR.mk ({a.aI with bw:=d.1}:aE) a.named) d.2) else(ra L (aR.mk ({a.aI with bw:=d.1}:aE) a.named)).bind λo=>(bif o then(mT L (aR.mk ({a.aI with bw:=d.1}:aE) a.named)).bind λj=>(fP L (aR.mk ({a.aI with bw:=d.1}:aE) a.named)).bind λu=>(kW L (ak.mk j.1 j.2) a.aI.bq u).bind λg=>bif c5 (g.2≠0) then c6 (c7 (iv (aR.mk ({a.aI with bw:=d.1,bq:=g.1}:aE) a.named) g.2)) else c6 (dd (fj (aR.mk ({a.aI with bw:=d.1,bq:=g.1}:aE) a.named))) else c6 (dd (fj (aR.mk ({a.aI with bw:=d.1}:aE) a.named)))).bind λw=>dt (λq=>let c:=lu b.aI.cq b.aI.bZ b.aI.bB q;bif c5 (0<(c.aI.bz.an.length:Int)) then(fP L c).bind λt=>(yg L l b.aI.ao c.aI.cI c.aI.ao c.aI.bz t).bind λf=>bif c5 (f.2.2≠0) then c6 (cT (aR.mk ({c.aI with bz:=f.2.1}:aE) c.named) f.2.2) else c6 (cT (aR.mk ({c.aI with cI:=f.1,bz:=f.2.1}:aE) c.named) 0) else c6 (cT (aR.mk ({c.aI with cI:=l}:aE) c.named) 0)) (λm=>let v:=nT b.aI.cq b.aI.bZ b.aI.bB m;let n:=nO m;c6 (cT v n)) w
def tM(a:aR)(d:bH):Option jt:=(wO L a.aI.au d.A).bind λb=>bif c5 (b.2≠0) then c6 (cT (aR.mk ({a.aI with au:=b.1}:aE) a.named) b.2) else(xg L (aR.mk ({a.aI with au:=b.1}:aE) a.named) d.A).bind λc=>let f:=fR c;let e:=fT c;c6 (cT f e)
def Qt(a:aR)(d:bH):Option jt:=(wO L a.aI.au d.A).bind λb=>bif c5 (b.2≠0) then c6 (cT (aR.mk ({a.aI with au:=b.1}:aE) a.named) b.2) else(xg L (aR.mk ({a.aI with au:=b.1}:aE) a.named) d.A).bind λc=>let f:=fR c;let e:=fT c;c6 (cT f e)
def Co(L:Lp)(c:aR)(b:yc)(a:Int):Option (((yc)×Int)⊕(yc)):=bif c5 (a<(c.aI.bS.length:Int)) then(aj c.aI.bS a).bind λd=>(bif c5 (d.abv=2) then(bj 8 b ([d.eB]:yc)).bind λe=>c6 e else c6 b).bind λf=>c6 (dd (f,c3 c4 (a+1))) else c6 (c7 b)
def tB(d:ak×(yc)×Int)(b:aR)(a:aR)(c:Int):Option (nH⊕jk):=bif c5 (c<(d.2.1.length:Int)) then(aj d.2.1 c).bind λf=>(fP L a).bind λh=>(rk L a.aI.bS 2 f 2 h).bind λe=>(bif c5 (e.2=0) then c6 (fj (aR.mk ({a.aI with bS:=e.1}:aE) a.named)) else c6 (fj a)).bind λg=>let i:=lu b.aI.cq b.aI.bZ b.aI.bB g;c6 (dd (jw i (c3 c4 (c+1)))) else c6 (c7 (fj a))
def xQ(a:aR)(d:bH):Option jt:=((cp L d.A 0 (c3 c4 ((a.aI.ao.af.length:Int) -1))).bind λo=>bif (!o) then c6 true else(aj a.aI.ao.af d.A).bind λk=>c6 k.eN:Option Bool).bind λp=>bif p then c6 (cT a 4) else(fP L a).bind λg=>(w6 L a.aI.bz (c3 c4 (g+600))).bind λl=>(L.loop (λc=>Co L a c.1 c.2) (([]:yc),0)).bind λh=>(fP L a).bind λn=>(zJ L a.aI.ao ({a.aI.bR with dg:=l}:bE) a.aI.bw ([d.A]:yc) ([]:yc) h n 600).bind λb=>(bif c5 (b.2.2=46) then(L.loop (λc=>tB L b a (tP a.aI.cq a.aI.bZ a.aI.bB c) (um c)) (jw (aR.mk a.aI b.2.1) 0)).bind λj=>let i:=lu a.aI.cq a.aI.bZ a.aI.bB j;c6 (fj i) else c6 (fj (aR.mk a.aI b.2.1))).bind λr=>let e:=lu a.aI.cq a.aI.bZ a.aI.bB r;bif c5 (b.2.2≠0) then c6 (cT e b.2.2) else(Qt L e d).bind λf=>let m:=fR f;let q:=fT f;c6 (cT m q)
def qm(o:aR)(a:aR)(b:aR)(d:Int):Option (nH⊕(jU⊕jk)):=bif c5 (d<(o.aI.aa2.aa2.length:Int)) then(aj b.aI.aa2.aa2 d).bind λq=>(bif c5 (q=2) then(qu L b.aI.aa2 d).bind λe=>bif c5 (e.2≠0) then c6 (c7 (iv (aR.mk ({b.aI with aa2:=e.1}:aE) b.named) e.2)) else c6 (dd (fj (aR.mk ({b.aI with aa2:=e.1}:aE) b.named))) else c6 (dd (fj b))).bind λt=>dt (λi=>let c:=lu a.aI.cq a.aI.bZ a.aI.bB i;(aj c.aI.aa2.aa2 d).bind λn=>(bif c5 (n=1) then(vJ L c.aI.aa2 d).bind λf=>bif c5 (f.2≠0) then c6 (c7 (iv (aR.mk ({c.aI with aa2:=f.1}:aE) c.named) f.2)) else c6 (dd (fj (aR.mk ({c.aI with aa2:=f.1}:aE) c.named))) else c6 (dd (fj c))).bind λm=>dt (λj=>let s:=lu a.aI.cq a.aI.bZ a.aI.bB j;c6 (dd (jw s (c3 c4 (d+1))))) (λh=>let l:=nT a.aI.cq a.aI.bZ a.aI.bB h;let p:=nO h;c6 (c7 (dd (iv l p)))) m) (λg=>let r:=nT a.aI.cq a.aI.bZ a.aI.bB g;let k:=nO g;c6 (c7 (dd (iv r k)))) t else c6 (c7 (c7 (fj b)))
def xE(a:aR)(y:bH):Option jt:=(yA L a.aI.aa2).bind λs=>bif c5 ((s.length:Int)=0) then c6 (cT a 10) else(bif c5 (a.aI.cL.State≠0) then(fP L a).bind λv=>(BY L a.aI.bM a.aI.cL v).bind λc=>bif c5 (c.2≠0) then c6 (c7 (iv (aR.mk ({a.aI with cL:=c.1}:aE) a.named) c.2)) else c6 (dd (fj (aR.mk ({a.aI with cL:=c.1}:aE) a.named))) else c6 (dd (fj a))).bind λx=>dt (λn=>let b:=lu a.aI.cq a.aI.bZ a.aI.bB n;(bif b.aI.aa2.Out then(vQ L b.aI.aa2).bind λd=>bif c5 (d.2≠0) then c6 (c7 (iv (aR.mk ({b.aI with aa2:=d.1}:aE) b.named) d.2)) else c6 (dd (fj (aR.mk ({b.aI with aa2:=d.1}:aE) b.named))) else c6 (dd (fj b))).bind λm=>dt (λq=>let h:=lu a.aI.cq a.aI.bZ a.aI.bB q;(L.loop (λi=>qm L h a (tP a.aI.cq a.aI.bZ a.aI.bB i) (um i)) (jw h 0)).bind λl=>dt (λe=>let o:=nT a.aI.cq a.aI.bZ a.aI.bB e;let t:=nO e;c6 (cT o t)) (λk=>let g:=lu a.aI.cq a.aI.bZ a.aI.bB k;c6 (cT (aR.mk ({g.aI with bq:=(aL.mk ([]:List ay))}:aE) g.named) 0)) l) (λf=>let p:=nT a.aI.cq a.aI.bZ a.aI.bB f;let u:=nO f;c6 (cT p u)) m) (λj=>let w:=nT a.aI.cq a.aI.bZ a.aI.bB j;let r:=nO j;c6 (cT w r)) x
def w7(d:aE)(a:bH):Option (aE×Int):=bif c5 (200<=(d.bB.length:Int)) then c6 (d,2) else(zj L d).bind λK=>bif (!K) then c6 (d,6) else(Dr L d).bind λY=>let b:=SD Y;(Ml L a.abv).bind λk=>(bif (!k.isNone) then(k.bind λc=>bif dT c 103 then(xR L (aR.mk b ([]:yc)) a).bind λl=>let z:=fR l;let M:=fT l;c6 (dp z M) else bif dT c 104 then(yV L (aR.mk b ([]:yc)) a).bind λn=>let O:=fR n;let aa:=fT n;c6 (dp O aa) else bif dT c 105 then(yT L (aR.mk b ([]:yc)) a).bind λo=>let A:=fR o;let R:=fT o;c6 (dp A R) else bif dT c 106 then(wP L (aR.mk b ([]:yc)) a).bind λi=>let C:=iS i;let D:=iJ i;c6 (dp C D) else bif dT c 107 then(yb L (aR.mk b ([]:yc)) a).bind λx=>let ag:=fR x;let Q:=fT x;c6 (dp ag Q) else bif dT c 108 then(xy L (aR.mk b ([]:yc)) a).bind λr=>let ad:=fR r;let G:=fT r;c6 (dp ad G) else bif dT c 109 then(vA L (aR.mk b ([]:yc)) a).bind λj=>let V:=fR j;let J:=fT j;c6 (dp V J) else bif dT c 110 then(vm L (aR.mk b ([]:yc)) a).bind λs=>let E:=fR s;let W:=fT s;c6 (dp E W) else bif dT c 111 then(wR L (aR.mk b ([]:yc)) a).bind λh=>let U:=fR h;let Z:=fT h;c6 (dp U Z) else bif dT c 112 then(yu L (aR.mk b ([]:yc)) a).bind λv=>let F:=fR v;let X:=fT v;c6 (dp F X) else bif dT c 113 then(tM L (aR.mk b ([]:yc)) a).bind λm=>let S:=fR m;let N:=fT m;c6 (dp S N) else bif dT c 114 then(xQ L (aR.mk b ([]:yc)) a).bind λp=>let ac:=fR p;let ah:=fT p;c6 (dp ac ah) else bif dT c 115 then(xE L (aR.mk b ([]:yc)) a).bind λw=>let ae:=fR w;let af:=fT w;c6 (dp ae af) else e0:Option qz).bind λt=>let B:=iS t;let H:=iJ t;c6 (dp B H) else c6 (dp (aR.mk b ([]:yc)) 55)).bind λu=>let g:=iS u;let e:=iJ u;(bif c5 (e≠0) then(Cp L d).bind λI=>let f:=aiF I;(bif c5 (e=46) then c6 (RG ({f with bS:=g.aI.bS}:aE)) else c6 (RG f)).bind λab=>let y:=ajj f.bB ab;c6 (lR y) else c6 (lR g.aI)).bind λP=>let q:=tT P;(bj 72 q.bB ([(dK.mk a d.au.aa0 e g.named)]:List dK)).bind λT=>c6 (({q with bB:=T}:aE),e)
def WT(b:List bH)(c:aE)(a:Int):Option (pJ⊕qc):=bif c5 (a<(b.length:Int)) then(aj b a).bind λe=>(w7 L c e).bind λd=>c6 (dd (u16 d.1 (c3 c4 (a+1)))) else c6 (c7 (lR c))
def Rs(c:aE)(e:List bH):Option aE:=(L.loop (λa=>WT L e (sN a) (sE a)) (u16 c 0)).bind λb=>let d:=tT b;(wc L d).bind λf=>c6 f
def Ol(L:Lp):Option (List (Option Nat)):=c6 ([(c6 121:Option Nat),(c6 123:Option Nat),(c6 124:Option Nat),(c6 125:Option Nat),(c6 127:Option Nat),(c6 128:Option Nat),(c6 129:Option Nat),(c6 130:Option Nat)]:List (Option Nat))
def Qz(b:ay)(c:aE):Option Bool:=(qG L b.aw c.au.aw).bind λa=>c6 a
def as4(b:List ay)(d:aE)(c:Int):Option (Int⊕(Int⊕Unit)):=wi b (λa=>Qz L a d) c
def Ma(a:List ay)(b:aE):Option Int:=(L.loop (λe=>as4 L a b e) 0).bind λd=>dt (λc=>c6 c) (λf=>c6 (-1)) d
def Th(b:List ay)(c:aE):Option Bool:=(Ma L b c).bind λa=>c6 (c5 (0<=a))
def aes(b:aE)(e:aL)(a:Int):Option (Int⊕(Unit⊕Unit)):=bif c5 (a<(b.au.aN.length:Int)) then(aj b.au.aN a).bind λc=>(rJ L e a b.au.aa0).bind λf=>(im L f c.abG).bind λd=>bif (!d) then c6 (c7 (dd ())) else c6 (dd (c3 c4 (a+1))) else c6 (c7 (c7 ()))
def GK(a:aE)(b:aL):Option Bool:=(L.loop (λe=>aes L a b e) 0).bind λc=>dt (λf=>c6 false) (λg=>(Th L b.aA a).bind λd=>c6 d) c
def LL(a:aE):Option Bool:=(GK L a a.bw).bind λb=>c6 b
def PU(a:aE):Option Bool:=bif c5 ((a.bq.aA.length:Int)=0) then c6 true else(GK L a a.bq).bind λb=>c6 b
def OJ(c:Int)(a:aE):Option Bool:=(aj a.au.aN c).bind λd=>(im L a.bM.bT d.abG).bind λb=>c6 b
def al1(c:Int)(d:aE)(b:yc)(a:Int):Option (((yc)×Int)⊕(yc)):=bif c5 (a<c) then(OJ L a d).bind λe=>(bif e then(bj 8 b ([a]:yc)).bind λf=>c6 f else c6 b).bind λg=>c6 (dd (g,c3 c4 (a+1))) else c6 (c7 b)
def QU(b:Int)(d:aE):Option yc:=(L.loop (λa=>al1 L b d a.1 a.2) (([]:yc),0)).bind λc=>c6 c
def FN(a:aE):Option yc:=(QU L (a.au.aN.length:Int) a).bind λb=>c6 b
def QK(a:aE):Option Bool:=(bif c5 (a.cL.State≠3) then bif c5 (a.cL.State≠4) then c6 true else c6 (c5 (a.cL.aa0≠a.au.aa0)) else c6 (c5 (a.cL.aa0≠a.au.aa0))).bind λc=>bif c then c6 true else(FN L a).bind λd=>bif c5 ((d.length:Int)=0) then(wA L a.bq a.bM.bT).bind λb=>c6 b else c6 false
def Oy(a:bC)(c:aE):Option Bool:=bif c5 (0<=a.akw) then(im L c.aa2.af a.akw).bind λb=>c6 b else c6 false
def Z1(b:List bC)(d:aE)(c:Int):Option (Int⊕(Int⊕Unit)):=wi b (λa=>Oy L a d) c
def Na(a:List bC)(b:aE):Option Int:=(L.loop (λe=>Z1 L a b e) 0).bind λd=>dt (λc=>c6 c) (λf=>c6 (-1)) d
def Rp(b:List bC)(c:aE):Option Bool:=(Na L b c).bind λa=>c6 (c5 (0<=a))
def Nd(a:aE):Option Bool:=(Rp L a.au.aN a).bind λb=>c6 b
def Rh(a:aE):Option Bool:=bif (!a.aa2.Out) then c6 true else(Nd L a).bind λb=>c6 (!b)
def uh(b:Int)(c:yc):Option Bool:=(im L c b).bind λa=>c6 a
def Jj(b:yc)(d:yc)(c:Int):Option (Int⊕(Int⊕Unit)):=wi b (λa=>uh L a d) c
def Jg(a:yc)(b:yc):Option Int:=(L.loop (λe=>Jj L a b e) 0).bind λd=>dt (λc=>c6 c) (λf=>c6 (-1)) d
def CG(b:yc)(c:yc):Option Bool:=(Jg L b c).bind λa=>c6 (c5 (0<=a))
def zq(b:Int)(c:yc):Option Bool:=(uh L b c).bind λa=>c6 (!a)
def Ih(b:yc)(d:yc)(c:Int):Option (Int⊕(Int⊕Unit)):=wi b (λa=>zq L a d) c
def FW(a:yc)(b:yc):Option Int:=(L.loop (λe=>Ih L a b e) 0).bind λd=>dt (λc=>c6 c) (λf=>c6 (-1)) d
def zo(b:yc)(c:yc):Option Bool:=(FW L b c).bind λa=>c6 (c5 (0<=a))
def Cx(d:ay)(e:Int)(b:yc)(f:Int):Option (Bool×Bool):=bif c5 ((d.aH.length:Int)<=e) then c6 (false,false) else(aj d.aH e).bind λh=>(su L h f).bind λc=>(CG L c b).bind λa=>bif a then(zo L c b).bind λg=>c6 ((!g),a) else c6 (false,a)
def DF(e:ay)(h:yc)(f:Int)(c:Int)(a:Int)(b:Int):Option ((Int×Int×Int)⊕(Int×Int)):=bif c5 (b<(e.aH.length:Int)) then(Cx L e b h f).bind λd=>(bif d.1 then c6 (c3 c4 (c+1)) else c6 c).bind λi=>(bif d.2 then c6 (c3 c4 (a+1)) else c6 a).bind λg=>c6 (dd (i,g,c3 c4 (b+1))) else c6 (c7 (c,a))
def Fa(e:aL)(h:yc)(g:Int)(c:bI)(b:Int):Option ((Int×Int×Int)⊕(Int×Int)):=bif c5 (b<(e.aA.length:Int)) then(aj e.aA b).bind λi=>(L.loop (λd=>DF L i h g d.1 d.2.1 d.2.2) (0,0,0)).bind λa=>(bif c5 (b=0) then c6 (a.1,a.2) else c6 (c.eF,c.fk)).bind λf=>c6 (dd (min f.1 a.1,max f.2 a.2,c3 c4 (b+1))) else c6 (c7 (c.eF,c.fk))
def Ew(d:aL)(e:yc)(c:Int):Option bI:=(L.loop (λa=>Fa L d e c (bI.mk a.1 a.2.1) a.2.2) (0,0,0)).bind λb=>c6 (bI.mk b.1 b.2)
def Ow(a:aE):Option Bool:=(Ew L a.bw a.bM.bT a.au.aa0).bind λb=>(FN L a).bind λd=>(cp L (d.length:Int) b.eF b.fk).bind λc=>c6 c
def Lf(L:Lp)(a:cy)(c:Int)(b:Int):Option Bool:=bif c5 (a.abv=c) then c6 (c5 (a.eB=b)) else c6 false
def ais(b:List cy)(e:Int)(c:Int)(d:Int):Option (Int⊕(Int⊕Unit)):=wi b (λa=>Lf L a e c) d
def Qo(a:List cy)(c:Int)(b:Int):Option Int:=(L.loop (λf=>ais L a c b f) 0).bind λe=>dt (λd=>c6 d) (λg=>c6 (-1)) e
def O7(b:List cy)(d:Int)(c:Int):Option Bool:=(Qo L b d c).bind λa=>c6 (c5 (0<=a))
def KD(b:aE)(d:Int)(c:Int):Option Bool:=(O7 L b.bS d c).bind λa=>c6 a
def OU(a:dK)(c:aE):Option Bool:=bif c5 (a.Event.abv=6) then bif c5 (a.Code=0) then(KD L c 1 a.Event.A).bind λb=>c6 (!b) else c6 false else c6 false
def abX(b:List dK)(d:aE)(c:Int):Option (Int⊕(Int⊕Unit)):=wi b (λa=>OU L a d) c
def NP(a:List dK)(b:aE):Option Int:=(L.loop (λe=>abX L a b e) 0).bind λd=>dt (λc=>c6 c) (λf=>c6 (-1)) d
def Sa(b:List dK)(c:aE):Option Bool:=(NP L b c).bind λa=>c6 (c5 (0<=a))
def NV(a:aE):Option Bool:=(Sa L a.bB a).bind λb=>c6 (!b)
def al5(c:yc)(b:aE)(a:Int):Option (Int⊕(Unit⊕Unit)):=bif c5 (a<(c.length:Int)) then(aj c a).bind λd=>((r6 L b.ao ({b.bR with dg:=([]:yc)}:bE) d).bind λg=>bif (!g) then(KD L b 2 d).bind λe=>c6 (!e) else c6 false:Option Bool).bind λf=>bif f then c6 (c7 (dd ())) else c6 (dd (c3 c4 (a+1))) else c6 (c7 (c7 ()))
def aaL(a:aE)(b:Int):Option (Int⊕(Unit⊕Unit)):=bif c5 (b<(a.au.aN.length:Int)) then(rJ L a.bw b a.au.aa0).bind λd=>(L.loop (λe=>al5 L d a e) 0).bind λc=>dt (λf=>c6 (c7 (dd ()))) (λg=>c6 (dd (c3 c4 (b+1)))) c else c6 (c7 (c7 ()))
def Nl(a:aE):Option Bool:=(bif c5 ((a.bB.length:Int)=0) then c6 true else(aj a.bB (c3 c4 ((a.bB.length:Int) -1))).bind λe=>bif c5 (e.Event.abv≠12) then c6 true else(aj a.bB (c3 c4 ((a.bB.length:Int) -1))).bind λd=>bif c5 (d.Code≠0) then c6 true else c6 (c5 (0<(a.bz.an.length:Int)))).bind λc=>bif c then c6 true else(L.loop (λf=>aaL L a f) 0).bind λb=>dt (λg=>c6 false) (λh=>c6 true) b
def Ng(a:aE):Option Bool:=(yE L a.bS).bind λd=>bif d then(oL L a.aa2).bind λc=>bif c then(oT L a.bM a.cL).bind λb=>c6 b else c6 false else c6 false
def aak(e:List (Option Nat))(a:aE)(d:yc)(c:Int):Option (((yc)×Int)⊕(yc)):=bif c5 (c<(e.length:Int)) then(aj e c).bind λl=>(l.bind λb=>bif dT b 121 then(LL L a).bind λj=>c6 (!j) else bif dT b 123 then(PU L a).bind λm=>c6 (!m) else bif dT b 124 then(QK L a).bind λg=>c6 (!g) else bif dT b 125 then(Rh L a).bind λo=>c6 (!o) else bif dT b 127 then(Ow L a).bind λi=>c6 (!i) else bif dT b 128 then(NV L a).bind λh=>c6 (!h) else bif dT b 129 then(Nl L a).bind λn=>c6 (!n) else bif dT b 130 then(Ng L a).bind λq=>c6 (!q) else e0:Option Bool).bind λp=>(bif p then(bj 8 d ([c3 c4 (c+1)]:yc)).bind λf=>c6 f else c6 d).bind λk=>c6 (dd (k,c3 c4 (c+1))) else c6 (c7 d)
def N8(c:aE):Option yc:=(Ol L).bind λb=>(L.loop (λa=>aak L b c a.1 a.2) (([]:yc),0)).bind λd=>c6 d
def vn:Option Bool:=(gP 16 (bI.mk 0 0) 2).bind λd=>(wX L (ak.mk ([(bP.mk 0 true),(bP.mk 0 false),(bP.mk 0 false)]:List bP) ([(aZ.mk 0 1 12 1 true false (bI.mk 1 1) (bI.mk 0 0)),(aZ.mk 1 2 12 1 true false (bI.mk 1 1) (bI.mk 0 0))]:List aZ)) ([(aS.mk ([0]:yc) 10 0 0)]:List aS) ([0]:yc) ([9]:yc) d (bE.mk ([]:yc) ([]:yc) ([]:yc) 900) (cd.mk ([2]:yc) 9 9) ([1]:yc)).bind λb=>(Rs L b.1 ([(bH.mk 7 0 0 0),(bH.mk 8 1 0 0),(bH.mk 9 2 0 0),(bH.mk 2 0 1 0),(bH.mk 10 0 0 0)]:List bH)).bind λa=>bif c5 (b.2=0) then bif c5 ((a.bB.length:Int)=5) then bif c5 (a.cL.State=3) then(aj a.bB 3).bind λe=>bif c5 (e.Code=47) then bif a.aa2.Out then(N8 L a).bind λc=>c6 (c5 ((c.length:Int)=0)) else c6 false else c6 false else c6 false else c6 false else c6 false
def NC(L:Lp)(a:yc):Option yc:=c6 a
def Ie(L:Lp)(c:Int)(b:Int):Option Int:=bif c5 (b<1) then c6 0 else(nG c b).bind λa=>bif c5 (a<0) then c6 (c3 c4 (a+b)) else c6 a
def eO(a:bD)(d:Int):Option ((yc)×Int×Int):=bif c5 ((a.L.length:Int)<=a.At) then c6 (a.L,a.At,0) else(aj a.L (c3 c4 ((c3 c4 (a.At+1)) -1))).bind λc=>(Ie L c d).bind λb=>c6 (a.L,c3 c4 (a.At+1),b)
def mK(c:bD)(b:Int):Option ((yc)×Int×Bool):=(eO L c b).bind λa=>c6 (a.1,a.2.1,c5 (a.2.2=(c3 c4 (b -1))))
def gQ(c:bD)(b:yc):Option ((yc)×Int×Int):=(eO L c (b.length:Int)).bind λa=>(aj b a.2.2).bind λd=>c6 (a.1,a.2.1,d)
def Bt(h:Int)(e:bD)(b:ak)(f:Int):Option (((yc)×Int×(List bP)×(List aZ)×Int)⊕((yc)×Int×(List bP)×(List aZ))):=bif c5 (f<h) then((eO L e 4).bind λa=>bif c5 (f=0) then(bj 16 b.ai ([(bP.mk (c3 c4 ((-10)*a.2.2)) true)]:List bP)).bind λi=>c6 (a.1,a.2.1,i) else(mK L (bD.mk a.1 a.2.1) 6).bind λd=>(bj 16 b.ai ([(bP.mk (c3 c4 ((-10)*a.2.2)) d.2.2)]:List bP)).bind λg=>c6 (d.1,d.2.1,g):Option ((yc)×Int×(List bP))).bind λc=>c6 (dd (c.1,c.2.1,c.2.2,b.af,c3 c4 (f+1))) else c6 (c7 (e.L,e.At,b.ai,b.af))
def By(h:Int)(e:bD)(b:ak)(a:Int):Option (((yc)×Int×(List bP)×(List aZ)×Int)⊕((yc)×Int×(List bP)×(List aZ))):=bif c5 (a<h) then(eO L e (min a 2)).bind λf=>(gQ L (bD.mk f.1 f.2.1) ([11,59,119,4]:yc)).bind λc=>(gQ L (bD.mk c.1 c.2.1) ([9,3,19]:yc)).bind λd=>(bj 72 b.af ([(aZ.mk (c3 c4 ((c3 c4 (a -1)) -f.2.2)) a (c3 c4 (1+c.2.2)) (c3 c4 (1+d.2.2)) true false (bI.mk 1 1) (bI.mk 0 0))]:List aZ)).bind λg=>c6 (dd (d.1,d.2.1,b.ai,g,c3 c4 (a+1))) else c6 (c7 (e.L,e.At,b.ai,b.af))
def HR(k:Int)(f:bD)(a:ak)(j:Int):Option (((yc)×Int×(List bP)×(List aZ)×Int)⊕((yc)×Int×(List bP)×(List aZ))):=(bif c5 (0<j) then c6 (c5 ((a.af.length:Int)<10)) else c6 false).bind λl=>bif l then(eO L f k).bind λc=>(eO L (bD.mk c.1 c.2.1) k).bind λb=>(gQ L (bD.mk b.1 b.2.1) ([11,59,199]:yc)).bind λd=>(gQ L (bD.mk d.1 d.2.1) ([9,3]:yc)).bind λe=>(eO L (bD.mk e.1 e.2.1) 5).bind λg=>(mK L (bD.mk g.1 g.2.1) 6).bind λh=>(bif c5 (c.2.2≠b.2.2) then(bj 72 a.af ([(aZ.mk c.2.2 b.2.2 (c3 c4 (1+d.2.2)) (c3 c4 (1+e.2.2)) (c5 (0<g.2.2)) h.2.2 (bI.mk 1 1) (bI.mk 0 0))]:List aZ)).bind λm=>c6 (a.ai,m) else c6 (a.ai,a.af)).bind λi=>c6 (dd (h.1,h.2.1,i.1,i.2,c3 c4 (j -1))) else c6 (c7 (f.L,f.At,a.ai,a.af))
def zN(h:bD):Option ((yc)×Int×ak):=(eO L h 6).bind λe=>(bif c5 ((e.1.length:Int)=0) then c6 4 else c6 (c3 c4 (2+e.2.2))).bind λf=>(L.loop (λa=>Bt L f (bD.mk a.1 a.2.1) (ak.mk a.2.2.1 a.2.2.2.1) a.2.2.2.2) (e.1,e.2.1,([]:List bP),([]:List aZ),0)).bind λb=>(L.loop (λa=>By L f (bD.mk a.1 a.2.1) (ak.mk a.2.2.1 a.2.2.2.1) a.2.2.2.2) (b.1,b.2.1,b.2.2.1,b.2.2.2,1)).bind λc=>(eO L (bD.mk c.1 c.2.1) 4).bind λg=>(L.loop (λa=>HR L f (bD.mk a.1 a.2.1) (ak.mk a.2.2.1 a.2.2.2.1) a.2.2.2.2) (g.1,g.2.1,c.2.2.1,c.2.2.2,g.2.2)).bind λd=>c6 (d.1,d.2.1,(ak.mk d.2.2.1 d.2.2.2))
def HH(g:Int)(c:bD)(d:yc)(b:Int):Option (((yc)×Int×(yc)×Int)⊕((yc)×Int×(yc))):=bif c5 (b<g) then(eO L c 3).bind λa=>(bif c5 (a.2.2=0) then(bj 8 d ([b]:yc)).bind λe=>c6 e else c6 d).bind λf=>c6 (dd (a.1,a.2.1,f,c3 c4 (b+1))) else c6 (c7 (c.L,c.At,d))
def A9(c:bD)(d:Int):Option ((yc)×Int×(yc)):=(L.loop (λa=>HH L d (bD.mk a.1 a.2.1) a.2.2.1 a.2.2.2) (c.L,c.At,([]:yc),0)).bind λb=>c6 (b.1,b.2.1,b.2.2)
def R2(j:ak)(e:bD)(g:List aS)(i:Int):Option (((yc)×Int×(List aS)×Int)⊕((yc)×Int×(List aS))):=bif c5 (0<i) then(A9 L e (j.ai.length:Int)).bind λb=>(gQ L (bD.mk b.1 b.2.1) ([9,29,4]:yc)).bind λd=>(eO L (bD.mk d.1 d.2.1) 3).bind λc=>(gQ L (bD.mk c.1 c.2.1) ([0,1,5]:yc)).bind λa=>(bif c5 ((b.2.2.length:Int)=0) then(eO L (bD.mk a.1 a.2.1) (j.ai.length:Int)).bind λf=>c6 (JB (bD.mk f.1 f.2.1) (aS.mk ([f.2.2]:yc) (c3 c4 (1+d.2.2)) c.2.2 a.2.2)) else c6 (JB (bD.mk a.1 a.2.1) (aS.mk b.2.2 (c3 c4 (1+d.2.2)) c.2.2 a.2.2))).bind λh=>let k:=ajn h;let l:=aom h;(bj 48 g ([l]:List aS)).bind λm=>c6 (dd (k.L,k.At,m,c3 c4 (i -1))) else c6 (c7 (e.L,e.At,g))
def BX(d:bD)(e:ak):Option ((yc)×Int×(List aS)):=(eO L d 4).bind λc=>(L.loop (λa=>R2 L e (bD.mk a.1 a.2.1) a.2.2.1 a.2.2.2) (c.1,c.2.1,([]:List aS),c.2.2)).bind λb=>c6 (b.1,b.2.1,b.2.2)
def JQ(j:ak)(g:bD)(h:List bI)(a:Int):Option (((yc)×Int×(List bI)×Int)⊕((yc)×Int×(List bI))):=bif c5 (a<(j.af.length:Int)) then(gQ L g ([0,1000,5000,20000,(-5000),(-20000),4999,100]:yc)).bind λc=>(gQ L (bD.mk c.1 c.2.1) ([0,1,1000,6000]:yc)).bind λd=>(gQ L (bD.mk d.1 d.2.1) ([0,1,500]:yc)).bind λf=>(bj 16 h ([(bI.mk (c3 c4 (c.2.2 -d.2.2)) (c3 c4 (c.2.2+f.2.2)))]:List bI)).bind λb=>(mK L (bD.mk f.1 f.2.1) 9).bind λe=>(bif e.2.2 then(aj b a).bind λ_=>(b[a.toNat]?).bind λ_=>c6 (b.set (a.toNat) (bI.mk (-1125899906842624) 1125899906842624)) else c6 b).bind λi=>c6 (dd (e.1,e.2.1,i,c3 c4 (a+1))) else c6 (c7 (g.L,g.At,h))
def Cq(c:bD)(d:ak):Option ((yc)×Int×(List bI)):=(L.loop (λa=>JQ L d (bD.mk a.1 a.2.1) a.2.2.1 a.2.2.2) (c.L,c.At,([]:List bI),0)).bind λb=>c6 (b.1,b.2.1,b.2.2)
def xG(L:Lp)(a:bI)(c:Int)(b:Int):Option Bool:=bif c5 (c<=a.eF) then bif c5 (a.eF<=a.fk) then c6 (c5 (a.fk<=b)) else c6 false else c6 false
def IS(L:Lp)(c:ak)(a:Int):Option (Int⊕(Unit⊕Unit)):=bif c5 (a<(c.ai.length:Int)) then(aj c.ai a).bind λb=>(bif c5 (b.eU<(-10000)) then c6 true else c6 (c5 (10000<b.eU))).bind λd=>bif d then c6 (c7 (dd ())) else c6 (dd (c3 c4 (a+1))) else c6 (c7 (c7 ()))
def KX(b:ak)(c:Int):Option (Int⊕(Int⊕Unit)):=bif c5 (c<(b.af.length:Int)) then(aj b.af c).bind λa=>(bif c5 (a.an<0) then c6 true else bif c5 ((b.ai.length:Int)<=a.an) then c6 true else bif c5 (a.To<0) then c6 true else bif c5 ((b.ai.length:Int)<=a.To) then c6 true else c6 (c5 (a.an=a.To))).bind λf=>bif f then c6 (c7 (dd 4)) else(bif c5 (a.aj3<1) then c6 true else bif c5 (100000<a.aj3) then c6 true else bif c5 (a.bT<1) then c6 true else bif c5 (1000<a.bT) then c6 true else(xG L a.anC 1 262144).bind λg=>bif (!g) then c6 true else(xG L a.eI (-2199023255552) 2199023255552).bind λe=>c6 (!e)).bind λd=>bif d then c6 (c7 (dd 1)) else c6 (dd (c3 c4 (c+1))) else c6 (c7 (c7 ()))
def EI(a:ak):Option Int:=(bif c5 (64<(a.ai.length:Int)) then c6 true else c6 (c5 (128<(a.af.length:Int)))).bind λe=>bif e then c6 2 else(L.loop (λb=>IS L a b) 0).bind λf=>dt (λh=>c6 1) (λi=>(L.loop (λb=>KX L a b) 0).bind λd=>dt (λc=>c6 c) (λg=>c6 0) d) f
def Da(L:Lp)(a:aZ)(b:Bool):Option (Int×Int):=bif b then c6 (a.To,a.an) else c6 (a.an,a.To)
def Gv(a:ak)(b:Int)(k:Bool)(h:Int)(m:Int)(p:Int):Option Int:=((EI L a).bind λq=>bif c5 (q≠0) then c6 true else bif c5 (b<0) then c6 true else bif c5 ((a.af.length:Int)<=b) then c6 true else(aj a.af b).bind λn=>bif n.eN then c6 true else(aj a.af b).bind λi=>c6 (!i.jy):Option Bool).bind λo=>bif o then c6 (-1) else(aj a.af b).bind λc=>(Da L c k).bind λg=>(aj a.ai g.2).bind λe=>(aj a.ai g.1).bind λf=>(bif c5 (c.aj3<(c3 c4 (10*(c3 c4 (e.eU -f.eU))))) then c6 h else c6 p).bind λj=>(bif c5 (c.aj3<(c3 c4 ((-10)*(c3 c4 (e.eU -f.eU))))) then c6 m else c6 j).bind λd=>(ph .i64 (c3 c4 ((c3 c4 ((c3 c4 (10*c.aj3))+d)) -1)) d).bind λl=>c6 l
def wm(b:ak)(d:Int)(c:Bool):Option Int:=(Gv L b d c 6 9 12).bind λa=>c6 a
def DG(L:Lp)(b:yc)(d:Int)(a:Int):Option (Int⊕(Unit⊕Unit)):=bif c5 (a<(b.length:Int)) then(aj b a).bind λc=>bif c5 (c=d) then c6 (c7 (dd ())) else c6 (dd (c3 c4 (a+1))) else c6 (c7 (c7 ()))
def xb(a:yc)(b:Int):Option Bool:=(L.loop (λd=>DG L a b d) 0).bind λc=>dt (λe=>c6 true) (λf=>c6 false) c
def Hh(b:ak)(e:yc)(c:yc)(a:Int):Option (((yc)×Int)⊕(yc)):=bif c5 (a<(b.af.length:Int)) then(aj b.af a).bind λd=>((wm L b a false).bind λh=>bif c5 (0<=h) then c6 true else(wm L b a true).bind λm=>c6 (c5 (0<=m)):Option Bool).bind λf=>(bif (!d.eN) then bif f then(xb L e d.an).bind λj=>(xb L e d.To).bind λk=>c6 (j != k) else c6 false else c6 false).bind λg=>(bif g then(bj 8 c ([a]:yc)).bind λi=>c6 i else c6 c).bind λl=>c6 (dd (l,c3 c4 (a+1))) else c6 (c7 c)
def Dt(b:ak)(d:yc):Option yc:=(L.loop (λa=>Hh L b d a.1 a.2) (([]:yc),0)).bind λc=>c6 c
def F8(p:(yc)×Int×ak)(c:bD)(j:List bP)(f:List aZ)(h:List aS)(k:List bI)(g:yc)(n:yc)(e:yc)(i:yc)(m:yc)(d:yc)(l:yc)(b:Int):Option (((yc)×Int×(List bP)×(List aZ)×(List aS)×(List bI)×(yc)×(yc)×(yc)×(yc)×(yc)×(yc)×(yc)×Int)⊕((yc)×Int×(List bP)×(List aZ)×(List aS)×(yc)×(yc)×(List bI)×(yc)×(yc)×(yc)×(yc)×(yc))):=bif c5 (0<b) then(eO L c (p.2.2.ai.length:Int)).bind λa=>(bj 8 d ([a.2.2]:yc)).bind λq=>(bj 8 l ([c3 c4 (30 - (c3 c4 (7*b)))]:yc)).bind λo=>c6 (dd (a.1,a.2.1,j,f,h,k,g,n,e,i,m,q,o,c3 c4 (b -1))) else c6 (c7 (c.L,c.At,j,f,h,d,l,k,g,n,e,i,m))
def zy(t:bD):Option ((yc)×Int×gM):=(zN L t).bind λd=>(BX L (bD.mk d.1 d.2.1) d.2.2).bind λn=>(eO L (bD.mk n.1 n.2.1) 3).bind λm=>(L.loop (λc=>F8 L d (bD.mk c.1 c.2.1) c.2.2.1 c.2.2.2.1 c.2.2.2.2.1 c.2.2.2.2.2.1 c.2.2.2.2.2.2.1 c.2.2.2.2.2.2.2.1 c.2.2.2.2.2.2.2.2.1 c.2.2.2.2.2.2.2.2.2.1 c.2.2.2.2.2.2.2.2.2.2.1 c.2.2.2.2.2.2.2.2.2.2.2.1 c.2.2.2.2.2.2.2.2.2.2.2.2.1 c.2.2.2.2.2.2.2.2.2.2.2.2.2) (m.1,m.2.1,d.2.2.ai,d.2.2.af,n.2.2,([]:List bI),([]:yc),([]:yc),([]:yc),([]:yc),([]:yc),([]:yc),([]:yc),c3 c4 (1+m.2.2))).bind λb=>(Cq L (bD.mk b.1 b.2.1) (ak.mk b.2.2.1 b.2.2.2.1)).bind λl=>(gQ L (bD.mk l.1 l.2.1) ([600,100,2000]:yc)).bind λk=>(mK L (bD.mk k.1 k.2.1) 3).bind λg=>(bif g.2.2 then(eO L (bD.mk g.1 g.2.1) (d.2.2.ai.length:Int)).bind λr=>c6 (r.1,r.2.1,b.2.2.1,b.2.2.2.1,b.2.2.2.2.1,b.2.2.2.2.2.1,b.2.2.2.2.2.2.1,l.2.2,([r.2.2]:yc),([]:yc),([]:yc),k.2.2,b.2.2.2.2.2.2.2.2.2.2.2.1,b.2.2.2.2.2.2.2.2.2.2.2.2) else c6 (g.1,g.2.1,b.2.2.1,b.2.2.2.1,b.2.2.2.2.1,b.2.2.2.2.2.1,b.2.2.2.2.2.2.1,l.2.2,([]:yc),([]:yc),([]:yc),k.2.2,b.2.2.2.2.2.2.2.2.2.2.2.1,b.2.2.2.2.2.2.2.2.2.2.2.2)).bind λa=>(gQ L (bD.mk a.1 a.2.1) ([299,4]:yc)).bind λj=>(gQ L (bD.mk j.1 j.2.1) ([99,1799]:yc)).bind λe=>(bif c5 (2<(d.2.2.ai.length:Int)) then(mK L (bD.mk e.1 e.2.1) 3).bind λp=>c6 (p.1,p.2.1,p.2.2) else c6 (e.1,e.2.1,false)).bind λf=>(bif f.2.2 then c6 (zl (gM.mk (ak.mk a.2.2.1 a.2.2.2.1) a.2.2.2.2.1 a.2.2.2.2.2.1 a.2.2.2.2.2.2.1 a.2.2.2.2.2.2.2.1 (bE.mk a.2.2.2.2.2.2.2.2.1 a.2.2.2.2.2.2.2.2.2.1 a.2.2.2.2.2.2.2.2.2.2.1 a.2.2.2.2.2.2.2.2.2.2.2.1) (cd.mk ([c3 c4 ((d.2.2.ai.length:Int) -2),c3 c4 ((d.2.2.ai.length:Int) -1)]:yc) (c3 c4 (1+j.2.2)) (c3 c4 (1+e.2.2))) a.2.2.2.2.2.2.2.2.2.2.2.2.2)) else c6 (zl (gM.mk (ak.mk a.2.2.1 a.2.2.2.1) a.2.2.2.2.1 a.2.2.2.2.2.1 a.2.2.2.2.2.2.1 a.2.2.2.2.2.2.2.1 (bE.mk a.2.2.2.2.2.2.2.2.1 a.2.2.2.2.2.2.2.2.2.1 a.2.2.2.2.2.2.2.2.2.2.1 a.2.2.2.2.2.2.2.2.2.2.2.1) (cd.mk ([c3 c4 ((d.2.2.ai.length:Int) -1)]:yc) (c3 c4 (1+j.2.2)) (c3 c4 (1+e.2.2))) a.2.2.2.2.2.2.2.2.2.2.2.2.2))).bind λu=>let h:=Nr u;(Dt L h.ao h.bM.bT).bind λs=>(bif c5 ((s.length:Int)=0) then c6 (f.1,f.2.1,true) else(mK L (bD.mk f.1 f.2.1) 8).bind λq=>c6 (q.1,q.2.1,q.2.2)).bind λi=>bif i.2.2 then(eO L (bD.mk i.1 i.2.1) (h.ao.af.length:Int)).bind λo=>c6 (o.1,o.2.1,({h with gZ:=([o.2.2]:yc)}:gM)) else c6 (i.1,i.2.1,({h with gZ:=s}:gM))
def Cw(a:gM):Option (aE×Bool):=(wX L a.ao a.aQ a.ai a.aw a.cI a.bR a.bM a.gZ).bind λb=>c6 (b.1,c5 (b.2=0))
def Di(x:bD)(j:Int)(u:Int)(w:Int)(v:Int)(A:Int):Option ((yc)×Int×bH):=(gQ L x ([1,1,2,2,3,4,3,4,5,6,7,8,9,10,11,12,13,7]:yc)).bind λa=>(bif c5 (a.2.2=1) then(gQ L (bD.mk a.1 a.2.1) ([1,5,10,30,100,0,300]:yc)).bind λc=>c6 (rB (bD.mk c.1 c.2.1) (bH.mk a.2.2 c.2.2 0 0)) else bif c5 (a.2.2=2) then(eO L (bD.mk a.1 a.2.1) j).bind λp=>(eO L (bD.mk p.1 p.2.1) u).bind λe=>(gQ L (bD.mk e.1 e.2.1) ([0,0,5,60]:yc)).bind λm=>c6 (rB (bD.mk m.1 m.2.1) (bH.mk a.2.2 p.2.2 e.2.2 m.2.2)) else bif c5 (a.2.2=3) then(eO L (bD.mk a.1 a.2.1) v).bind λh=>(gQ L (bD.mk h.1 h.2.1) ([0,0,1,2,3]:yc)).bind λq=>(gQ L (bD.mk q.1 q.2.1) ([0,0,1,(-1),3]:yc)).bind λl=>c6 (rB (bD.mk l.1 l.2.1) (bH.mk a.2.2 h.2.2 q.2.2 l.2.2)) else bif c5 (a.2.2=4) then(eO L (bD.mk a.1 a.2.1) v).bind λk=>c6 (rB (bD.mk k.1 k.2.1) (bH.mk a.2.2 k.2.2 0 0)) else bif c5 (a.2.2=5) then(eO L (bD.mk a.1 a.2.1) j).bind λn=>(eO L (bD.mk n.1 n.2.1) j).bind λi=>c6 (rB (bD.mk i.1 i.2.1) (bH.mk a.2.2 n.2.2 i.2.2 0)) else(bif c5 (a.2.2=6) then(eO L (bD.mk a.1 a.2.1) w).bind λr=>c6 (r.1,r.2.1,a.2.2,r.2.2,0) else bif c5 (a.2.2=7) then(eO L (bD.mk a.1 a.2.1) A).bind λg=>c6 (g.1,g.2.1,a.2.2,g.2.2,0) else(bif c5 (a.2.2=8) then c6 (c5 (a.2.2=8)) else c6 (c5 (a.2.2=9))).bind λB=>bif B then(eO L (bD.mk a.1 a.2.1) 2).bind λf=>c6 (f.1,f.2.1,a.2.2,c3 c4 (1+f.2.2),0) else bif c5 (a.2.2=10) then(eO L (bD.mk a.1 a.2.1) 4).bind λo=>(ph .i64 o.2.2 3).bind λy=>c6 (o.1,o.2.1,a.2.2,0,y) else(bif c5 (a.2.2=11) then c6 (c5 (a.2.2=11)) else c6 (c5 (a.2.2=12))).bind λC=>bif C then(eO L (bD.mk a.1 a.2.1) u).bind λd=>c6 (d.1,d.2.1,a.2.2,d.2.2,0) else c6 (a.1,a.2.1,a.2.2,0,0)).bind λb=>c6 (rB (bD.mk b.1 b.2.1) (bH.mk b.2.2.1 b.2.2.2.1 b.2.2.2.2 0))).bind λs=>let t:=aba s;let z:=age s;c6 (t.L,t.At,z)
def II(L:Lp)(d:aE)(b:List bH)(a:Int):Option (((List bH)×Int)⊕(List bH)):=bif c5 (a<(d.aa2.af.length:Int)) then(bj 32 b ([(bH.mk 7 a 0 0)]:List bH)).bind λc=>c6 (dd (c,c3 c4 (a+1))) else c6 (c7 b)
def T2(a:aE)(i:bD)(d:List bH)(l:Int):Option (((yc)×Int×(List bH)×Int)⊕((yc)×Int×(List bH))):=(bif c5 (0<l) then c6 (c5 ((d.length:Int)<60)) else c6 false).bind λp=>bif p then((mK L i 12).bind λb=>bif b.2.2 then(L.loop (λm=>II L a m.1 m.2) (d,0)).bind λq=>(bj 32 q ([(bH.mk 8 1 0 0),(bH.mk 1 3 0 0),(bH.mk 9 2 0 0),(bH.mk 10 0 0 0)]:List bH)).bind λr=>c6 (b.1,b.2.1,r) else((mK L (bD.mk b.1 b.2.1) 3).bind λc=>bif c.2.2 then c6 (c.1,c.2.1,c5 (0<(a.au.aQ.length:Int))) else c6 (c.1,c.2.1,false):Option ((yc)×Int×Bool)).bind λe=>bif e.2.2 then(eO L (bD.mk e.1 e.2.1) (a.au.aQ.length:Int)).bind λf=>(gQ L (bD.mk f.1 f.2.1) ([0,0,1]:yc)).bind λg=>(gQ L (bD.mk g.1 g.2.1) ([1,5,10,20]:yc)).bind λk=>(bj 32 d ([(bH.mk 3 f.2.2 g.2.2 0),(bH.mk 4 f.2.2 0 0),(bH.mk 1 k.2.2 0 0)]:List bH)).bind λo=>c6 (k.1,k.2.1,o) else(Di L (bD.mk e.1 e.2.1) (a.au.aN.length:Int) (a.ao.af.length:Int) (a.ao.ai.length:Int) (max 1 (a.au.aQ.length:Int)) (max 1 (a.aa2.af.length:Int))).bind λj=>(bj 32 d ([j.2.2]:List bH)).bind λn=>c6 (j.1,j.2.1,n):Option ((yc)×Int×(List bH))).bind λh=>c6 (dd (h.1,h.2.1,h.2.2,c3 c4 (l -1))) else c6 (c7 (i.L,i.At,d))
def EJ(e:bD)(f:aE)(d:Int):Option ((yc)×Int×(List bH)):=(eO L e d).bind λc=>(L.loop (λa=>T2 L f (bD.mk a.1 a.2.1) a.2.2.1 a.2.2.2) (c.1,c.2.1,([]:List bH),c3 c4 (5+c.2.2))).bind λb=>c6 (b.1,b.2.1,b.2.2)
def Be(b:ak)(d:bE)(c:Int):Option ((yc)×(yc)×Bool):=(r7 L b d c).bind λa=>c6 (a.1,a.2.1,a.2.2.2)
def anM(L:Lp)(a:cS)(c:Int)(b:Int):Option Bool:=bif c5 (a.gX=c) then c6 (c5 (a.from_=b)) else c6 false
def auJ(b:List cS)(e:Int)(c:Int)(d:Int):Option (Int⊕(Int⊕Unit)):=wi b (λa=>anM L a e c) d
def aob(a:List cS)(c:Int)(b:Int):Option Int:=(L.loop (λf=>auJ L a c b f) 0).bind λe=>dt (λd=>c6 d) (λg=>c6 (-1)) e
def anZ(d:yc)(a:cm)(e:yc)(f:Int)(g:Int)(c:Int):Option (((yc)×Int×Int×Int)⊕(Unit⊕(Int×Int))):=bif c5 (c<(d.length:Int)) then(aj d c).bind λp=>(aob L a.steps p f).bind λb=>(bif c5 (b<0) then c6 true else(aj a.steps b).bind λm=>(wJ L a m).bind λi=>bif (!i) then c6 true else(aj a.steps b).bind λl=>(im L e l.b9).bind λo=>c6 o).bind λj=>bif j then c6 (c7 (dd ())) else(aj a.steps b).bind λh=>(aj a.steps b).bind λn=>(bj 8 e ([h.b9]:yc)).bind λk=>c6 (dd (k,h.b9,c3 c4 (g+n.time),c3 c4 (c+1))) else c6 (c7 (c7 (f,g)))
def anJ(b:ak)(d:bE)(c:Int)(h:yc):Option (Int×Int):=(rP L b d).bind λj=>bif (!j) then c6 (0,6) else(Bc L b d c).bind λi=>bif (!i) then c6 (0,3) else(w9 L b d).bind λf=>(L.loop (λa=>anZ L h f a.1 a.2.1 a.2.2.1 a.2.2.2) (([c]:yc),c,0,0)).bind λk=>dt (λl=>c6 (0,45)) (λe=>(aj f.safe e.1).bind λg=>bif (!g) then c6 (0,45) else c6 (e.2,0)) k
def ar5(L:Lp)(b:aE×Int)(e:bC)(c:Bool)(a:Int):Option ((Bool×Int)⊕Bool):=bif c5 (a<(b.1.bS.length:Int)) then(bif c then c6 true else(aj b.1.bS a).bind λg=>bif c5 (g.abv=2) then(aj b.1.bS a).bind λf=>c6 (c5 (f.eB=e.abG)) else c6 false).bind λd=>c6 (dd (d,c3 c4 (a+1))) else c6 (c7 c)
def ar6(b:(yc)×(yc)×Bool)(c:Bool)(a:Int):Option ((Bool×Int)⊕Bool):=bif c5 (a<(b.1.length:Int)) then(bif c then(aj b.1 a).bind λe=>(xb L b.2.1 e).bind λf=>c6 (!f) else c6 false).bind λd=>c6 (dd (d,c3 c4 (a+1))) else c6 (c7 c)
def ar0(a:aE×Int)(e:Int):Option (Int⊕(Unit⊕Unit)):=bif c5 (e<(a.1.au.aN.length:Int)) then(aj a.1.au.aN e).bind λb=>(L.loop (λc=>ar5 L a b c.1 c.2) (false,0)).bind λi=>(Be L a.1.ao a.1.bR b.abG).bind λd=>(anJ L a.1.ao a.1.bR b.abG d.1).bind λg=>(anJ L a.1.ao a.1.bR b.abG d.2.1).bind λh=>(v7 L a.1.ao b.abG).bind λf=>(L.loop (λc=>ar6 L d c.1 c.2) (d.2.2,0)).bind λj=>(bif (!i) then bif (!j) then c6 true else bif c5 (g.2≠0) then c6 true else bif c5 (h.2≠0) then c6 true else bif c5 (a.1.bR.er<(c3 c4 (g.1+f))) then c6 true else c6 (c5 (a.1.bR.er<(c3 c4 (h.1+f)))) else c6 false).bind λk=>bif k then c6 (c7 (dd ())) else c6 (dd (c3 c4 (e+1))) else c6 (c7 (c7 ()))
def arY(c:(yc)×Int×(List bH))(k:aE)(b:Int):Option (pJ⊕(Unit⊕Unit)):=bif c5 (b<(c.2.2.length:Int)) then((aj c.2.2 b).bind λi=>(w7 L k i).bind λa=>((aj c.2.2 b).bind λf=>bif c5 (f.abv≠12) then c6 true else bif c5 (a.2≠0) then c6 true else c6 (c5 (0<(a.1.bz.an.length:Int))):Option Bool).bind λg=>bif g then c6 (dd (lR a.1)) else(L.loop (λl=>ar0 L a l) 0).bind λh=>dt (λm=>c6 (c7 ())) (λo=>c6 (dd (lR a.1))) h:Option (qc⊕Unit)).bind λe=>dt (λd=>let j:=tT d;c6 (dd (u16 j (c3 c4 (b+1))))) (λn=>c6 (c7 (dd ()))) e else c6 (c7 (c7 ()))
def ar7(c:yc):Option Bool:=(I1 L c).bind λh=>bif (!h) then(vn L).bind λj=>c6 j else(NC L c).bind λf=>(zy L (bD.mk f 0)).bind λb=>(Cw L b.2.2).bind λa=>bif (!a.2) then c6 false else(EJ L (bD.mk b.1 b.2.1) a.1 30).bind λe=>(L.loop (λd=>arY L e (sN d) (sE d)) (u16 a.1 0)).bind λi=>dt (λk=>c6 false) (λl=>(vn L).bind λg=>c6 g) i
end Go.X.T
namespace Go.X.T
open Go Go.Aml Go.Bml Go.X Go.Proofs
def IQ:List (List (Nat×Ty)):=[
 [(3,⟨Int,(PV.int .i64)⟩),(4,⟨Bool,PV.bool⟩),(5,⟨Int,(PV.int .u8)⟩)],
 [(22,⟨List Int,(λa=>PV.vs 1 (dk (PV.int .i64) a))⟩),(27,⟨List bP,(λa=>PV.vs 2 (dk bP.enc a))⟩),(28,⟨List aZ,(λa=>PV.vs 10 (dk aZ.enc a))⟩),(30,⟨ak,ak.enc⟩),(31,⟨List bC,(λa=>PV.vs 3 (dk bC.enc a))⟩)],
 [(32,⟨List aS,(λa=>PV.vs 4 (dk aS.enc a))⟩),(33,⟨List (List Int),(λa=>PV.vs 1 (dk (λa=>PV.vs 1 (dk (PV.int .i64) a)) a))⟩),(35,⟨aB,aB.enc⟩),(36,⟨List bI,(λa=>PV.vs 2 (dk bI.enc a))⟩),(38,⟨bE,bE.enc⟩),(40,⟨cd,cd.enc⟩),(41,⟨List aT,(λa=>PV.vs 4 (dk aT.enc a))⟩),(43,⟨cZ,cZ.enc⟩),(44,⟨List ay,(λa=>PV.vs 2 (dk ay.enc a))⟩),(46,⟨aL,aL.enc⟩)],
 [(48,⟨bQ,bQ.enc⟩),(50,⟨bA,bA.enc⟩),(52,⟨b7,b7.enc⟩),(53,⟨List cy,(λa=>PV.vs 9 (dk cy.enc a))⟩),(54,⟨List dK,(λa=>PV.vs 7 (dk dK.enc a))⟩),(56,⟨aE,aE.enc⟩),(60,⟨gM,gM.enc⟩),(62,⟨List bH,(λa=>PV.vs 4 (dk bH.enc a))⟩)],
 [(65,⟨bH,bH.enc⟩),(67,⟨Int,(PV.int .i64)⟩),(75,⟨cy,cy.enc⟩)],
 [(83,⟨dK,dK.enc⟩),(88,⟨bC,bC.enc⟩),(90,⟨bI,bI.enc⟩),(95,⟨List Int,(λa=>PV.vs 1 (dk (PV.int .u8) a))⟩)],
 [(97,⟨fa,fa.enc⟩),(101,⟨aT,aT.enc⟩),(106,⟨qe,qe.enc⟩),(107,⟨List fa,(λa=>PV.vs 3 (dk fa.enc a))⟩)],
 [(115,⟨aZ,aZ.enc⟩),(117,⟨bP,bP.enc⟩),(120,⟨aS,aS.enc⟩)],
 [(134,⟨Option Nat,arf⟩),(138,⟨List aM,(λa=>PV.vs 2 (dk aM.enc a))⟩),(140,⟨ay,ay.enc⟩),(142,⟨aM,aM.enc⟩)],
 [(144,⟨ju,ju.enc⟩),(159,⟨List (Option Nat),(λa=>PV.vs 1 (dk arf a))⟩)],
 [(161,⟨Option Nat,arf⟩),(167,⟨List cS,(λa=>PV.vs 4 (dk cS.enc a))⟩),(168,⟨List Bool,(λa=>PV.vs 1 (dk PV.bool a))⟩),(170,⟨cm,cm.enc⟩),(174,⟨cS,cS.enc⟩)],
 [(179,⟨Int,(PV.int .u64)⟩),(181,⟨Int,(PV.int .u64)⟩)],
 [],
 [(222,⟨kD,kD.enc⟩)],
 [(230,⟨pL,pL.enc⟩)],
 [(247,⟨List dS,(λa=>PV.vs 4 (dk dS.enc a))⟩),(251,⟨dS,dS.enc⟩)],
 [],
 [(272,⟨List da,(λa=>PV.vs 2 (dk da.enc a))⟩),(275,⟨da,da.enc⟩),(283,⟨kC,kC.enc⟩)],
 [],
 [(309,⟨List dC,(λa=>PV.vs 4 (dk dC.enc a))⟩),(312,⟨dC,dC.enc⟩)],
 [(333,⟨jf,jf.enc⟩)]]
def Du(a:Nat):Ty:=Br (px IQ (a/16)) a
@[reducible] def DT (a:Nat):Type:=(Du a).T
def anu:List (List (Nat×xz)):=[
 [(3,⟨1,true,0⟩),(4,⟨1,true,0⟩),(5,⟨1,true,0⟩)],
 [(22,⟨1,false,3⟩),(27,⟨1,false,117⟩),(28,⟨1,false,115⟩),(30,⟨2,false,0⟩),(31,⟨1,false,88⟩)],
 [(32,⟨1,false,120⟩),(33,⟨1,false,22⟩),(35,⟨9,false,0⟩),(36,⟨1,false,90⟩),(38,⟨4,false,0⟩),(40,⟨3,false,0⟩),(41,⟨1,false,101⟩),(43,⟨2,false,0⟩),(44,⟨1,false,140⟩),(46,⟨1,false,0⟩)],
 [(48,⟨2,false,0⟩),(50,⟨3,false,0⟩),(52,⟨4,true,0⟩),(53,⟨1,false,75⟩),(54,⟨1,false,83⟩),(56,⟨36,false,0⟩),(60,⟨14,false,0⟩),(62,⟨1,false,65⟩)],
 [(65,⟨4,true,0⟩),(67,⟨1,true,0⟩),(75,⟨9,true,0⟩)],
 [(83,⟨7,false,0⟩),(88,⟨3,true,0⟩),(90,⟨2,true,0⟩),(95,⟨1,false,5⟩)],
 [(97,⟨3,false,0⟩),(101,⟨4,false,0⟩),(106,⟨2,false,0⟩),(107,⟨1,false,97⟩)],
 [(115,⟨10,true,0⟩),(117,⟨2,true,0⟩),(120,⟨4,false,0⟩)],
 [(134,⟨1,false,0⟩),(138,⟨1,false,142⟩),(140,⟨2,false,0⟩),(142,⟨2,false,0⟩)],
 [(144,⟨2,true,0⟩),(159,⟨1,false,161⟩)],
 [(161,⟨1,false,0⟩),(167,⟨1,false,174⟩),(168,⟨1,false,4⟩),(170,⟨4,false,0⟩),(174,⟨4,true,0⟩)],
 [(179,⟨1,true,0⟩),(181,⟨1,true,0⟩)],
 [],
 [(222,⟨3,true,0⟩)],
 [(230,⟨4,false,0⟩)],
 [(247,⟨1,false,251⟩),(251,⟨4,true,0⟩)],
 [],
 [(272,⟨1,false,275⟩),(275,⟨2,true,0⟩),(283,⟨2,true,0⟩)],
 [],
 [(309,⟨1,false,312⟩),(312,⟨4,true,0⟩)],
 [(333,⟨13,false,0⟩)]]
def KF(a:Nat):xz:=Eu (px anu (a/16)) a
def YH:List (List (Σ a,Ev DT a)):=[
 [⟨3,fA DT .i64 rfl⟩,⟨4,nE DT rfl⟩,⟨5,fA DT .u8 rfl⟩],
 [⟨22,bJ DT 3 rfl⟩,⟨27,bJ DT 117 rfl⟩,⟨28,bJ DT 115 rfl⟩,⟨31,bJ DT 88 rfl⟩],
 [⟨32,bJ DT 120 rfl⟩,⟨33,lx DT 22 3 rfl rfl⟩,⟨36,bJ DT 90 rfl⟩,⟨41,bJ DT 101 rfl⟩,⟨44,bJ DT 140 rfl⟩],
 [⟨53,bJ DT 75 rfl⟩,⟨54,bJ DT 83 rfl⟩,⟨62,bJ DT 65 rfl⟩],
 [⟨67,fA DT .i64 rfl⟩],
 [⟨95,bJ DT 5 rfl⟩],
 [⟨107,bJ DT 97 rfl⟩],
 [],
 [⟨134,iR DT rfl⟩,⟨138,bJ DT 142 rfl⟩],
 [⟨159,bJ DT 161 rfl⟩],
 [⟨161,iR DT rfl⟩,⟨167,bJ DT 174 rfl⟩,⟨168,bJ DT 4 rfl⟩],
 [⟨179,fA DT .u64 rfl⟩,⟨181,fA DT .u64 rfl⟩],
 [],
 [],
 [],
 [⟨247,bJ DT 251 rfl⟩],
 [],
 [⟨272,bJ DT 275 rfl⟩],
 [],
 [⟨309,bJ DT 312 rfl⟩],
 []]
def bh(a:Nat):Ev DT a:=Jq DT (px YH (a/16)) a
def aof:bi DT [27,28]->ak:=λ(a,b)=>(ak.mk a b)
def aop:ak->bi DT [27,28]:=λa=>(a.ai,a.af)
def aow:bi DT [27,28,3,31,22,32,22,22,33]->aB:=λ(d,b,e,a,c,f,g,h,i)=>(aB.mk (ak.mk d b) e a c f g h i)
def aoG:aB->bi DT [27,28,3,31,22,32,22,22,33]:=λa=>(a.ao.ai,a.ao.af,a.aa0,a.aN,a.aw,a.aQ,a.cn,a.cf,a.bp)
def aoM:bi DT [22,22,22,3]->bE:=λ(a,b,d,c)=>(bE.mk a b d c)
def ao3:bE->bi DT [22,22,22,3]:=λa=>(a.akL,a.dg,a.dG,a.er)
def apd:bi DT [22,3,3]->cd:=λ(a,b,c)=>(cd.mk a b c)
def ape:cd->bi DT [22,3,3]:=λa=>(a.bT,a.dZ,a.ed)
def apx:bi DT [22,22]->cZ:=λ(a,b)=>(cZ.mk a b)
def apI:cZ->bi DT [22,22]:=λa=>(a.dl,a.dr)
def apL:bi DT [44]->aL:=λa=>(aL.mk a)
def apQ:aL->bi DT [44]:=λa=>a.aA
def aqd:bi DT [3,22]->bQ:=λ(a,b)=>(bQ.mk a b)
def aqm:bQ->bi DT [3,22]:=λa=>(a.aa0,a.an)
def aqs:bi DT [22,22,4]->bA:=λ(a,b,c)=>(bA.mk a b c)
def aqz:bA->bi DT [22,22,4]:=λa=>(a.af,a.aa2,a.Out)
def aqB:bi DT [3,3,3,3]->b7:=λ(a,b,d,c)=>(b7.mk a b d c)
def aqN:b7->bi DT [3,3,3,3]:=λa=>(a.State,a.dD,a.akU,a.aa0)
def aqO:bi DT [27,28,3,31,22,32,22,22,33,27,28,36,22,22,22,3,22,3,3,41,41,22,22,44,3,22,22,22,4,3,3,3,3,44,53,54]->aE:=λ(w,b,m,h,l,f,g,C,i,k,c,a,y,F,e,p,q,r,B,E,j,v,t,s,D,z,I,o,n,J,H,x,d,G,u,A)=>(aE.mk (aB.mk (ak.mk w b) m h l f g C i) (ak.mk k c) a (bE.mk y F e p) (cd.mk q r B) E j (cZ.mk v t) (aL.mk s) (bQ.mk D z) (bA.mk I o n) (b7.mk J H x d) (aL.mk G) u A)
def aqP:aE->bi DT [27,28,3,31,22,32,22,22,33,27,28,36,22,22,22,3,22,3,3,41,41,22,22,44,3,22,22,22,4,3,3,3,3,44,53,54]:=λa=>(a.au.ao.ai,a.au.ao.af,a.au.aa0,a.au.aN,a.au.aw,a.au.aQ,a.au.cn,a.au.cf,a.au.bp,a.ao.ai,a.ao.af,a.cI,a.bR.akL,a.bR.dg,a.bR.dG,a.bR.er,a.bM.bT,a.bM.dZ,a.bM.ed,a.cq,a.bZ,a.cW.dl,a.cW.dr,a.bw.aA,a.bz.aa0,a.bz.an,a.aa2.af,a.aa2.aa2,a.aa2.Out,a.cL.State,a.cL.dD,a.cL.akU,a.cL.aa0,a.bq.aA,a.bS,a.bB)
def aqR:bi DT [27,28,32,22,22,36,22,22,22,3,22,3,3,22]->gM:=λ(k,b,m,a,j,f,g,n,i,h,d,c,l,e)=>(gM.mk (ak.mk k b) m a j f (bE.mk g n i h) (cd.mk d c l) e)
def aqS:gM->bi DT [27,28,32,22,22,36,22,22,22,3,22,3,3,22]:=λa=>(a.ao.ai,a.ao.af,a.aQ,a.ai,a.aw,a.cI,a.bR.akL,a.bR.dg,a.bR.dG,a.bR.er,a.bM.bT,a.bM.dZ,a.bM.ed,a.gZ)
def aqU:bi DT [3,3,3,3]->bH:=λ(a,b,d,c)=>(bH.mk a b d c)
def aqV:bH->bi DT [3,3,3,3]:=λa=>(a.abv,a.A,a.B,a.C)
def aqW:bi DT [3,3,3,3,3,4,4,3,3]->cy:=λ(d,b,e,a,c,f,g,h,i)=>(cy.mk d b e a c f g h i)
def aqX:cy->bi DT [3,3,3,3,3,4,4,3,3]:=λa=>(a.abv,a.eB,a.anS,a.ku,a.l9,a.sd,a.uV,a.mZ,a.pB)
def aqY:bi DT [3,3,3,3,3,67,22]->dK:=λ(c,b,e,d,a,f,g)=>(dK.mk (bH.mk c b e d) a f g)
def aq0:dK->bi DT [3,3,3,3,3,67,22]:=λa=>(a.Event.abv,a.Event.A,a.Event.B,a.Event.C,a.aa0,a.Code,a.ll)
def aq1:bi DT [3,3,3]->bC:=λ(a,b,c)=>(bC.mk a b c)
def aq2:bC->bi DT [3,3,3]:=λa=>(a.abG,a.akw,a.ami)
def aq3:bi DT [3,3]->bI:=λ(a,b)=>(bI.mk a b)
def aq7:bI->bi DT [3,3]:=λa=>(a.eF,a.fk)
def aq8:bi DT [3,3,95]->fa:=λ(a,b,c)=>(fa.mk a b c)
def aq9:fa->bi DT [3,3,95]:=λa=>(a.kO,a.abv,a.Data)
def arb:bi DT [3,3,3,22]->aT:=λ(a,b,d,c)=>(aT.mk a b d c)
def ard:aT->bi DT [3,3,3,22]:=λa=>(a.agX,a.aj6,a.aa0,a.aw)
def are:bi DT [95,3]->qe:=λ(a,b)=>(qe.mk a b)
def arh:qe->bi DT [95,3]:=λa=>(a.Ho,a.Hp)
def ari:bi DT [3,3,3,3,4,4,3,3,3,3]->aZ:=λ(e,b,h,a,d,f,g,j,i,c)=>(aZ.mk e b h a d f (bI.mk g j) (bI.mk i c))
def arj:aZ->bi DT [3,3,3,3,4,4,3,3,3,3]:=λa=>(a.an,a.To,a.aj3,a.bT,a.jy,a.eN,a.anC.eF,a.anC.fk,a.eI.eF,a.eI.fk)
def ark:bi DT [3,4]->bP:=λ(a,b)=>(bP.mk a b)
def arl:bP->bi DT [3,4]:=λa=>(a.eU,a.wj)
def arn:bi DT [22,3,3,3]->aS:=λ(a,b,d,c)=>(aS.mk a b d c)
def aro:aS->bi DT [22,3,3,3]:=λa=>(a.ai,a.dX,a.dY,a.cR)
def arq:bi DT [22,138]->ay:=λ(a,b)=>(ay.mk a b)
def art:ay->bi DT [22,138]:=λa=>(a.aw,a.aH)
def aru:bi DT [3,22]->aM:=λ(a,b)=>(aM.mk a b)
def arv:aM->bi DT [3,22]:=λa=>(a.aa0,a.an)
def arw:bi DT [3,3]->ju:=λ(a,b)=>(ju.mk a b)
def arx:ju->bi DT [3,3]:=λa=>(a.a0,a.a1)
def ary:bi DT [3,167,168,168]->cm:=λ(a,b,d,c)=>(cm.mk a b d c)
def arA:cm->bi DT [3,167,168,168]:=λa=>(a.n,a.steps,a.safe,a.bad)
def arD:bi DT [3,3,3,3]->cS:=λ(a,b,d,c)=>(cS.mk a b d c)
def arF:cS->bi DT [3,3,3,3]:=λa=>(a.gX,a.from_,a.b9,a.time)
def arG:bi DT [3,3,3]->kD:=λ(a,b,c)=>(kD.mk a b c)
def arH:kD->bi DT [3,3,3]:=λa=>(a.up,a.down,a.level)
def arI:bi DT [27,28,36,22]->pL:=λ(a,b,d,c)=>(pL.mk (ak.mk a b) d c)
def arL:pL->bi DT [27,28,36,22]:=λa=>(a.m.ai,a.m.af,a.KE,a.from_)
def arN:bi DT [3,3,3,3]->dS:=λ(a,b,d,c)=>(dS.mk a b d c)
def arO:dS->bi DT [3,3,3,3]:=λa=>(a.agX,a.Tag,a.an,a.To)
def arP:bi DT [3,3]->da:=λ(a,b)=>(da.mk a b)
def arQ:da->bi DT [3,3]:=λa=>(a.time,a.roads)
def arR:bi DT [3,3]->kC:=λ(a,b)=>(kC.mk a b)
def arS:kC->bi DT [3,3]:=λa=>(a.kind,a.Dn)
def arT:bi DT [3,3,3,3]->dC:=λ(a,b,d,c)=>(dC.mk a b d c)
def arV:dC->bi DT [3,3,3,3]:=λa=>(a.agX,a.Tag,a.an,a.To)
def arW:bi DT [22,3,3,3,3,3,3,22,22,4,44,3,3]->jf:=λ(j,b,l,a,h,f,g,m,i,e,d,c,k)=>(jf.mk (cd.mk j b l) (b7.mk a h f g) (bA.mk m i e) (aL.mk d) c k)
def arX:jf->bi DT [22,3,3,3,3,3,3,22,22,4,44,3,3]:=λa=>(a.x.bT,a.x.dZ,a.x.ed,a.s.State,a.s.dD,a.s.akU,a.s.aa0,a.k.af,a.k.aa2,a.k.Out,a.b.aA,a.t,a.from_)
def Yv:List (List (Σ a,Ev DT a)):=[
 [⟨3,fA DT .i64 rfl⟩,
  ⟨4,nE DT rfl⟩,
  ⟨5,fA DT .u8 rfl⟩],
 [⟨22,bJ DT 3 rfl⟩,
  ⟨27,bJ DT 117 rfl⟩,
  ⟨28,bJ DT 115 rfl⟩,
  ⟨30,cw DT bh [27,28] aof aop rfl⟩,
  ⟨31,bJ DT 88 rfl⟩],
 [⟨32,bJ DT 120 rfl⟩,
  ⟨33,lx DT 22 3 rfl rfl⟩,
  ⟨35,cw DT bh [27,28,3,31,22,32,22,22,33] aow aoG rfl⟩,
  ⟨36,bJ DT 90 rfl⟩,
  ⟨38,cw DT bh [22,22,22,3] aoM ao3 rfl⟩,
  ⟨40,cw DT bh [22,3,3] apd ape rfl⟩,
  ⟨41,bJ DT 101 rfl⟩,
  ⟨43,cw DT bh [22,22] apx apI rfl⟩,
  ⟨44,bJ DT 140 rfl⟩,
  ⟨46,cw DT bh [44] apL apQ rfl⟩],
 [⟨48,cw DT bh [3,22] aqd aqm rfl⟩,
  ⟨50,cw DT bh [22,22,4] aqs aqz rfl⟩,
  ⟨52,cw DT bh [3,3,3,3] aqB aqN rfl⟩,
  ⟨53,bJ DT 75 rfl⟩,
  ⟨54,bJ DT 83 rfl⟩,
  ⟨56,cw DT bh [27,28,3,31,22,32,22,22,33,27,28,36,22,22,22,3,22,3,3,41,41,22,22,44,3,22,22,22,4,3,3,3,3,44,53,54] aqO aqP rfl⟩,
  ⟨60,cw DT bh [27,28,32,22,22,36,22,22,22,3,22,3,3,22] aqR aqS rfl⟩,
  ⟨62,bJ DT 65 rfl⟩],
 [⟨65,cw DT bh [3,3,3,3] aqU aqV rfl⟩,
  ⟨67,fA DT .i64 rfl⟩,
  ⟨75,cw DT bh [3,3,3,3,3,4,4,3,3] aqW aqX rfl⟩],
 [⟨83,cw DT bh [3,3,3,3,3,67,22] aqY aq0 rfl⟩,
  ⟨88,cw DT bh [3,3,3] aq1 aq2 rfl⟩,
  ⟨90,cw DT bh [3,3] aq3 aq7 rfl⟩,
  ⟨95,bJ DT 5 rfl⟩],
 [⟨97,cw DT bh [3,3,95] aq8 aq9 rfl⟩,
  ⟨101,cw DT bh [3,3,3,22] arb ard rfl⟩,
  ⟨106,cw DT bh [95,3] are arh rfl⟩,
  ⟨107,bJ DT 97 rfl⟩],
 [⟨115,cw DT bh [3,3,3,3,4,4,3,3,3,3] ari arj rfl⟩,
  ⟨117,cw DT bh [3,4] ark arl rfl⟩,
  ⟨120,cw DT bh [22,3,3,3] arn aro rfl⟩],
 [⟨134,iR DT rfl⟩,
  ⟨138,bJ DT 142 rfl⟩,
  ⟨140,cw DT bh [22,138] arq art rfl⟩,
  ⟨142,cw DT bh [3,22] aru arv rfl⟩],
 [⟨144,cw DT bh [3,3] arw arx rfl⟩,
  ⟨159,bJ DT 161 rfl⟩],
 [⟨161,iR DT rfl⟩,
  ⟨167,bJ DT 174 rfl⟩,
  ⟨168,bJ DT 4 rfl⟩,
  ⟨170,cw DT bh [3,167,168,168] ary arA rfl⟩,
  ⟨174,cw DT bh [3,3,3,3] arD arF rfl⟩],
 [⟨179,fA DT .u64 rfl⟩,
  ⟨181,fA DT .u64 rfl⟩],
 [],
 [⟨222,cw DT bh [3,3,3] arG arH rfl⟩],
 [⟨230,cw DT bh [27,28,36,22] arI arL rfl⟩],
 [⟨247,bJ DT 251 rfl⟩,
  ⟨251,cw DT bh [3,3,3,3] arN arO rfl⟩],
 [],
 [⟨272,bJ DT 275 rfl⟩,
  ⟨275,cw DT bh [3,3] arP arQ rfl⟩,
  ⟨283,cw DT bh [3,3] arR arS rfl⟩],
 [],
 [⟨309,bJ DT 312 rfl⟩,
  ⟨312,cw DT bh [3,3,3,3] arT arV rfl⟩],
 [⟨333,cw DT bh [22,3,3,3,3,3,3,22,22,4,44,3,3] arW arX rfl⟩]]
def bf(a:Nat):Ev DT a:=Jq DT (px Yv (a/16)) a
def BT:Tb:=⟨Du,λa=>(bf a).tv,λa=>(bf a).up,λa=>(KF a).sz,λa=>(KF a).fl,λa=>(KF a).el⟩
def eX:Nat->List Nat->List (Nat×CP)
 |_,[]=>[]
 |i,a::b=>(i,.v a)::eX (i+1) b
def cV(f:Nat)(a b:List Nat)(c:bi BT.D (bY.bX ⟨[],eX 0 a⟩)->Option (bi BT.D (bY.bX ⟨[],eX 0 b⟩))):aq BT:=⟨f,len a,0,⟨[],eX 0 a⟩,⟨[],eX 0 b⟩,c⟩
def alh:List Nat->List CP
 |[]=>[]
 |a::b=>.v a::alh b
def abx:List CP->List (Nat×CP)->List CP
 |a,[]=>a
 |a,(i,c)::b=>abx (me a i c) b
def adU:List CP:=alh [27,28,3,31,22,32,22,22,33,27,28,36,22,22,22,3,22,3,3,41,41,22,22,44,3,22,22,22,4,3,3,3,3,44,53,54,22]
def amj:List CP:=alh [27,28,3,31,22,32,22,22,33]
def amv:List CP:=alh [27,28,3,31,22,32,22,22,33,27,28,36,22,22,22,3,22,3,3,41,41,22,22,44,3,22,22,22,4,3,3,3,3,44,53,54]
end Go.X.T
namespace Go.X.T
open Go Go.Aml Go.Bml Go.X Go.Proofs
variable (L:Lp)
def C0:aq BT:=cV 8 [22] [4] λa=>I1 L a
def C1:aq BT:=cV 223 [90,3,3] [4] λa=>yQ L a.1 a.2.1 a.2.2
def C2:aq BT:=cV 156 [30] [67] λa=>zG L a
def C3:aq BT:=cV 93 [30] [4] λa=>ij L a
def C4:aq BT:=cV 135 [22,3,3] [4] λa=>iU L a.1 a.2.1 a.2.2
def C5:aq BT:=cV 51 [3,3,3] [4] λa=>cp L a.1 a.2.1 a.2.2
def C6:aq BT:=⟨207,2,0,⟨[],[(0,.v 120),(1,.q [.v 27,.v 28])]⟩,⟨[],[(0,.v 4)]⟩,λa=>wN L a.1 (ak.mk a.2.1 a.2.2)⟩
def C7:aq BT:=⟨267,2,0,⟨[],[(0,.v 32),(1,.f 207 [] [.q [.v 27,.v 28]])]⟩,⟨[],[(0,.v 3)]⟩,λa=>Fh L a.1 (ak.mk a.2.1 a.2.2)⟩
def C8:aq BT:=⟨208,2,0,⟨[],[(0,.v 32),(1,.f 207 [] [.q [.v 27,.v 28]])]⟩,⟨[],[(0,.v 4)]⟩,λa=>El L a.1 (ak.mk a.2.1 a.2.2)⟩
def C9:aq BT:=cV 140 [30,32] [4] λa=>wI L a.1 a.2
def C10:aq BT:=⟨141,2,0,⟨[],[(0,.v 3),(1,.q [.v 27,.v 28])]⟩,⟨[],[(0,.v 4)]⟩,λa=>Ci L a.1 (ak.mk a.2.1 a.2.2)⟩
def Ye:aq BT:=⟨147,2,0,⟨[],[(0,.v 22),(1,.f 141 [] [.q [.v 27,.v 28]])]⟩,⟨[],[(0,.v 3)]⟩,λa=>KC L a.1 (ak.mk a.2.1 a.2.2)⟩
def C12:aq BT:=⟨86,2,0,⟨[],[(0,.v 22),(1,.f 141 [] [.q [.v 27,.v 28]])]⟩,⟨[],[(0,.v 4)]⟩,λa=>Cg L a.1 (ak.mk a.2.1 a.2.2)⟩
def C13:aq BT:=⟨210,1,0,⟨[],[(0,.v 22)]⟩,⟨[(0,[0],.box 22 [.v 22])],[(0,.f 269 [] [.p 0])]⟩,λa=>qK L a⟩
def AW:aq BT:=⟨225,1,1,⟨[(0,[],.aap 3 22)],[(0,.r 0)]⟩,⟨[(100000,[],.aap 3 22)],[]⟩,λa=>rl L a⟩
def C15:aq BT:=⟨308,2,0,⟨[],[(0,.ns),(1,.f 269 [] [.q [.v 22]])]⟩,⟨[(0,[],.aap 3 22)],[(0,.r 0)]⟩,λa=>IA L a⟩
def C16:aq BT:=⟨268,1,0,⟨[],[(0,.f 269 [] [.q [.v 22]])]⟩,⟨[(0,[],.aap 3 22)],[(0,.r 0)]⟩,λa=>Kx L a⟩
def C17:aq BT:=⟨209,1,0,⟨[],[(0,.f 269 [] [.q [.v 22]])]⟩,⟨[(0,[],.aap 3 22)],[(0,.r 0)]⟩,λa=>rG L a⟩
def C18:aq BT:=cV 142 [22] [4] λa=>ym L a
def RL:aq BT:=cV 96 [27] [27] λa=>kF L a
def Mq:aq BT:=cV 97 [28] [28] λa=>kQ L a
def Pv:aq BT:=cV 211 [31] [31] λa=>rf L a
def PI:aq BT:=cV 99 [22] [22] λa=>cc L a
def C23:aq BT:=cV 143 [35] [35] λa=>yS L a
def Xu:aq BT:=cV 83 [30,32,22,22,3] [35,67] λa=>Ef L a.1 a.2.1 a.2.2.1 a.2.2.2.1 a.2.2.2.2
def C25:aq BT:=cV 213 [90] [4] λa=>EP L a
def C26:aq BT:=⟨270,2,0,⟨[],[(0,.v 36),(1,.f 213 [] [])]⟩,⟨[],[(0,.v 3)]⟩,λa=>Kq L a⟩
def C27:aq BT:=⟨212,2,0,⟨[],[(0,.v 36),(1,.f 213 [] [])]⟩,⟨[],[(0,.v 4)]⟩,λa=>B8 L a⟩
def C28:aq BT:=cV 144 [30,36] [4] λa=>pD L a.1 a.2
def Wx:aq BT:=cV 272 [179,179] [179,179] λa=>vk L a.1 a.2
def C30:aq BT:=cV 214 [181,181] [181,181] λa=>DJ L a.1 a.2
def C31:aq BT:=cV 145 [22,3] [22] λa=>EC L a.1 a.2
def ZB:aq BT:=⟨145,2,0,⟨[],[(0,.v 22),(1,.v 3)]⟩,⟨[(0,[],.aap 3 22)],[(0,.r 0)]⟩,λa=>sJ L a.1 a.2⟩
def C33:aq BT:=cV 242 [30,3,90,4] [3] λa=>n6 L a.1 a.2.1 a.2.2.1 a.2.2.2
def C34:aq BT:=⟨215,5,1,⟨[(0,[3],.aap 3 22)],[(0,.g [.v 27,.v 28,.v 36,.r 0]),(1,.v 3),(2,.v 3),(3,.v 3),(4,.v 4)]⟩,⟨[(100000,[],.aap 3 22)],[(0,.v 4)]⟩,λa=>yr L a.1 a.2.1 a.2.2.1 a.2.2.2.1 a.2.2.2.2.1 a.2.2.2.2.2.1 a.2.2.2.2.2.2.1 a.2.2.2.2.2.2.2⟩
def C35:aq BT:=⟨146,1,1,⟨[(0,[3],.aap 3 22)],[(0,.g [.v 27,.v 28,.v 36,.r 0])]⟩,⟨[(100000,[],.aap 3 22)],[]⟩,λa=>rM L a.1 a.2.1 a.2.2.1 a.2.2.2⟩
def C36:aq BT:=cV 84 [30,36,22,3] [48,67] λa=>Eh L a.1 a.2.1 a.2.2.1 a.2.2.2
def C37:aq BT:=cV 70 [30,38] [4] λa=>rP L a.1 a.2
def C38:aq BT:=cV 85 [40,52] [4] λa=>oT L a.1 a.2
def C39:aq BT:=⟨87,2,0,⟨[],[(0,.v 3),(1,.q [.v 27,.v 28])]⟩,⟨[],[(0,.v 4)]⟩,λa=>zm L a.1 (ak.mk a.2.1 a.2.2)⟩
def C40:aq BT:=⟨147,2,0,⟨[],[(0,.v 22),(1,.f 87 [] [.q [.v 27,.v 28]])]⟩,⟨[],[(0,.v 3)]⟩,λa=>Ak L a.1 (ak.mk a.2.1 a.2.2)⟩
def C41:aq BT:=⟨86,2,0,⟨[],[(0,.v 22),(1,.f 87 [] [.q [.v 27,.v 28]])]⟩,⟨[],[(0,.v 4)]⟩,λa=>zi L a.1 (ak.mk a.2.1 a.2.2)⟩
def C42:aq BT:=cV 148 [22] [4] λa=>xa L a
def Vx:aq BT:=cV 88 [22] [50,67] λa=>AQ L a
def C44:aq BT:=cV 149 [22] [4] λa=>AI L a
def C45:aq BT:=⟨216,1,0,⟨[],[(0,.v 30)]⟩,⟨[(0,[],.aap 3 22)],[(0,.r 0)]⟩,λa=>yF L a⟩
def YG:aq BT:=cV 330 [] [222] λa=>G5 L
def C47:aq BT:=cV 137 [30,3,4,222] [3] λa=>xu L a.1 a.2.1 a.2.2.1 a.2.2.2
def Ux:aq BT:=cV 309 [30,3,4] [3] λa=>FX L a.1 a.2.1 a.2.2
def C49:aq BT:=cV 276 [30,3,4] [3] λa=>rO L a.1 a.2.1 a.2.2
def C50:aq BT:=⟨218,1,0,⟨[],[(0,.v 3)]⟩,⟨[],[(0,.b true)]⟩,λa=>KJ L a⟩
def Xk:aq BT:=⟨274,7,3,⟨[(4,[0],.aap 3 22),(4,[],.box 22 [.r 0]),(6,[],.box 4 [.v 4])],[(0,.v 3),(1,.v 3),(2,.v 3),(3,.q [.v 3]),(4,.p 1),(5,.q [.f 218 [] []]),(6,.p 2)]⟩,⟨[(100000,[],.aap 3 22),(100001,[],.box 22 [.r 0]),(100002,[],.box 4 [.v 4])],[]⟩,λa=>CB L a.1 a.2.1 a.2.2.1 a.2.2.2.1 a.2.2.2.2.1 a.2.2.2.2.2⟩
def OB:aq BT:=⟨99,1,0,⟨[],[(0,.v 22)]⟩,⟨[(0,[],.aap 3 22)],[(0,.r 0)]⟩,λa=>cc L a⟩
def C53:aq BT:=⟨273,3,3,⟨[(2,[1,0],.aap 3 22),(2,[1],.box 22 [.r 0]),(2,[3],.box 4 [.v 4])],[(0,.v 30),(1,.r 0),(2,.f 274 [] [.q [.v 3],.p 1,.q [.f 218 [] []],.p 2])]⟩,⟨[(100000,[],.aap 3 22),(100001,[],.box 22 [.r 0]),(100002,[],.box 4 [.v 4])],[]⟩,λa=>yf L a.1 a.2.1 a.2.2.1 a.2.2.2⟩
def Up:aq BT:=⟨217,4,0,⟨[],[(0,.v 30),(1,.v 22),(2,.v 3),(3,.f 218 [] [])]⟩,⟨[],[(0,.v 22)]⟩,λa=>ze L a.1 a.2.1 a.2.2⟩
def C55:aq BT:=⟨217,4,0,⟨[],[(0,.v 30),(1,.v 22),(2,.v 3),(3,.f 218 [] [])]⟩,⟨[(0,[],.aap 3 22)],[(0,.r 0)]⟩,λa=>sI L a.1 a.2.1 a.2.2⟩
def C56:aq BT:=cV 150 [30,3,3] [142,67] λa=>Cr L a.1 a.2.1 a.2.2
def C57:aq BT:=cV 89 [30,22,22,3] [46,67] λa=>Bk L a.1 a.2.1 a.2.2.1 a.2.2.2
def C58:aq BT:=cV 90 [] [43] λa=>DL L
def P59:bY:=⟨[],[(0,.v 3),(1,.q amj),(2,.q [.v 3])]⟩
def C59:aq BT:=⟨152,3,0,P59,⟨[],[(0,.v 4)]⟩,λa=>Ao L (agv a) (alg a) (aqn a)⟩
end Go.X.T
namespace Go.X.T
open Go Go.Aml Go.Bml Go.X Go.Proofs
variable (L:Lp)
def P60:bY:=⟨[],[(0,.v 22),(1,.f 152 [] [.q amj,.q [.v 3]])]⟩
def C60:aq BT:=⟨147,2,0,P60,⟨[],[(0,.v 3)]⟩,λa=>Iq L (Lm a) (Nn a) (Mw a)⟩
def VP:bY:=⟨[],[(0,.v 22),(1,.f 152 [] [.q amj,.q [.v 3]])]⟩
def C61:aq BT:=⟨86,2,0,VP,⟨[],[(0,.v 4)]⟩,λa=>BW L (Lm a) (Nn a) (Mw a)⟩
def C62:aq BT:=cV 222 [30,3,3] [3] λa=>yM L a.1 a.2.1 a.2.2
def X9:aq BT:=cV 155 [30,88] [4] λa=>BS L a.1 a.2
def P64:bY:=⟨[],[(0,.v 88),(1,.q amj)]⟩
def C64:aq BT:=⟨154,2,0,P64,⟨[],[(0,.v 4)]⟩,λa=>DB L (af1 a) (ak0 a)⟩
def P65:bY:=⟨[],[(0,.v 31),(1,.f 154 [] [.q amj])]⟩
def C65:aq BT:=⟨221,2,0,P65,⟨[],[(0,.v 3)]⟩,λa=>Gd L (Mf a) (T7 a)⟩
def P66:bY:=⟨[],[(0,.v 31),(1,.f 154 [] [.q amj])]⟩
def C66:aq BT:=⟨153,2,0,P66,⟨[],[(0,.v 4)]⟩,λa=>zH L (Mf a) (T7 a)⟩
def Kf:aq BT:=cV 92 [35] [4] λa=>pV L a
def Xw:aq BT:=cV 159 [30,3,3] [3] λa=>CX L a.1 a.2.1 a.2.2
def C69:aq BT:=⟨211,1,0,⟨[],[(0,.v 31)]⟩,⟨[(0,[],.aap 88 31)],[(0,.r 0)]⟩,λa=>rf L a⟩
def Q70:bY:=⟨[(0,[3],.aap 88 31)],[(0,.g (abx amj [(3,.r 0)]))]⟩
def C70:aq BT:=⟨143,1,0,⟨[],[(0,.v 35)]⟩,Q70,λa=>yC L a⟩
def C71:aq BT:=cV 95 [35,3] [35,67] λa=>qp L a.1 a.2
def C72:aq BT:=cV 98 [36] [36] λa=>q9 L a
def C73:aq BT:=cV 100 [41] [41] λa=>ry L a
def Xj:aq BT:=cV 160 [140] [140] λa=>oM L a
def C75:aq BT:=cV 101 [46] [46] λa=>pf L a
def C76:aq BT:=cV 102 [53] [53] λa=>pI L a
def C77:aq BT:=cV 44 [56] [56] λa=>wc L a
def C78:aq BT:=cV 36 [30,32,22,22,36,38,40,22] [56,67] λa=>wX L a.1 a.2.1 a.2.2.1 a.2.2.2.1 a.2.2.2.2.1 a.2.2.2.2.2.1 a.2.2.2.2.2.2.1 a.2.2.2.2.2.2.2
def C79:aq BT:=cV 157 [3] [4] λa=>zz L a
def C80:aq BT:=⟨147,2,0,⟨[],[(0,.v 22),(1,.f 157 [] [])]⟩,⟨[],[(0,.v 3)]⟩,λa=>F6 L a⟩
def C81:aq BT:=⟨86,2,0,⟨[],[(0,.v 22),(1,.f 157 [] [])]⟩,⟨[],[(0,.v 4)]⟩,λa=>zw L a⟩
def C82:aq BT:=cV 224 [3] [4] λa=>CE L a
def Z5:aq BT:=⟨147,2,0,⟨[],[(0,.v 22),(1,.f 224 [] [])]⟩,⟨[],[(0,.v 3)]⟩,λa=>JN L a⟩
def C84:aq BT:=⟨86,2,0,⟨[],[(0,.v 22),(1,.f 224 [] [])]⟩,⟨[],[(0,.v 4)]⟩,λa=>IU L a⟩
def Wg:aq BT:=cV 158 [50] [4] λa=>yh L a
def C86:aq BT:=cV 94 [50] [4] λa=>oL L a
def C87:aq BT:=cV 43 [56] [4] λa=>zj L a
def FZ:aq BT:=cV 45 [3] [134] λa=>Ml L a
def C89:aq BT:=cV 161 [50] [22] λa=>yA L a
def C90:aq BT:=cV 136 [22,3] [3] λa=>to L a.1 a.2
def Fz:aq BT:=cV 76 [22,3] [4] λa=>im L a.1 a.2
def lT:aq BT:=cV 226 [35,22] [67] λa=>wv L a.1 a.2
def C93:aq BT:=cV 162 [35,3,3,3] [35,67] λa=>B1 L a.1 a.2.1 a.2.2.1 a.2.2.2
def nD:aq BT:=cV 163 [35,3,3,3] [35,101,67] λa=>jO L a.1 a.2.1 a.2.2.1 a.2.2.2
def C95:aq BT:=⟨100,1,0,⟨[],[(0,.v 41)]⟩,⟨[(0,[],.aap 101 41)],[(0,.r 0)]⟩,λa=>zp L a⟩
def JX:aq BT:=cV 78 [101] [4] λa=>lQ L a
def C97:aq BT:=⟨79,3,0,⟨[(0,[],.aap 5 95)],[(0,.r 0),(1,.v 179),(2,.v 3)]⟩,⟨[(0,[],.aap 5 95)],[(0,.r 0)]⟩,λa=>py L a.1 a.2.1 a.2.2⟩
def C98:aq BT:=cV 30 [101] [97,67] λa=>Ex L a
def Ks:aq BT:=cV 81 [95] [179] λa=>jQ L a
def H7:aq BT:=⟨82,2,0,⟨[],[(0,.v 95),(1,.v 3)]⟩,⟨[(0,[0],.box 95 [.v 95]),(0,[1],.box 3 [.v 3])],[(0,.f 139 [] [.p 0,.p 1])]⟩,λa=>vE L a.1 a.2⟩
def kq:aq BT:=cV 34 [97] [101,67] λa=>zD L a
def Xc:aq BT:=cV 279 [3] [4] λa=>Ap L a
def adu:aq BT:=⟨147,2,0,⟨[],[(0,.v 22),(1,.f 279 [] [])]⟩,⟨[],[(0,.v 3)]⟩,λa=>GR L a⟩
def ai3:aq BT:=⟨86,2,0,⟨[],[(0,.v 22),(1,.f 279 [] [])]⟩,⟨[],[(0,.v 4)]⟩,λa=>Am L a⟩
def Z9:aq BT:=cV 280 [3] [4] λa=>Dd L a
def afS:aq BT:=⟨147,2,0,⟨[],[(0,.v 22),(1,.f 280 [] [])]⟩,⟨[],[(0,.v 3)]⟩,λa=>JV L a⟩
def aln:aq BT:=⟨86,2,0,⟨[],[(0,.v 22),(1,.f 280 [] [])]⟩,⟨[],[(0,.v 4)]⟩,λa=>CZ L a⟩
def Uu:aq BT:=cV 227 [43] [4] λa=>zY L a
def aif:aq BT:=cV 164 [43,101] [43,67] λa=>CT L a.1 a.2
def anP:aq BT:=cV 165 [32,101] [247,67] λa=>Bl L a.1 a.2
def Xe:bY:=⟨[],[(0,.q adU)]⟩
def acZ:aq BT:=⟨169,1,0,Xe,⟨[],[(0,.v 3)]⟩,λa=>fP L (I0 a)⟩
def IP:aq BT:=cV 196 [22,22] [4] λa=>qG L a.1 a.2
def ZA:aq BT:=cV 336 [3] [4] λa=>DR L a
def afj:aq BT:=⟨147,2,0,⟨[],[(0,.v 22),(1,.f 336 [] [])]⟩,⟨[],[(0,.v 3)]⟩,λa=>GG L a⟩
def akW:aq BT:=⟨86,2,0,⟨[],[(0,.v 22),(1,.f 336 [] [])]⟩,⟨[],[(0,.v 4)]⟩,λa=>zZ L a⟩
def ab7:aq BT:=cV 323 [30,142] [4] λa=>ur L a.1 a.2
def ahK:aq BT:=cV 290 [30,142] [4] λa=>n7 L a.1 a.2
def ane:aq BT:=⟨289,2,0,⟨[],[(0,.v 142),(1,.q [.v 27,.v 28])]⟩,⟨[],[(0,.v 4)]⟩,λa=>Ld L a.1 (ak.mk a.2.1 a.2.2)⟩
def WA:aq BT:=⟨300,2,0,⟨[],[(0,.v 138),(1,.f 289 [] [.q [.v 27,.v 28]])]⟩,⟨[],[(0,.v 3)]⟩,λa=>FJ L a.1 (ak.mk a.2.1 a.2.2)⟩
end Go.X.T
namespace Go.X.T
open Go Go.Aml Go.Bml Go.X Go.Proofs
variable (L:Lp)
def aiv:aq BT:=⟨248,2,0,⟨[],[(0,.v 138),(1,.f 289 [] [.q [.v 27,.v 28]])]⟩,⟨[],[(0,.v 4)]⟩,λa=>E5 L a.1 (ak.mk a.2.1 a.2.2)⟩
def ZD:aq BT:=cV 307 [3] [4] λa=>Cl L a
def afm:aq BT:=cV 266 [3,3] [3] λa=>uE L a.1 a.2
def akZ:aq BT:=cV 288 [22,22] [3] λa=>sL L a.1 a.2
def aca:aq BT:=cV 235 [30,46] [4] λa=>p8 L a.1 a.2
def ahM:aq BT:=cV 281 [30,142,22,3,3] [67] λa=>vY L a.1 a.2.1 a.2.2.1 a.2.2.2.1 a.2.2.2.2
def ani:aq BT:=cV 230 [30,142,22,3,3] [142,67] λa=>yX L a.1 a.2.1 a.2.2.1 a.2.2.2.1 a.2.2.2.2
def HG:aq BT:=⟨160,1,0,⟨[],[(0,.v 140)]⟩,⟨[(0,[1],.aap 142 138)],[(0,.g [.v 22,.r 0])]⟩,λa=>mH L a⟩
def aj2:aq BT:=⟨229,5,4,⟨[(1,[],.box 30 [.v 27,.v 28]),(2,[],.box 22 [.v 22]),(3,[],.box 3 [.v 3]),(4,[],.box 3 [.v 3])],[(0,.v 142),(1,.p 0),(2,.p 1),(3,.p 2),(4,.p 3)]⟩,⟨[(100000,[],.box 30 [.v 27,.v 28]),(100001,[],.box 22 [.v 22]),(100002,[],.box 3 [.v 3]),(100003,[],.box 3 [.v 3])],[(0,.v 142),(1,.v 67)]⟩,λa=>JT L (ak.mk a.1 a.2.1) a.2.2.1 a.2.2.2.1 a.2.2.2.2.1 a.2.2.2.2.2⟩
def apN:aq BT:=⟨228,4,4,⟨[(3,[0],.box 30 [.v 27,.v 28]),(3,[1],.box 22 [.v 22]),(3,[2],.box 3 [.v 3]),(3,[3],.box 3 [.v 3])],[(0,.v 30),(1,.v 46),(2,.v 3),(3,.f 229 [] [.p 0,.p 1,.p 2,.p 3])]⟩,⟨[(100000,[],.box 30 [.v 27,.v 28]),(100001,[],.box 22 [.v 22]),(100002,[],.box 3 [.v 3]),(100003,[],.box 3 [.v 3])],[(0,.v 46),(1,.v 67)]⟩,λa=>I3 L (ak.mk a.1 a.2.1) a.2.2.1 a.2.2.2.1 a.2.2.2.2.1 a.2.2.2.2.2.1 a.2.2.2.2.2.2.1 a.2.2.2.2.2.2.2⟩
def ZF:aq BT:=cV 168 [30,46,3,22,3,3] [46,67] λa=>CS L a.1 a.2.1 a.2.2.1 a.2.2.2.1 a.2.2.2.2.1 a.2.2.2.2.2
def aml:bY:=⟨[],[(0,.q adU)]⟩
def aki:aq BT:=⟨173,1,0,aml,⟨[],[(0,.v 4)]⟩,λa=>ra L (I0 a)⟩
def abt:aq BT:=⟨97,1,0,⟨[],[(0,.v 28)]⟩,⟨[(0,[],.aap 115 28)],[(0,.r 0)]⟩,λa=>kQ L a⟩
def acb:aq BT:=cV 240 [30,22] [30,67] λa=>sW L a.1 a.2
def aoO:aq BT:=⟨96,1,0,⟨[],[(0,.v 27)]⟩,⟨[(0,[],.aap 117 27)],[(0,.r 0)]⟩,λa=>kF L a⟩
def apu:aq BT:=⟨240,2,0,⟨[],[(0,.v 30),(1,.v 22)]⟩,⟨[(0,[0],.aap 117 27),(0,[1],.aap 115 28)],[(0,.g [.r 0,.r 1]),(1,.v 67)]⟩,λa=>vU L a.1 a.2⟩
def agE:bY:=⟨[],[(0,.q adU)]⟩
def aez:aq BT:=⟨174,1,0,agE,⟨[(0,[0],.aap 117 27),(0,[1],.aap 115 28)],[(0,.g [.r 0,.r 1])]⟩,λa=>mT L (I0 a)⟩
def Uz:aq BT:=cV 283 [101] [4] λa=>Ai L a
def abd:aq BT:=⟨321,2,0,⟨[],[(0,.v 41),(1,.f 283 [] [])]⟩,⟨[],[(0,.v 3)]⟩,λa=>GJ L a⟩
def agV:aq BT:=⟨282,2,0,⟨[],[(0,.v 41),(1,.f 283 [] [])]⟩,⟨[],[(0,.v 4)]⟩,λa=>Ad L a⟩
def Xm:aq BT:=⟨284,5,5,⟨[(0,[],.box 41 [.v 41]),(1,[],.box 120 (alh [22,3,3,3])),(2,[],.box 309 [.r 5]),(3,[],.box 3 [.v 3]),(4,[],.box 3 [.v 3]),(2,[0],.aap 312 309)],[(0,.p 0),(1,.p 1),(2,.p 2),(3,.p 3),(4,.p 4)]⟩,⟨[(100000,[],.box 41 [.v 41]),(100001,[],.box 120 (alh [22,3,3,3])),(100002,[],.box 309 [.v 309]),(100003,[],.box 3 [.v 3]),(100004,[],.box 3 [.v 3])],[]⟩,λa=>xD L (Q0 a) (Qc a) (R8 a) (Rc a) (Tj a)⟩
def adF:aq BT:=cV 285 [120,101,101] [4] λa=>xH L a.1 a.2.1 a.2.2
def ajb:bY:=⟨[(100000,[],.aap 101 41),(100001,[],.box 41 [.r 6]),(100002,[],.box 120 (alh [22,3,3,3])),(100003,[],.box 309 [.r 7]),(100004,[],.box 3 [.v 3]),(100005,[],.box 3 [.v 3]),(100001,[0],.aap 101 41),(100003,[0],.aap 312 309)],[]⟩
def an9:aq BT:=⟨284,5,6,⟨[(0,[0],.aap 101 41),(0,[],.box 41 [.r 0]),(1,[],.box 120 (alh [22,3,3,3])),(2,[],.box 309 [.r 6]),(3,[],.box 3 [.v 3]),(4,[],.box 3 [.v 3]),(2,[0],.aap 312 309)],[(0,.p 1),(1,.p 2),(2,.p 3),(3,.p 4),(4,.p 5)]⟩,ajb,λa=>yG L (Q0 a) (Qc a) (R8 a) (Rc a) (Tj a)⟩
def X2:aq BT:=cV 231 [32,3,3,41] [309,67] λa=>xp L a.1 a.2.1 a.2.2.1 a.2.2.2
def ad1:aq BT:=cV 234 [120] [3] λa=>Dh L a
def aqG:aq BT:=⟨322,2,0,⟨[],[(0,.v 3),(1,.q [.v 22])]⟩,⟨[],[(0,.v 4)]⟩,λa=>Gs L a.1 a.2⟩
def aaz:aq BT:=⟨274,7,3,⟨[(4,[0],.aap 3 22),(4,[],.box 22 [.r 0]),(6,[],.box 4 [.v 4])],[(0,.v 3),(1,.v 3),(2,.v 3),(3,.q [.v 3]),(4,.p 1),(5,.q [.f 322 [] [.q [.v 22]]]),(6,.p 2)]⟩,⟨[(100000,[],.aap 3 22),(100001,[],.box 22 [.r 0]),(100002,[],.box 4 [.v 4])],[]⟩,λa=>DD L a.1 a.2.1 a.2.2.1 a.2.2.2.1 a.2.2.2.2.1 a.2.2.2.2.2.1 a.2.2.2.2.2.2⟩
def agm:aq BT:=⟨273,3,3,⟨[(2,[1,0],.aap 3 22),(2,[1],.box 22 [.r 0]),(2,[3],.box 4 [.v 4])],[(0,.v 30),(1,.r 0),(2,.f 274 [] [.q [.v 3],.p 1,.q [.f 322 [] [.q [.v 22]]],.p 2])]⟩,⟨[(100000,[],.aap 3 22),(100001,[],.box 22 [.r 0]),(100002,[],.box 4 [.v 4])],[]⟩,λa=>Bj L a.1 a.2.1 a.2.2.1 a.2.2.2.1 a.2.2.2.2⟩
def WE:aq BT:=⟨217,4,0,⟨[],[(0,.v 30),(1,.v 22),(2,.v 3),(3,.f 322 [] [.q [.v 22]])]⟩,⟨[(0,[],.aap 3 22)],[(0,.r 0)]⟩,λa=>Ay L a.1 a.2.1 a.2.2.1 a.2.2.2⟩
def ac6:aq BT:=cV 287 [30,142,22,3,3,3] [142,67] λa=>wV L a.1 a.2.1 a.2.2.1 a.2.2.2.1 a.2.2.2.2.1 a.2.2.2.2.2
def aiE:aq BT:=⟨286,6,5,⟨[(1,[],.box 30 [.v 27,.v 28]),(2,[],.box 22 [.v 22]),(3,[],.box 3 [.v 3]),(4,[],.box 3 [.v 3]),(5,[],.box 3 [.v 3])],[(0,.v 142),(1,.p 0),(2,.p 1),(3,.p 2),(4,.p 3),(5,.p 4)]⟩,⟨[(100000,[],.box 30 [.v 27,.v 28]),(100001,[],.box 22 [.v 22]),(100002,[],.box 3 [.v 3]),(100003,[],.box 3 [.v 3]),(100004,[],.box 3 [.v 3])],[(0,.v 142),(1,.v 67)]⟩,λa=>Io L (ak.mk a.1 a.2.1) a.2.2.1 a.2.2.2.1 a.2.2.2.2.1 a.2.2.2.2.2.1 a.2.2.2.2.2.2⟩
def ZK:bY:=⟨[(3,[0],.box 30 [.v 27,.v 28]),(3,[1],.box 22 [.v 22]),(3,[2],.box 3 [.v 3]),(3,[3],.box 3 [.v 3]),(3,[4],.box 3 [.v 3])],[(0,.v 30),(1,.v 46),(2,.v 3),(3,.f 286 [] [.p 0,.p 1,.p 2,.p 3,.p 4])]⟩
def WU:aq BT:=⟨228,4,5,ZK,⟨[(100000,[],.box 30 [.v 27,.v 28]),(100001,[],.box 22 [.v 22]),(100002,[],.box 3 [.v 3]),(100003,[],.box 3 [.v 3]),(100004,[],.box 3 [.v 3])],[(0,.v 46),(1,.v 67)]⟩,λa=>Hu L (ak.mk a.1 a.2.1) a.2.2.1 a.2.2.2.1 a.2.2.2.2.1 a.2.2.2.2.2.1 a.2.2.2.2.2.2.1 a.2.2.2.2.2.2.2.1 a.2.2.2.2.2.2.2.2⟩
def adl:aq BT:=cV 233 [30,46,3,22,3,3,3] [46,67] λa=>Bq L a.1 a.2.1 a.2.2.1 a.2.2.2.1 a.2.2.2.2.1 a.2.2.2.2.2.1 a.2.2.2.2.2.2
def ap4:bY:=⟨[(2,[],.box 3 [.v 3]),(3,[],.box 120 (alh [22,3,3,3])),(4,[],.box 312 (alh [3,3,3,3])),(5,[],.box 3 [.v 3])],[(0,.v 30),(1,.v 46),(2,.p 0),(3,.p 1),(4,.p 2),(5,.p 3)]⟩
def anL:bY:=⟨[(100000,[],.box 3 [.v 3]),(100001,[],.box 120 (alh [22,3,3,3])),(100002,[],.box 312 (alh [3,3,3,3])),(100003,[],.box 3 [.v 3])],[(0,.v 46),(1,.v 67)]⟩
def Wu:aq BT:=⟨232,6,4,ap4,anL,λa=>uQ L (acS a) (aay a) (afC a) (akx a) (aim a) (ank a)⟩
def mG:aq BT:=cV 171 [35,3,3] [35,67] λa=>oX L a.1 a.2.1 a.2.2
def akC:aq BT:=⟨206,3,0,⟨[],[(0,.v 3),(1,.q [.v 3,.v 22]),(2,.q [.v 3])]⟩,⟨[],[(0,.v 4)]⟩,λa=>Dw L a.1 (aM.mk a.2.1 a.2.2.1) a.2.2.2⟩
def aqf:aq BT:=⟨46,2,0,⟨[],[(0,.v 3),(1,.f 206 [] [.q [.v 3,.v 22],.q [.v 3]])]⟩,⟨[(0,[],.aap 3 22)],[(0,.r 0)]⟩,λa=>HL L a.1 (aM.mk a.2.1 a.2.2.1) a.2.2.2⟩
def ahy:aq BT:=cV 132 [142,3] [22] λa=>su L a.1 a.2
def amV:aq BT:=⟨291,2,0,⟨[],[(0,.v 3),(1,.q [.v 22])]⟩,⟨[],[(0,.v 4)]⟩,λa=>zO L a.1 a.2⟩
def Wj:aq BT:=⟨147,2,0,⟨[],[(0,.v 22),(1,.f 291 [] [.q [.v 22]])]⟩,⟨[],[(0,.v 3)]⟩,λa=>Iw L a.1 a.2⟩
def ajO:aq BT:=⟨86,2,0,⟨[],[(0,.v 22),(1,.f 291 [] [.q [.v 22]])]⟩,⟨[],[(0,.v 4)]⟩,λa=>B3 L a.1 a.2⟩
def apj:aq BT:=cV 237 [142,142,3] [4] λa=>EE L a.1 a.2.1 a.2.2
def Zp:aq BT:=cV 238 [142,3] [142,67] λa=>xc L a.1 a.2
def ae9:aq BT:=⟨160,1,0,⟨[],[(0,.v 140)]⟩,⟨[(0,[0],.aap 3 22),(0,[1],.aap 142 138)],[(0,.g [.r 0,.r 1])]⟩,λa=>Ac L a⟩
def Vb:aq BT:=⟨236,1,0,⟨[],[(0,.v 44)]⟩,⟨[(0,[],.aap 140 44)],[(0,.r 0)]⟩,λa=>Ke L a⟩
def Hy:aq BT:=cV 295 [142,142] [142,67] λa=>xW L a.1 a.2
def ajx:aq BT:=cV 294 [140,140] [3] λa=>IK L a.1 a.2
def ao7:aq BT:=⟨342,4,1,⟨[(0,[],.aap 140 44)],[(0,.r 0),(1,.v 3),(2,.v 3),(3,.f 294 [] [])]⟩,⟨[(100000,[],.aap 140 44)],[]⟩,λa=>xn L a.1 a.2.1 a.2.2⟩
def Zd:aq BT:=⟨338,3,1,⟨[(0,[],.aap 140 44)],[(0,.r 0),(1,.v 3),(2,.f 294 [] [])]⟩,⟨[(100000,[],.aap 140 44)],[]⟩,λa=>Je L a.1 a.2⟩
def alM:aq BT:=⟨325,2,1,⟨[(0,[],.aap 140 44)],[(0,.r 0),(1,.f 294 [] [])]⟩,⟨[(100000,[],.aap 140 44)],[]⟩,λa=>GP L a⟩
def U0:aq BT:=⟨337,2,0,⟨[],[(0,.ns),(1,.f 326 [] [.q [.v 44]])]⟩,⟨[(0,[],.aap 140 44)],[(0,.r 0)]⟩,λa=>JY L a⟩
def adP:aq BT:=⟨324,1,0,⟨[],[(0,.f 326 [] [.q [.v 44]])]⟩,⟨[(0,[],.aap 140 44)],[(0,.r 0)]⟩,λa=>FQ L a⟩
def xI:aq BT:=⟨292,2,0,⟨[],[(0,.f 326 [] [.q [.v 44]]),(1,.f 294 [] [])]⟩,⟨[],[(0,.v 44)]⟩,λa=>uv L a⟩
def uY:aq BT:=cV 239 [44] [44] λa=>yK L a
def aa5:aq BT:=cV 172 [30,46,3,3,3] [46,67] λa=>yY L a.1 a.2.1 a.2.2.1 a.2.2.2.1 a.2.2.2.2
def agN:aq BT:=⟨296,2,0,⟨[],[(0,.v 3),(1,.q [.v 3,.v 22])]⟩,⟨[],[(0,.v 4)]⟩,λa=>DV L a.1 (bQ.mk a.2.1 a.2.2)⟩
def Xf:aq BT:=⟨147,2,0,⟨[],[(0,.v 22),(1,.f 296 [] [.q [.v 3,.v 22]])]⟩,⟨[],[(0,.v 3)]⟩,λa=>GH L a.1 (bQ.mk a.2.1 a.2.2)⟩
def ady:aq BT:=⟨86,2,0,⟨[],[(0,.v 22),(1,.f 296 [] [.q [.v 3,.v 22]])]⟩,⟨[],[(0,.v 4)]⟩,λa=>Ab L a.1 (bQ.mk a.2.1 a.2.2)⟩
def ai6:aq BT:=cV 241 [30,48] [4] λa=>wB L a.1 a.2
def aag:aq BT:=cV 175 [30,36,30,36,48,3] [48,67] λa=>uk L a.1 a.2.1 a.2.2.1 a.2.2.2.1 a.2.2.2.2.1 a.2.2.2.2.2
end Go.X.T
namespace Go.X.T
open Go Go.Aml Go.Bml Go.X Go.Proofs
variable (L:Lp)
def aao:aq BT:=⟨84,4,0,⟨[],[(0,.v 30),(1,.v 36),(2,.v 22),(3,.v 3)]⟩,⟨[(0,[1],.aap 3 22)],[(0,.g [.v 3,.r 0]),(1,.v 67)]⟩,λa=>EX L a.1 a.2.1 a.2.2.1 a.2.2.2⟩
def agb:aq BT:=cV 204 [75] [4] λa=>Dg L a
def alz:aq BT:=cV 265 [22] [3] λa=>CY L a
def acX:aq BT:=cV 205 [75,283] [3] λa=>rK L a.1 a.2
def air:aq BT:=cV 131 [53] [4] λa=>yE L a
def an4:aq BT:=⟨243,3,0,⟨[],[(0,.v 53),(1,.v 283),(2,.f 205 [] [])]⟩,⟨[],[(0,.v 3),(1,.v 4)]⟩,λa=>Ec L a.1 a.2⟩
def wW:aq BT:=⟨244,3,0,⟨[(0,[],.aap 75 53),(2,[],.aap 75 53)],[(0,.r 0),(1,.v 3),(2,.r 1)]⟩,⟨[],[(0,.v 53)]⟩,λa=>D3 L a.1 a.2.1 a.2.2⟩
def afV:aq BT:=⟨102,1,0,⟨[],[(0,.v 53)]⟩,⟨[(0,[],.aap 75 53)],[(0,.r 0)]⟩,λa=>pI L a⟩
def anE:aq BT:=cV 176 [53,3,3,3,3] [53,67] λa=>rk L a.1 a.2.1 a.2.2.1 a.2.2.2.1 a.2.2.2.2
def WY:bY:=⟨[],[(0,.v 88),(1,.q [.q adU]),(2,.q (alh [3,3,3,3]))]⟩
def acP:aq BT:=⟨177,3,0,WY,⟨[],[(0,.v 4)]⟩,λa=>B0 L (anW a) (WC a) (acs a)⟩
def aij:bY:=⟨[],[(0,.v 31),(1,.f 177 [] [.q [.q adU],.q (alh [3,3,3,3])])]⟩
def ana:aq BT:=⟨221,2,0,aij,⟨[],[(0,.v 3)]⟩,λa=>Er L (On a) (Qm a) (Px a)⟩
def Wz:bY:=⟨[],[(0,.v 31),(1,.f 177 [] [.q [.q adU],.q (alh [3,3,3,3])])]⟩
def acj:aq BT:=⟨153,2,0,Wz,⟨[],[(0,.v 4)]⟩,λa=>Dv L (On a) (Qm a) (Px a)⟩
def ahX:aq BT:=cV 299 [50] [50] λa=>EA L a
def anr:aq BT:=⟨299,1,0,⟨[],[(0,.v 50)]⟩,⟨[(0,[1],.aap 3 22)],[(0,.g [.v 22,.r 0,.v 4])]⟩,λa=>IL L a⟩
def aeI:aq BT:=cV 245 [50,3,3,3] [50,67] λa=>qO L a.1 a.2.1 a.2.2.1 a.2.2.2
def akc:aq BT:=cV 178 [50,3] [50,67] λa=>GQ L a.1 a.2
def apX:aq BT:=cV 179 [50,3] [50,67] λa=>J0 L a.1 a.2
def ag5:aq BT:=cV 180 [3] [4] λa=>KV L a
def amy:aq BT:=⟨147,2,0,⟨[],[(0,.v 22),(1,.f 180 [] [])]⟩,⟨[],[(0,.v 3)]⟩,λa=>CC L a⟩
def VU:aq BT:=⟨86,2,0,⟨[],[(0,.v 22),(1,.f 180 [] [])]⟩,⟨[],[(0,.v 4)]⟩,λa=>zA L a⟩
def acp:aq BT:=cV 246 [50,4] [50,67] λa=>xi L a.1 a.2
def aoY:aq BT:=cV 181 [50] [50,67] λa=>Cu L a
def YW:aq BT:=⟨249,2,0,⟨[],[(0,.v 142),(1,.q [.v 3])]⟩,⟨[],[(0,.v 4)]⟩,λa=>Jb L a.1 a.2⟩
def aeR:aq BT:=⟨300,2,0,⟨[],[(0,.v 138),(1,.f 249 [] [.q [.v 3]])]⟩,⟨[],[(0,.v 3)]⟩,λa=>Gk L a.1 a.2⟩
def UQ:aq BT:=⟨248,2,0,⟨[],[(0,.v 138),(1,.f 249 [] [.q [.v 3]])]⟩,⟨[],[(0,.v 4)]⟩,λa=>JC L a.1 a.2⟩
def abu:aq BT:=⟨247,2,0,⟨[],[(0,.v 140),(1,.q [.v 3])]⟩,⟨[],[(0,.v 4)]⟩,λa=>AP L a.1 a.2⟩
def ag9:aq BT:=⟨116,2,0,⟨[],[(0,.v 44),(1,.f 247 [] [.q [.v 3]])]⟩,⟨[],[(0,.v 3)]⟩,λa=>Jm L a.1 a.2⟩
def Xy:aq BT:=⟨49,2,0,⟨[],[(0,.v 44),(1,.f 247 [] [.q [.v 3]])]⟩,⟨[],[(0,.v 4)]⟩,λa=>AL L a.1 a.2⟩
def adY:aq BT:=cV 301 [30,142,3] [142,67] λa=>xT L a.1 a.2.1 a.2.2
def ajq:aq BT:=⟨301,3,0,⟨[(1,[1],.aap 3 22)],[(0,.v 30),(1,.g [.v 3,.r 0]),(2,.v 3)]⟩,⟨[],[(0,.v 142),(1,.v 67)]⟩,λa=>IJ L a.1 a.2.1 a.2.2.1 a.2.2.2⟩
def aaw:aq BT:=cV 250 [30,142,3] [142,67] λa=>CA L a.1 a.2.1 a.2.2
def agj:aq BT:=cV 182 [30,46,22,3] [46,67] λa=>Em L a.1 a.2.1 a.2.2.1 a.2.2.2
def alE:aq BT:=cV 258 [52,3] [4] λa=>zd L a.1 a.2
def ac3:aq BT:=⟨261,2,0,⟨[],[(0,.v 3),(1,.q [.v 3,.v 22])]⟩,⟨[],[(0,.v 4)]⟩,λa=>CR L a.1 (aM.mk a.2.1 a.2.2)⟩
def aiB:aq BT:=⟨147,2,0,⟨[],[(0,.v 22),(1,.f 261 [] [.q [.v 3,.v 22]])]⟩,⟨[],[(0,.v 3)]⟩,λa=>G4 L a.1 (aM.mk a.2.1 a.2.2)⟩
def aoa:aq BT:=⟨86,2,0,⟨[],[(0,.v 22),(1,.f 261 [] [.q [.v 3,.v 22]])]⟩,⟨[],[(0,.v 4)]⟩,λa=>As L a.1 (aM.mk a.2.1 a.2.2)⟩
def X4:aq BT:=cV 198 [46,22] [4] λa=>wA L a.1 a.2
def ak1:aq BT:=cV 302 [40,50,46] [4] λa=>Ah L a.1 a.2.1 a.2.2
def aqH:aq BT:=cV 251 [333,4] [67] λa=>si L a.1 a.2
def aaC:aq BT:=cV 183 [40,52,50,46,3,3] [52,67] λa=>BR L a.1 a.2.1 a.2.2.1 a.2.2.2.1 a.2.2.2.2.1 a.2.2.2.2.2
def anl:aq BT:=cV 184 [40,52,50,46,3,3] [52,67] λa=>AJ L a.1 a.2.1 a.2.2.1 a.2.2.2.1 a.2.2.2.2.1 a.2.2.2.2.2
def WH:aq BT:=cV 185 [40,52,50,46,3,4] [52,67] λa=>CM L a.1 a.2.1 a.2.2.1 a.2.2.2.1 a.2.2.2.2.1 a.2.2.2.2.2
def ac7:bY:=⟨[(0,[1],.aap 115 28),(0,[3],.aap 88 31)],[(0,.g (abx amj [(1,.r 0),(3,.r 1)]))]⟩
def ah3:aq BT:=⟨143,1,0,⟨[],[(0,.v 35)]⟩,ac7,λa=>D6 L a⟩
def anx:aq BT:=cV 186 [35,3] [35,67] λa=>wO L a.1 a.2
def aeW:aq BT:=⟨98,1,0,⟨[],[(0,.v 36)]⟩,⟨[(0,[],.aap 90 36)],[(0,.r 0)]⟩,λa=>q9 L a⟩
def afu:aq BT:=cV 252 [30,46,3] [46,67] λa=>kW L a.1 a.2.1 a.2.2
def VF:aq BT:=⟨175,6,1,⟨[(3,[],.aap 90 36)],[(0,.v 30),(1,.v 36),(2,.v 30),(3,.r 0),(4,.v 48),(5,.v 3)]⟩,⟨[(100000,[],.aap 90 36)],[(0,.v 48),(1,.v 67)]⟩,λa=>yg L a.1 a.2.1 a.2.2.1 a.2.2.2.1 a.2.2.2.2.1 a.2.2.2.2.2⟩
def ach:aq BT:=⟨47,3,0,⟨[],[(0,.v 3),(1,.q [.v 3,.v 22]),(2,.q [.v 3])]⟩,⟨[],[(0,.v 4)]⟩,λa=>A8 L a.1 (bQ.mk a.2.1 a.2.2.1) a.2.2.2⟩
def ahS:aq BT:=⟨46,2,0,⟨[],[(0,.v 3),(1,.f 47 [] [.q [.v 3,.v 22],.q [.v 3]])]⟩,⟨[(0,[],.aap 3 22)],[(0,.r 0)]⟩,λa=>Fc L a.1 (bQ.mk a.2.1 a.2.2.1) a.2.2.2⟩
def YP:aq BT:=cV 16 [48,3] [22] λa=>w6 L a.1 a.2
def aeF:aq BT:=⟨303,2,0,⟨[],[(0,.v 3),(1,.q [.v 22])]⟩,⟨[],[(0,.v 4)]⟩,λa=>E7 L a.1 a.2⟩
def aj8:aq BT:=⟨147,2,0,⟨[],[(0,.v 22),(1,.f 303 [] [.q [.v 22]])]⟩,⟨[],[(0,.v 3)]⟩,λa=>zW L a.1 a.2⟩
def apU:aq BT:=⟨86,2,0,⟨[],[(0,.v 22),(1,.f 303 [] [.q [.v 22]])]⟩,⟨[],[(0,.v 4)]⟩,λa=>EZ L a.1 a.2⟩
def ag1:aq BT:=cV 253 [30,22,22] [30,67] λa=>yB L a.1 a.2.1 a.2.2
def amt:aq BT:=cV 254 [30,38,46,3,3] [67] λa=>EU L a.1 a.2.1 a.2.2.1 a.2.2.2.1 a.2.2.2.2
def VL:aq BT:=⟨50,4,0,⟨[],[(0,.v 140),(1,.q [.v 3]),(2,.q [.v 3]),(3,.q [.v 3])]⟩,⟨[],[(0,.v 4)]⟩,λa=>zt L a.1 a.2.1 a.2.2.1 a.2.2.2⟩
def ajl:aq BT:=⟨116,2,0,⟨[],[(0,.v 44),(1,.f 50 [] [.q [.v 3],.q [.v 3],.q [.v 3]])]⟩,⟨[],[(0,.v 3)]⟩,λa=>Gu L a.1 a.2.1 a.2.2.1 a.2.2.2⟩
def aoT:aq BT:=⟨49,2,0,⟨[],[(0,.v 44),(1,.f 50 [] [.q [.v 3],.q [.v 3],.q [.v 3]])]⟩,⟨[],[(0,.v 4)]⟩,λa=>FH L a.1 a.2.1 a.2.2.1 a.2.2.2⟩
def YS:aq BT:=⟨48,4,0,⟨[],[(0,.v 3),(1,.q [.v 44]),(2,.q [.v 3]),(3,.q [.v 3])]⟩,⟨[],[(0,.v 4)]⟩,λa=>AZ L a.1 a.2.1 a.2.2.1 a.2.2.2⟩
def aly:aq BT:=⟨46,2,0,⟨[],[(0,.v 3),(1,.f 48 [] [.q [.v 44],.q [.v 3],.q [.v 3]])]⟩,⟨[(0,[],.aap 3 22)],[(0,.r 0)]⟩,λa=>Lb L a.1 a.2.1 a.2.2.1 a.2.2.2⟩
end Go.X.T
namespace Go.X.T
open Go Go.Aml Go.Bml Go.X Go.Proofs
variable (L:Lp)
def aib:aq BT:=cV 17 [46,3,3] [22] λa=>rJ L a.1 a.2.1 a.2.2
def J7:aq BT:=⟨340,2,0,⟨[],[(0,.ns),(1,.v 3)]⟩,⟨[(0,[],.aap 3 22)],[(0,.r 0)]⟩,λa=>CW L a⟩
def ZV:aq BT:=⟨328,1,0,⟨[],[(0,.v 33)]⟩,⟨[(0,[],.aap 3 22)],[(0,.r 0)]⟩,λa=>He L a⟩
def afF:aq BT:=cV 71 [30,38,3] [4] λa=>Bc L a.1 a.2.1 a.2.2
def VX:aq BT:=cV 138 [] [222] λa=>Fx L
def acv:aq BT:=cV 77 [30,3,4] [3] λa=>nK L a.1 a.2.1 a.2.2
def auM:aq BT:=cV 72 [30,38] [170] λa=>w9 L a.1 a.2
def YY:aq BT:=cV 75 [170,174] [4] λa=>wJ L a.1 a.2
def aeU:aq BT:=cV 259 [275,275] [4] λa=>zX L a.1 a.2
def akn:aq BT:=cV 193 [170] [272] λa=>Bg L a
def ap5:aq BT:=⟨194,4,0,⟨[],[(0,.v 174),(1,.q [.v 3]),(2,.q (alh [3,167,168,168])),(3,.q [.v 272])]⟩,⟨[],[(0,.v 4)]⟩,λa=>EN L (Wh a) (aqq a) (ZI a) (aeS a)⟩
def ahe:aq BT:=⟨73,2,0,⟨[],[(0,.v 167),(1,.f 194 [] [.q [.v 3],.q (alh [3,167,168,168]),.q [.v 272]])]⟩,⟨[],[(0,.v 3)]⟩,λa=>Aj L (afq a) (akl a) (aic a) (am5 a)⟩
def amH:aq BT:=⟨117,2,0,⟨[],[(0,.v 170),(1,.v 3)]⟩,⟨[(0,[],.aap 3 22),(2,[],.aap 3 22)],[(0,.r 0),(1,.v 3),(2,.r 1),(3,.v 4)]⟩,λa=>yN L a.1 a.2⟩
def V6:aq BT:=⟨119,2,0,⟨[],[(0,.v 174),(1,.q [.v 22])]⟩,⟨[],[(0,.v 4)]⟩,λa=>ye L a.1 a.2⟩
def aju:aq BT:=⟨73,2,0,⟨[],[(0,.v 167),(1,.f 119 [] [.q [.v 22]])]⟩,⟨[],[(0,.v 3)]⟩,λa=>AM L a.1 a.2⟩
def ao5:aq BT:=⟨118,2,0,⟨[(0,[],.aap 174 167)],[(0,.r 0),(1,.f 119 [] [.q [.v 22]])]⟩,⟨[(0,[],.aap 174 167)],[(0,.r 0)]⟩,λa=>Bm L a.1 a.2⟩
def Y7:aq BT:=⟨72,2,0,⟨[],[(0,.v 30),(1,.v 38)]⟩,⟨[(0,[1],.aap 174 167),(0,[3],.aap 4 168)],[(0,.g [.v 3,.r 0,.v 168,.r 1])]⟩,λa=>DM L a.1 a.2⟩
def alI:aq BT:=cV 52 [30,38,3] [22,22,144,4] λa=>r7 L a.1 a.2.1 a.2.2
def UY:aq BT:=cV 29 [30,3] [3] λa=>v7 L a.1 a.2
def abF:aq BT:=cV 203 [30,38,3] [4] λa=>r6 L a.1 a.2.1 a.2.2
def aod:aq BT:=⟨305,3,0,⟨[],[(0,.v 3),(1,.q [.v 27,.v 28]),(2,.q (alh [22,22,22,3]))]⟩,⟨[],[(0,.v 4)]⟩,λa=>w5 L (Zl a) (Wt a) (ace a)⟩
def X6:aq BT:=⟨147,2,0,⟨[],[(0,.v 22),(1,.f 305 [] [.q [.v 27,.v 28],.q (alh [22,22,22,3])])]⟩,⟨[],[(0,.v 3)]⟩,λa=>ER L (Q5 a) (Qh a) (Sc a)⟩
def ad6:aq BT:=⟨256,2,0,⟨[(0,[],.aap 3 22)],[(0,.r 0),(1,.f 305 [] [.q [.v 27,.v 28],.q (alh [22,22,22,3])])]⟩,⟨[(0,[],.aap 3 22)],[(0,.r 0)]⟩,λa=>zr L (Q5 a) (Qh a) (Sc a)⟩
def T9:aq BT:=⟨329,1,0,⟨[(0,[],.aap 3 22)],[(0,.r 0)]⟩,⟨[(0,[],.aap 3 22)],[(0,.r 0)]⟩,λa=>ED L a⟩
def aaG:aq BT:=⟨304,2,0,⟨[],[(0,.v 22),(1,.v 22)]⟩,⟨[(0,[],.aap 3 22)],[(0,.r 0)]⟩,λa=>zT L a.1 a.2⟩
def agr:aq BT:=cV 255 [30,38,46,3] [22] λa=>Bo L a.1 a.2.1 a.2.2.1 a.2.2.2
def alL:aq BT:=⟨257,2,0,⟨[],[(0,.v 3),(1,.q [.v 22])]⟩,⟨[],[(0,.v 4)]⟩,λa=>za L a.1 a.2⟩
def ade:aq BT:=⟨147,2,0,⟨[],[(0,.v 22),(1,.f 257 [] [.q [.v 22]])]⟩,⟨[],[(0,.v 3)]⟩,λa=>zU L a.1 a.2⟩
def aiM:aq BT:=⟨256,2,0,⟨[(0,[],.aap 3 22)],[(0,.r 0),(1,.f 257 [] [.q [.v 22]])]⟩,⟨[(0,[],.aap 3 22)],[(0,.r 0)]⟩,λa=>Av L a.1 a.2⟩
def aoh:aq BT:=cV 188 [30,38,46,22,22,22,3,3] [30,22,67] λa=>zJ L a.1 a.2.1 a.2.2.1 a.2.2.2.1 a.2.2.2.2.1 a.2.2.2.2.2.1 a.2.2.2.2.2.2.1 a.2.2.2.2.2.2.2
def afy:aq BT:=cV 189 [40,52,3] [52,67] λa=>BY L a.1 a.2.1 a.2.2
def ak5:aq BT:=cV 190 [50] [50,67] λa=>vQ L a
def Ud:aq BT:=cV 191 [50,3] [50,67] λa=>qu L a.1 a.2
def ahV:aq BT:=cV 192 [50,3] [50,67] λa=>vJ L a.1 a.2
def anq:bY:=⟨[(0,[35],.aap 83 54)],[(0,.g (abx amv [(35,.r 0)]))]⟩
def V8:aq BT:=⟨44,1,0,⟨[],[(0,.v 56)]⟩,anq,λa=>Cp L a⟩
def acD:bY:=⟨[(0,[19],.aap 101 41),(0,[20],.aap 101 41),(0,[35],.aap 83 54),(0,[],.box 133 (abx adU [(19,.r 0),(20,.r 1),(35,.r 2)]))],[(0,.p 3),(1,.v 65)]⟩
def aaf:bY:=⟨[(100000,[],.aap 101 41),(100001,[],.aap 101 41),(100002,[],.aap 83 54),(100003,[],.box 133 (abx adU [(19,.r 0),(20,.r 1),(35,.r 2)]))],[(0,.v 67)]⟩
def afk:aq BT:=⟨103,2,4,acD,aaf,λa=>xR L (kU a) (kT a)⟩
def akX:bY:=⟨[(0,[19],.aap 101 41),(0,[20],.aap 101 41),(0,[35],.aap 83 54)],[(0,.g (abx amv [(19,.r 0),(20,.r 1),(35,.r 2)]))]⟩
def apV:aq BT:=⟨44,1,0,⟨[],[(0,.v 56)]⟩,akX,λa=>Dr L a⟩
def ZR:bY:=⟨[(0,[19],.aap 101 41),(0,[20],.aap 101 41),(0,[35],.aap 83 54),(0,[],.box 133 (abx adU [(19,.r 0),(20,.r 1),(35,.r 2)]))],[(0,.p 3),(1,.v 65)]⟩
def ae0:bY:=⟨[(100000,[],.aap 101 41),(100001,[],.aap 101 41),(100002,[],.aap 83 54),(100003,[],.box 133 (abx adU [(19,.r 0),(20,.r 1),(35,.r 2)]))],[(0,.v 67)]⟩
def acQ:aq BT:=⟨104,2,4,ZR,ae0,λa=>yV L (kU a) (kT a)⟩
def apo:bY:=⟨[(0,[19],.aap 101 41),(0,[20],.aap 101 41),(0,[35],.aap 83 54),(0,[],.box 133 (abx adU [(19,.r 0),(20,.r 1),(35,.r 2)]))],[(0,.p 3),(1,.v 65)]⟩
def ang:bY:=⟨[(100000,[],.aap 101 41),(100001,[],.aap 101 41),(100002,[],.aap 83 54),(100003,[],.box 133 (abx adU [(19,.r 0),(20,.r 1),(35,.r 2)]))],[(0,.v 67)]⟩
def VQ:aq BT:=⟨105,2,4,apo,ang,λa=>yT L (kU a) (kT a)⟩
def acn:bY:=⟨[(2,[],.box 251 (alh [3,3,3,3])),(3,[],.box 120 (alh [22,3,3,3])),(4,[0,19],.aap 101 41),(4,[0,35],.aap 83 54),(4,[0],.box 133 (abx adU [(19,.r 2),(35,.r 3)])),(4,[],.box 130 [.p 4])],[(0,.v 30),(1,.v 46),(2,.p 0),(3,.p 1),(4,.p 5)]⟩
def ahm:bY:=⟨[(100000,[],.box 251 (alh [3,3,3,3])),(100001,[],.box 120 (alh [22,3,3,3])),(100002,[],.aap 101 41),(100003,[],.aap 83 54),(100004,[],.box 133 (abx adU [(19,.r 2),(35,.r 3)])),(100005,[],.box 130 [.p 4])],[(0,.v 46),(1,.v 67)]⟩
def aff:aq BT:=⟨167,5,6,acn,ahm,λa=>uX L (aeD a) (acw a) (ahv a) (amb a) (aj7 a)⟩
def Vf:bY:=⟨[(0,[19],.aap 101 41),(0,[35],.aap 83 54),(0,[],.box 133 (abx adU [(19,.r 0),(35,.r 1)])),(1,[0],.box 251 (alh [3,3,3,3])),(1,[1],.box 120 (alh [22,3,3,3])),(1,[2],.box 130 [.p 2])],[(0,.p 2),(1,.f 167 [] [.p 3,.p 4,.p 5])]⟩
def apK:bY:=⟨[(100000,[],.aap 101 41),(100001,[],.aap 83 54),(100002,[],.box 133 (abx adU [(19,.r 0),(35,.r 1)])),(100003,[],.box 251 (alh [3,3,3,3])),(100004,[],.box 120 (alh [22,3,3,3])),(100005,[],.box 130 [.p 2])],[]⟩
def YU:aq BT:=⟨166,2,6,Vf,apK,λa=>A5 L (MU a) (Me a) (N4 a)⟩
def aeP:bY:=⟨[(0,[19],.aap 101 41),(0,[35],.aap 83 54),(0,[],.box 133 (abx adU [(19,.r 0),(35,.r 1)])),(1,[0],.box 3 [.v 3]),(1,[1],.box 120 (alh [22,3,3,3])),(1,[2],.box 312 (alh [3,3,3,3])),(1,[3],.box 3 [.v 3])],[(0,.p 2),(1,.f 232 [] [.p 3,.p 4,.p 5,.p 6])]⟩
def ajB:bY:=⟨[(100000,[],.aap 101 41),(100001,[],.aap 83 54),(100002,[],.box 133 (abx adU [(19,.r 0),(35,.r 1)])),(100003,[],.box 3 [.v 3]),(100004,[],.box 120 (alh [22,3,3,3])),(100005,[],.box 312 (alh [3,3,3,3])),(100006,[],.box 3 [.v 3])],[]⟩
def ahD:aq BT:=⟨166,2,7,aeP,ajB,λa=>zg L (M2 a) (OW a) (N9 a) (P1 a) (RU a)⟩
def Yl:bY:=⟨[(0,[19],.aap 101 41),(0,[35],.aap 83 54),(0,[],.box 133 (abx adU [(19,.r 0),(35,.r 1)]))],[(0,.p 2),(1,.v 3),(2,.v 3)]⟩
def Vv:bY:=⟨[(100000,[],.aap 101 41),(100001,[],.aap 83 54),(100002,[],.box 133 (abx adU [(19,.r 0),(35,.r 1)]))],[]⟩
def abq:aq BT:=⟨170,3,3,Yl,Vv,λa=>Eb L (Vp a) (apR a) (Y6 a)⟩
def ag8:bY:=⟨[(0,[19],.aap 101 41),(0,[35],.aap 83 54),(0,[],.box 133 (abx adU [(19,.r 0),(20,.r 3),(35,.r 1)])),(0,[20],.aap 101 41)],[(0,.p 2),(1,.v 65)]⟩
def alR:bY:=⟨[(100000,[],.aap 101 41),(100001,[],.aap 83 54),(100002,[],.box 133 (abx adU [(19,.r 0),(35,.r 1)]))],[(0,.v 67)]⟩
def ajT:aq BT:=⟨106,2,3,ag8,alR,λa=>wP L (agZ a) (aeX a)⟩
def aps:bY:=⟨[(0,[19],.aap 101 41),(0,[20],.aap 101 41),(0,[35],.aap 83 54),(0,[],.box 133 (abx adU [(19,.r 0),(20,.r 1),(35,.r 2)]))],[(0,.p 3),(1,.v 65)]⟩
def YF:bY:=⟨[(100000,[],.aap 101 41),(100001,[],.aap 101 41),(100002,[],.aap 83 54),(100003,[],.box 133 (abx adU [(19,.r 0),(20,.r 1),(35,.r 2)]))],[(0,.v 67)]⟩
def adV:aq BT:=⟨107,2,4,aps,YF,λa=>yb L (kU a) (kT a)⟩
def ajo:bY:=⟨[(0,[19],.aap 101 41),(0,[20],.aap 101 41),(0,[35],.aap 83 54),(0,[],.box 133 (abx adU [(19,.r 0),(20,.r 1),(35,.r 2)]))],[(0,.p 3),(1,.v 65)]⟩
def aon:bY:=⟨[(100000,[],.aap 101 41),(100001,[],.aap 101 41),(100002,[],.aap 83 54),(100003,[],.box 133 (abx adU [(19,.r 0),(20,.r 1),(35,.r 2)]))],[(0,.v 67)]⟩
def al7:aq BT:=⟨108,2,4,ajo,aon,λa=>xy L (kU a) (kT a)⟩
def Vj:bY:=⟨[(0,[19],.aap 101 41),(0,[20],.aap 101 41),(0,[35],.aap 83 54),(0,[],.box 133 (abx adU [(19,.r 0),(20,.r 1),(35,.r 2)]))],[(0,.p 3),(1,.v 65)]⟩
def abb:bY:=⟨[(100000,[],.aap 101 41),(100001,[],.aap 101 41),(100002,[],.aap 83 54),(100003,[],.box 133 (abx adU [(19,.r 0),(20,.r 1),(35,.r 2)]))],[(0,.v 67)]⟩
def agf:aq BT:=⟨109,2,4,Vj,abb,λa=>vA L (kU a) (kT a)⟩
def alD:bY:=⟨[(0,[19],.aap 101 41),(0,[20],.aap 101 41),(0,[35],.aap 83 54),(0,[],.box 133 (abx adU [(19,.r 0),(20,.r 1),(35,.r 2)]))],[(0,.p 3),(1,.v 65)]⟩
def ajG:bY:=⟨[(100000,[],.aap 101 41),(100001,[],.aap 101 41),(100002,[],.aap 83 54),(100003,[],.box 133 (abx adU [(19,.r 0),(20,.r 1),(35,.r 2)]))],[(0,.v 67)]⟩
def aoB:aq BT:=⟨110,2,4,alD,ajG,λa=>vm L (kU a) (kT a)⟩
def Yu:bY:=⟨[(0,[19],.aap 101 41),(0,[20],.aap 101 41),(0,[35],.aap 83 54),(0,[],.box 133 (abx adU [(19,.r 0),(20,.r 1),(35,.r 2)]))],[(0,.p 3),(1,.v 65)]⟩
def adD:bY:=⟨[(100000,[],.aap 101 41),(100001,[],.aap 101 41),(100002,[],.aap 83 54),(100003,[],.box 133 (abx adU [(19,.r 0),(20,.r 1),(35,.r 2)]))],[(0,.v 67)]⟩
def aby:aq BT:=⟨111,2,4,Yu,adD,λa=>wR L (kU a) (kT a)⟩
def an7:bY:=⟨[(0,[19],.aap 101 41),(0,[20],.aap 101 41),(0,[35],.aap 83 54),(0,[],.box 133 (abx adU [(19,.r 0),(20,.r 1),(35,.r 2)]))],[(0,.p 3),(1,.v 65)]⟩
def alX:bY:=⟨[(100000,[],.aap 101 41),(100001,[],.aap 101 41),(100002,[],.aap 83 54),(100003,[],.box 133 (abx adU [(19,.r 0),(20,.r 1),(35,.r 2)]))],[(0,.v 67)]⟩
def Uo:aq BT:=⟨112,2,4,an7,alX,λa=>yu L (kU a) (kT a)⟩
def aaZ:bY:=⟨[(0,[19],.aap 101 41),(0,[20],.aap 101 41),(0,[35],.aap 83 54),(0,[],.box 133 (abx adU [(19,.r 0),(20,.r 1),(35,.r 2)]))],[(0,.p 3),(1,.v 3)]⟩
def af2:bY:=⟨[(100000,[],.aap 101 41),(100001,[],.aap 101 41),(100002,[],.aap 83 54),(100003,[],.box 133 (abx adU [(19,.r 0),(20,.r 1),(35,.r 2)]))],[(0,.v 67)]⟩
def adZ:aq BT:=⟨187,2,4,aaZ,af2,λa=>xg L (ams a) (UW a)⟩
def aqF:bY:=⟨[(0,[19],.aap 101 41),(0,[20],.aap 101 41),(0,[35],.aap 83 54),(0,[],.box 133 (abx adU [(19,.r 0),(20,.r 1),(35,.r 2)]))],[(0,.p 3),(1,.v 65)]⟩
def aoo:bY:=⟨[(100000,[],.aap 101 41),(100001,[],.aap 101 41),(100002,[],.aap 83 54),(100003,[],.box 133 (abx adU [(19,.r 0),(20,.r 1),(35,.r 2)]))],[(0,.v 67)]⟩
def W7:aq BT:=⟨113,2,4,aqF,aoo,λa=>tM L (kU a) (kT a)⟩
def adp:bY:=⟨[(0,[19],.aap 101 41),(0,[20],.aap 101 41),(0,[35],.aap 83 54),(0,[],.box 133 (abx adU [(19,.r 0),(20,.r 1),(35,.r 2)]))],[(0,.p 3),(1,.v 65)]⟩
def ain:bY:=⟨[(100000,[],.aap 101 41),(100001,[],.aap 101 41),(100002,[],.aap 83 54),(100003,[],.box 133 (abx adU [(19,.r 0),(20,.r 1),(35,.r 2)]))],[(0,.v 67)]⟩
def agl:aq BT:=⟨113,2,4,adp,ain,λa=>Qt L (kU a) (kT a)⟩
def WG:bY:=⟨[(0,[19],.aap 101 41),(0,[20],.aap 101 41),(0,[35],.aap 83 54),(0,[],.box 133 (abx adU [(19,.r 0),(20,.r 1),(35,.r 2)]))],[(0,.p 3),(1,.v 65)]⟩
def Ui:bY:=⟨[(100000,[],.aap 101 41),(100001,[],.aap 101 41),(100002,[],.aap 83 54),(100003,[],.box 133 (abx adU [(19,.r 0),(20,.r 1),(35,.r 2)]))],[(0,.v 67)]⟩
def Z7:aq BT:=⟨114,2,4,WG,Ui,λa=>xQ L (kU a) (kT a)⟩
def afP:bY:=⟨[(0,[19],.aap 101 41),(0,[20],.aap 101 41),(0,[35],.aap 83 54),(0,[],.box 133 (abx adU [(19,.r 0),(20,.r 1),(35,.r 2)]))],[(0,.p 3),(1,.v 65)]⟩
def akP:bY:=⟨[(100000,[],.aap 101 41),(100001,[],.aap 101 41),(100002,[],.aap 83 54),(100003,[],.box 133 (abx adU [(19,.r 0),(20,.r 1),(35,.r 2)]))],[(0,.v 67)]⟩
def aiD:aq BT:=⟨115,2,4,afP,akP,λa=>xE L (kU a) (kT a)⟩
def ZG:aq BT:=cV 15 [56,65] [56,67] λa=>w7 L a.1 a.2
def afr:aq BT:=cV 20 [56,62] [56] λa=>Rs L a.1 a.2
def ak3:aq BT:=cV 65 [] [159] λa=>Ol L
def acg:bY:=⟨[],[(0,.v 140),(1,.q amv)]⟩
def ZY:aq BT:=⟨195,2,0,acg,⟨[],[(0,.v 4)]⟩,λa=>Qz L (VG a) (abC a)⟩
def afJ:bY:=⟨[],[(0,.v 44),(1,.f 195 [] [.q amv])]⟩
def akB:aq BT:=⟨116,2,0,afJ,⟨[],[(0,.v 3)]⟩,λa=>Ma L (QN a) (P0 a)⟩
end Go.X.T
namespace Go.X.T
open Go Go.Aml Go.Bml Go.X Go.Proofs
variable (L:Lp)
def aqa:bY:=⟨[],[(0,.v 44),(1,.f 195 [] [.q amv])]⟩
def anU:aq BT:=⟨49,2,0,aqa,⟨[],[(0,.v 4)]⟩,λa=>Th L (QN a) (P0 a)⟩
def afg:aq BT:=cV 122 [56,46] [4] λa=>GK L a.1 a.2
def akN:aq BT:=cV 121 [56] [4] λa=>LL L a
def aqp:aq BT:=cV 123 [56] [4] λa=>PU L a
def ahE:bY:=⟨[],[(0,.v 3),(1,.q amv)]⟩
def afp:aq BT:=⟨260,2,0,ahE,⟨[],[(0,.v 4)]⟩,λa=>OJ L (SY a) (Mx a)⟩
def Vy:bY:=⟨[],[(0,.v 3),(1,.f 260 [] [.q amv])]⟩
def ap0:aq BT:=⟨46,2,0,Vy,⟨[(0,[],.aap 3 22)],[(0,.r 0)]⟩,λa=>QU L (SY a) (Mx a)⟩
def aha:aq BT:=cV 197 [56] [22] λa=>FN L a
def amC:aq BT:=cV 124 [56] [4] λa=>QK L a
def VZ:bY:=⟨[],[(0,.v 88),(1,.q amv)]⟩
def abQ:aq BT:=⟨199,2,0,VZ,⟨[],[(0,.v 4)]⟩,λa=>Oy L (YR a) (ad4 a)⟩
def ahr:bY:=⟨[],[(0,.v 31),(1,.f 199 [] [.q amv])]⟩
def ama:aq BT:=⟨221,2,0,ahr,⟨[],[(0,.v 3)]⟩,λa=>Na L (RK a) (QT a)⟩
def Vk:bY:=⟨[],[(0,.v 31),(1,.f 199 [] [.q amv])]⟩
def apP:aq BT:=⟨153,2,0,Vk,⟨[],[(0,.v 4)]⟩,λa=>Rp L (RK a) (QT a)⟩
def agW:aq BT:=cV 126 [56] [4] λa=>Nd L a
def amn:aq BT:=cV 125 [56] [4] λa=>Rh L a
def VE:aq BT:=⟨133,2,0,⟨[],[(0,.v 3),(1,.q [.v 22])]⟩,⟨[],[(0,.v 4)]⟩,λa=>uh L a.1 a.2⟩
def aje:aq BT:=⟨147,2,0,⟨[],[(0,.v 22),(1,.f 133 [] [.q [.v 22]])]⟩,⟨[],[(0,.v 3)]⟩,λa=>Jg L a.1 a.2⟩
def aoP:aq BT:=⟨86,2,0,⟨[],[(0,.v 22),(1,.f 133 [] [.q [.v 22]])]⟩,⟨[],[(0,.v 4)]⟩,λa=>CG L a.1 a.2⟩
def YN:aq BT:=⟨134,2,0,⟨[],[(0,.v 3),(1,.q [.f 133 [] [.q [.v 22]]])]⟩,⟨[],[(0,.v 4)]⟩,λa=>zq L a.1 a.2⟩
def alu:aq BT:=⟨147,2,0,⟨[],[(0,.v 22),(1,.f 134 [] [.q [.f 133 [] [.q [.v 22]]]])]⟩,⟨[],[(0,.v 3)]⟩,λa=>FW L a.1 a.2⟩
def UH:aq BT:=⟨86,2,0,⟨[],[(0,.v 22),(1,.f 134 [] [.q [.f 133 [] [.q [.v 22]]]])]⟩,⟨[],[(0,.v 4)]⟩,λa=>zo L a.1 a.2⟩
def abm:aq BT:=cV 69 [140,3,22,3] [4,4] λa=>Cx L a.1 a.2.1 a.2.2.1 a.2.2.2
def anY:aq BT:=cV 27 [46,22,3] [90] λa=>Ew L a.1 a.2.1 a.2.2
def Xq:aq BT:=cV 127 [56] [4] λa=>Ow L a
def adL:aq BT:=⟨264,3,0,⟨[],[(0,.v 75),(1,.q [.v 3]),(2,.q [.v 3])]⟩,⟨[],[(0,.v 4)]⟩,λa=>Lf L a.1 a.2.1 a.2.2⟩
def aqr:aq BT:=⟨306,2,0,⟨[],[(0,.v 53),(1,.f 264 [] [.q [.v 3],.q [.v 3]])]⟩,⟨[],[(0,.v 3)]⟩,λa=>Qo L a.1 a.2.1 a.2.2⟩
def aal:aq BT:=⟨263,2,0,⟨[],[(0,.v 53),(1,.f 264 [] [.q [.v 3],.q [.v 3]])]⟩,⟨[],[(0,.v 4)]⟩,λa=>O7 L a.1 a.2.1 a.2.2⟩
def aga:aq BT:=cV 202 [56,3,3] [4] λa=>KD L a.1 a.2.1 a.2.2
def alx:bY:=⟨[],[(0,.v 83),(1,.q amv)]⟩
def Ua:aq BT:=⟨201,2,0,alx,⟨[],[(0,.v 4)]⟩,λa=>OU L (UL a) (aaD a)⟩
def aaF:bY:=⟨[],[(0,.v 54),(1,.f 201 [] [.q amv])]⟩
def afK:aq BT:=⟨262,2,0,aaF,⟨[],[(0,.v 3)]⟩,λa=>NP L (NM a) (PH a)⟩
def ale:bY:=⟨[],[(0,.v 54),(1,.f 201 [] [.q amv])]⟩
def aqg:aq BT:=⟨200,2,0,ale,⟨[],[(0,.v 4)]⟩,λa=>Sa L (NM a) (PH a)⟩
def aab:aq BT:=cV 128 [56] [4] λa=>NV L a
def afU:aq BT:=cV 129 [56] [4] λa=>Nl L a
def Wk:aq BT:=cV 130 [56] [4] λa=>Ng L a
def acO:aq BT:=cV 23 [56] [22] λa=>N8 L a
def aih:aq BT:=cV 9 [] [4] λa=>vn L
def Zq:aq BT:=⟨10,1,0,⟨[],[(0,.v 22)]⟩,⟨[(0,[],.box 122 [.v 22,.i .i64 0])],[(0,.p 0)]⟩,λa=>NC L a⟩
def afa:aq BT:=cV 19 [3,3] [3] λa=>Ie L a.1 a.2
def akI:aq BT:=⟨13,2,1,⟨[(0,[],.box 122 [.v 22,.v 3])],[(0,.p 0),(1,.v 3)]⟩,⟨[(100000,[],.box 122 [.v 22,.v 3])],[(0,.v 3)]⟩,λa=>eO L (bD.mk a.1 a.2.1) a.2.2⟩
def abV:aq BT:=⟨32,2,1,⟨[(0,[],.box 122 [.v 22,.v 3])],[(0,.p 0),(1,.v 3)]⟩,⟨[(100000,[],.box 122 [.v 22,.v 3])],[(0,.v 4)]⟩,λa=>mK L (bD.mk a.1 a.2.1) a.2.2⟩
def ahA:aq BT:=⟨40,2,1,⟨[(0,[],.box 122 [.v 22,.v 3])],[(0,.p 0),(1,.v 22)]⟩,⟨[(100000,[],.box 122 [.v 22,.v 3])],[(0,.v 3)]⟩,λa=>gQ L (bD.mk a.1 a.2.1) a.2.2⟩
def am1:aq BT:=⟨37,1,1,⟨[(0,[],.box 122 [.v 22,.v 3])],[(0,.p 0)]⟩,⟨[(100000,[],.box 122 [.v 22,.v 3])],[(0,.v 30)]⟩,λa=>zN L (bD.mk a.1 a.2)⟩
def aeh:aq BT:=⟨24,2,1,⟨[(0,[],.box 122 [.v 22,.v 3])],[(0,.p 0),(1,.v 3)]⟩,⟨[(100000,[],.box 122 [.v 22,.v 3])],[(0,.v 22)]⟩,λa=>A9 L (bD.mk a.1 a.2.1) a.2.2⟩
def ajQ:aq BT:=⟨38,2,1,⟨[(0,[],.box 122 [.v 22,.v 3])],[(0,.p 0),(1,.v 30)]⟩,⟨[(100000,[],.box 122 [.v 22,.v 3])],[(0,.v 32)]⟩,λa=>BX L (bD.mk a.1 a.2.1) a.2.2⟩
def apq:aq BT:=⟨39,2,1,⟨[(0,[],.box 122 [.v 22,.v 3])],[(0,.p 0),(1,.v 30)]⟩,⟨[(100000,[],.box 122 [.v 22,.v 3])],[(0,.v 36)]⟩,λa=>Cq L (bD.mk a.1 a.2.1) a.2.2⟩
def Zt:aq BT:=cV 275 [90,3,3] [4] λa=>xG L a.1 a.2.1 a.2.2
def al3:aq BT:=cV 219 [30] [67] λa=>EI L a
def Vh:aq BT:=cV 220 [115,4] [3,3] λa=>Da L a.1 a.2
def abZ:aq BT:=cV 151 [30,3,4,3,3,3] [3] λa=>Gv L a.1 a.2.1 a.2.2.1 a.2.2.2.1 a.2.2.2.2.1 a.2.2.2.2.2
def aox:aq BT:=cV 91 [30,3,4] [3] λa=>wm L a.1 a.2.1 a.2.2
def Yn:aq BT:=cV 26 [22,3] [4] λa=>xb L a.1 a.2
def ael:aq BT:=cV 41 [30,22] [22] λa=>Dt L a.1 a.2
def Ul:aq BT:=⟨12,1,1,⟨[(0,[],.box 122 [.v 22,.v 3])],[(0,.p 0)]⟩,⟨[(100000,[],.box 122 [.v 22,.v 3])],[(0,.v 60)]⟩,λa=>zy L (bD.mk a.1 a.2)⟩
def aaU:aq BT:=cV 11 [60] [56,4] λa=>Cw L a
def agD:aq BT:=⟨42,6,1,⟨[(0,[],.box 122 [.v 22,.v 3])],[(0,.p 0),(1,.v 3),(2,.v 3),(3,.v 3),(4,.v 3),(5,.v 3)]⟩,⟨[(100000,[],.box 122 [.v 22,.v 3])],[(0,.v 65)]⟩,λa=>Di L (bD.mk a.1 a.2.1) a.2.2.1 a.2.2.2.1 a.2.2.2.2.1 a.2.2.2.2.2.1 a.2.2.2.2.2.2⟩
def WZ:aq BT:=⟨14,3,1,⟨[(0,[],.box 122 [.v 22,.v 3])],[(0,.p 0),(1,.v 56),(2,.v 3)]⟩,⟨[(100000,[],.box 122 [.v 22,.v 3])],[(0,.v 62)]⟩,λa=>EJ L (bD.mk a.1 a.2.1) a.2.2.1 a.2.2.2⟩
def adn:aq BT:=cV 18 [30,38,3] [22,22,4] λa=>Be L a.1 a.2.1 a.2.2
end Go.X.T
namespace Go.X.T
open Go Go.Aml Go.Bml Go.X Go.Proofs
variable (L:Lp)
def at7:aq BT:=⟨74,3,0,⟨[],[(0,.v 174),(1,.q [.v 3]),(2,.q [.v 3])]⟩,⟨[],[(0,.v 4)]⟩,λa=>anM L a.1 a.2.1 a.2.2⟩
def auS:aq BT:=⟨73,2,0,⟨[],[(0,.v 167),(1,.f 74 [] [.q [.v 3],.q [.v 3]])]⟩,⟨[],[(0,.v 3)]⟩,λa=>aob L a.1 a.2.1 a.2.2⟩
def asH:aq BT:=cV 28 [30,38,3,22] [3,67] λa=>anJ L a.1 a.2.1 a.2.2.1 a.2.2.2
def ar8:aq BT:=cV 6 [22] [4] λa=>ar7 L a
end Go.X.T
namespace Go.X
open Go Go.Aml Go.Bml
structure cN (P:Program) (B:Tb) (n:Nat) (e:Ev B.D n):Prop where
 row:∀(m:Nat) (xs:List (B.D m)) (x:B.D n),e.up (.row m xs)=c6 x->e.tv x= .row m xs
 el:∀(x:B.D n) (m:Nat) (xs:List (B.D m)),e.tv x= .row m xs->m=B.el n
 tv:∀(x:B.D n),pv B (e.tv x)=(B.ty n).enc x
 lt:∀(x:B.D n),cE 0 ((B.ty n).enc x)
 up:∀(t:TV B.D) (x:B.D n),e.up t=c6 x->cE 0 (pv B t)/\Cc (pv B t) ((B.ty n).enc x)
 wid:∀(x:B.D n),((B.ty n).enc x).cells.length=B.sz n
 one:∀(x:B.D n),((B.ty n).enc x).cells.all PV.one=true
 pos:0<B.sz n
 xw:∀(x:B.D n) (vs:List PV),(B.ty n).enc x≠ .bu vs
 ic:B.D n->cH P n=c6 (B.sz n)
 flat:∀(x:B.D n),B.flat n=true->∀(j:Nat) (c:PV),((B.ty n).enc x).cells[j]?=c6 c->∀(F F':Nat->Prop) (w w':World) (v:Value),VI F w c v->VI F' w' c v
structure cK (P:Program) (B:Tb) (n:Nat) (e:Ev B.D n):Prop where
 ok:cN P B n e
 leaf:∀x:B.D n,((B.ty n).enc x).cells=[(B.ty n).enc x]
section
variable {P:Program}{B:Tb}
def afw(c:(n:Nat)->Ev B.D n)(b:∀n,B.tv n=(c n).tv)(d:∀n,B.up n=(c n).up)(a:∀n,cN P B n (c n)):cU P B where
 row n m xs x hx:=by rw[b];rw[d] at hx;exact(a n).row m xs x hx
 el n x m xs hx:=by rw[b] at hx;exact(a n).el x m xs hx
 tv n x:=by rw[b];exact(a n).tv x
 lt n x:=(a n).lt x
 up n t x hx:=by rw[d] at hx;exact(a n).up t x hx
 wid n x:=(a n).wid x
 one n x:=(a n).one x
 pos n:=(a n).pos
 xw n x vs:=(a n).xw x vs
 ic n x:=(a n).ic x
 flat n x:=(a n).flat x
def amI{n:Nat}{c:Ev B.D n}(b:B.D n->False)(d:0<B.sz n):cN P B n c:=
 ⟨λ_ _ a _=>(b a).elim,λa=>(b a).elim,λa=>(b a).elim,λa=>(b a).elim,λ_ a _=>(b a).elim,λa=>(b a).elim,λa=>(b a).elim,d,λa=>(b a).elim,λa=>(b a).elim,λa=>(b a).elim⟩
variable {n:Nat}
def vv{c:Ev B.D n}(row:∀(b:Nat) (e:List (B.D b)) (a:B.D n),c.up (.row b e)=c6 a->c.tv a= .row b e)
 (o:∀(a:B.D n) (b:Nat) (e:List (B.D b)),c.tv a= .row b e->b=B.el n)
 (x:∀(a:B.D n),pv B (c.tv a)=(B.ty n).enc a)
 (lt:∀(a:B.D n),cE 0 ((B.ty n).enc a))
 (w:∀(h:TV B.D) (a:B.D n),c.up h=c6 a->cE 0 (pv B h)/\Cc (pv B h) ((B.ty n).enc a))
 (g:∀a:B.D n,((B.ty n).enc a).one=true) (j:B.sz n=1) (q:cH P n=c6 1)
 (p:∀(a:B.D n),B.flat n=true->∀(s k:Nat->Prop) (r u:World) (v:Value),VI s r ((B.ty n).enc a) v->VI k u ((B.ty n).enc a) v):cK P B n c:=by
 have f:∀a:B.D n,((B.ty n).enc a).cells=[(B.ty n).enc a]:=λa=>by
  have:=g a;generalize (B.ty n).enc a=i at this⊢;cases i <;> first |rfl |(simp[PV.one] at this;done)
 refine⟨⟨row,o,x,lt,w,λa=>by rw[f,j];rfl,λa=>by rw[f];simp[g a],by omega,λa vs t=>?_,λ_=>by rw[q,j],λa m l i d=>?_⟩,f⟩
 .have:=g a;rw[t] at this;simp[PV.one] at this
 .rw[f] at d
  match l,d with
  |0,d=>
   simp at d;subst d;exact p a m
def vR{g:IntKind}{e:B.D n=Int}(c:∀a,(B.ty n).enc a= .int g (dA e a))(m:B.sz n=1)(i:cH P n=c6 1):cK P B n (fA B.D g e):=by
 refine vv (λd k a b=>by simp[fA] at b) (λa d k b=>by simp[fA] at b) (λa=>by rw[c];rfl) (λa=>by rw[c];exact .int _ _) (λj a b=>?_) (λa=>by rw[c];rfl) m i (λa _ s q r o v h=>by rw[c] at h⊢;cases h;exact .int _ _)
 rw[c];cases j with
 |int p d=>
  simp only[fA] at b;obtain⟨l,f⟩:=a8 b;injection f with f
  subst f;rw[qh l];simp only[pv];refine⟨.int _ _,?_⟩
  have:dA e (dA e.symm d)=d:=by simp[dA]
  rw[this];exact .refl _
 |_=>simp[fA] at b
def agM{e:B.D n=Bool}(c:∀a,(B.ty n).enc a= .bool (dA e a))(j:B.sz n=1)(g:cH P n=c6 1):cK P B n (nE B.D e):=by
 refine vv (λd i a b=>by simp[nE] at b) (λa d i b=>by simp[nE] at b) (λa=>by rw[c];rfl) (λa=>by rw[c];exact .bool _) (λh a b=>?_) (λa=>by rw[c];rfl) j g (λa _ o l m k v f=>by rw[c] at f⊢;cases f;exact .bool _)
 rw[c];cases h with
 |bool d=>
  simp only[nE] at b;injection b with h2
  subst h2;simp only[pv];refine⟨.bool _,?_⟩
  have:dA e (dA e.symm d)=d:=by simp[dA]
  rw[this];exact .refl _
 |_=>simp[nE] at b
def Lq{d:B.D n=Option Nat}(g:∀b,(B.ty n).enc b=arf (dA d b))(u:B.sz n=1)(r:cH P n=c6 1):cK P B n (iR B.D d):=by
 have h:∀c,dA d (dA d.symm c)=c:=λc=>by simp[dA]
 have j:∀c,cE 0 (arf c):=λc=>by
  cases c with
  |none=>exact .dB
  |some f=>exact .fn _ _ _ (by simp) (by simp)
 refine vv (λs i b a=>by simp[iR] at a) (λb s i a=>by simp[iR] at a) (λb=>?_) (λb=>by rw[g];exact j _) (λt b a=>?_) (λb=>?_) u r (λb _ z x y A v e=>?_)
 .rw[g];show pv B (.jC (dA d b))=_
  cases dA d b <;> rfl
 .rw[g];cases t with
  |jC c=>
   simp only[iR] at a;injection a with h2
   subst h2;rw[h];cases c with
   |none=>exact⟨.dB,.refl _⟩
   |some f=>exact⟨j (c6 f),.refl _⟩
  |dB=>
   simp only[iR] at a;injection a with h2
   subst h2;rw[h];exact⟨.dB,.refl _⟩
  |fn f l o=>
   match l,o,a with
   |[],[],a=>
    simp only[iR] at a;injection a with h2
    subst h2;rw[h];exact⟨j (c6 f),.refl _⟩
   |[],_::_,a=>simp[iR] at a
   |_::_,_,a=>simp[iR] at a
  |_=>simp[iR] at a
 .rw[g];cases dA d b <;> rfl
 .rw[g] at e⊢;cases k:dA d b with
  |none=>
   rw[k] at e;cases e
   exact .dB
  |some f=>
   rw[k] at e;cases e with
   |fn _ _ _ i q p e m w=>
    have:i=[]:=e4 (by simpa using p.symm);subst this;have:q=[]:=e4 (by simpa using m.symm);subst this;exact .fn f [] [] [] [] rfl (by simp) rfl (by simp)
def iA{c:Nat}{e:B.D n=List (B.D c)}(f:∀b,(B.ty n).enc b= .vs (B.sz c) ((dA e b).map (B.ty c).enc))(p:B.sz n=1)(l:cH P n=c6 1)(q:B.el n=c)(m:B.flat n=false):cK P B n (bJ B.D c e):=by
 have d:∀h,dA e (dA e.symm h)=h:=λh=>by simp[dA]
 refine vv (λi j b a=>?_) (λb i j a=>?_) (λb=>by rw[f];rfl) (λb=>by rw[f];exact .vs _ _) (λo b a=>?_) (λb=>by rw[f];rfl) p l (λb k=>by rw[m] at k;cases k)
 .simp only[bJ] at a⊢
  split at a
  .rename_i g;subst g;injection a with a
   subst a;rw[d]
  .cases a
 .simp only[bJ] at a;injection a with h1 h2
  exact h1.symm.trans q.symm
 .rw[f];cases o with
  |row i j=>
   simp only[bJ] at a
   split at a
   .rename_i g;subst g;injection a with a
    subst a;rw[d];exact⟨.vs _ _,.refl _⟩
   .cases a
  |bg=>
   simp only[bJ] at a;injection a with a
   subst a;rw[d];exact⟨.bg,.nil _⟩
  |z0=>
   simp only[bJ] at a;injection a with a
   subst a;rw[d];exact⟨.z0,.z0 _⟩
  |_=>simp[bJ] at a
def alG{f c:Nat}{b:B.D n=List (B.D f)}{k:B.D f=List (B.D c)}(A:∀s,(B.ty f).enc s= .vs (B.sz c) ((dA k s).map (B.ty c).enc))(l:∀e,(B.ty n).enc e= .vs (B.sz f) ((dA b e).map (B.ty f).enc))(F:B.sz n=1)(y:cH P n=c6 1)(G:B.el n=f)(z:B.flat n=false):cK P B n (lx B.D f c b k):=by
 have h:∀o,dA b (dA b.symm o)=o:=λo=>by simp[dA]
 refine vv (λc m e a=>?_) (λe c m a=>?_) (λe=>by rw[l];rfl) (λe=>by rw[l];exact .vs _ _) (λD e a=>?_) (λe=>by rw[l];rfl) F y (λe q=>by rw[z] at q;cases q)
 .simp only[lx,pM] at a⊢
  split at a
  .rename_i j;subst j;injection a with a
   subst a;rw[h]
  .cases a
 .simp only[lx,pM] at a;injection a with h1 k
  exact h1.symm.trans G.symm
 .rw[l];cases D with
  |row c m=>
   simp only[lx,pM] at a
   split at a
   .rename_i j;subst j;injection a with a
    subst a;rw[h];exact⟨.vs _ _,.refl _⟩
   .cases a
  |bg=>
   simp only[lx,pM] at a;injection a with a
   subst a;rw[h];exact⟨.bg,.nil _⟩
  |z0=>
   simp only[lx,pM] at a;injection a with a
   subst a;rw[h];exact⟨.z0,.z0 _⟩
  |rv p d=>
   simp only[lx,pM] at a;obtain⟨t,a⟩:=a8 a;obtain rfl:=beq_eq t
   split at a
   .rename_i g v;injection a with a
    subst a;rw[h];have u:∀(d:List (TV B.D)) (g:List (List (B.D c))),uO B.D c d=c6 g->aP B d=(g.map (dA k.symm)).map (B.ty p).enc:=λd=>by
     induction d with
     |nil=>intro g b;simp only[uO] at b;injection b with b;subst b;rfl
     |cons C d w=>
      intro g b;cases C with
      |row i m=>
       simp only[uO] at b
       split at b
       .rename_i j;subst j
        split at b
        .rename_i r E;injection b with b
         subst b;simp only[aP,ei,w r E]
         congr 1
         rw[A];simp[dA,pv]
        .cases b
       .cases b
      |_=>simp[uO] at b
    have x:pv B (.rv p d)= .vs (B.sz p) (aP B d):=rfl;rw[x,u d g v];exact⟨.vs _ _,.refl _⟩
   .cases a
  |_=>simp[lx,pM] at a
def mJ(B:Tb):(ns:List Nat)->bi B.D ns->List PV
 |[],_=>[]
 |[n],a=>[(B.ty n).enc a]
 |n::b::ns,a=>(B.ty n).enc a.1::mJ B (b::ns) a.2
def Jo:∀(ns:List Nat) (a:bi B.D ns),(mJ B ns a).length=ns.length
 |[],_=>rfl
 |[_],_=>rfl
 |n::b::ns,a=>by simp only[mJ,List.length_cons,Jo (b::ns) a.2]
def N3{c:(n:Nat)->Ev B.D n}:∀(ns:List Nat) (a:bi B.D ns),(∀b,b∈ns->cK P B b (c b))->aP B (E6 B.D c ns a)=mJ B ns a
 |[],_,_=>rfl
 |[n],a,d=>by
  exact congrArg (λz=>[z]) ((d n (by simp)).ok.tv a)
 |n::b::ns,a,d=>by
  have g:=(d n (by simp)).ok.tv a.1;have h:=N3 (b::ns) a.2 λf e=>d f (by simp at e⊢;exact .inr e)
  show pv B ((c n).tv a.1)::aP B (E6 B.D c (b::ns) a.2)=(B.ty n).enc a.1::mJ B (b::ns) a.2
  rw[g,h]
def zC{i:(n:Nat)->Ev B.D n}:∀(ns:List Nat) (c:bi B.D ns),(∀b,b∈ns->cK P B b (i b))->∀d,d∈mJ B ns c->∃b,b∈ns/\∃f:B.D b,d=(B.ty b).enc f
 |[],_,_,d,a=>by simp[mJ] at a
 |[n],c,h,d,a=>by
  simp only[mJ,e5] at a;exact⟨n,by simp,c,a⟩
 |n::b::ns,c,h,d,a=>by
  simp only[mJ,e6] at a;rcases a with a |a
  .exact⟨n,by simp,c.1,a⟩
  .obtain⟨g,e,f,j⟩:=zC (b::ns) c.2 (λg e=>h g (by simp at e⊢;exact .inr e)) d a;exact⟨g,by simp at e⊢;exact .inr e,f,j⟩
def Tm{l:(n:Nat)->Ev B.D n}:∀(ns:List Nat) (j:List (TV B.D)) (d:bi B.D ns),(∀h,h∈ns->cK P B h (l h))->Au B.D l ns j=c6 d->
 j.length=ns.length/\(∀f,f∈j->cE 0 (pv B f))/\∀(i:Nat) (e g:PV),(aP B j)[i]?=c6 e->(mJ B ns d)[i]?=c6 g->Cc e g
 |[],[],d,_,_=>⟨rfl,λf k=>(List.not_mem_nil k).elim,λi e g a _=>by
  have a:(([]:List PV)[i]?)=c6 e:=a;rw[ee] at a;cases a⟩
 |[n],[f],d,m,c=>by
  obtain⟨p,o⟩:=(m n (e5.2 rfl)).ok.up f d c;refine⟨rfl,λq k=>by rw[e5.1 k];exact p,λi e g a b=>?_⟩
  match i,a,b with
  |0,a,b=>
   have a:c6 (pv B f)=c6 e:=a;have b:c6 ((B.ty n).enc d)=c6 g:=b;injection a with a
   injection b with b
   subst a;subst b;exact o
  |i+1,a,_=>
   have a:(([]:List PV)[i]?)=c6 e:=a;rw[ee] at a;cases a
 |n::h::ns,f::j,d,m,c=>by
  obtain⟨v,t⟩:=aid (show CL ((l n).up f) (Au B.D l (h::ns) j)=c6 d from c);obtain⟨p,o⟩:=(m n List.mem_cons_self).ok.up f d.1 v;obtain⟨x,u,r⟩:=Tm (h::ns) j d.2 (λs w=>m s (List.mem_cons_of_mem _ w)) t;refine⟨congrArg Nat.succ x,λq k=>?_,λi e g a b=>?_⟩
  .rcases e6.1 k with rfl |k
   .exact p
   .exact u q k
  .match i,a,b with
   |0,a,b=>
    have a:c6 (pv B f)=c6 e:=a;have b:c6 ((B.ty n).enc d.1)=c6 g:=b;injection a with a
    injection b with b
    subst a;subst b;exact o
   |i+1,a,b=>exact r i e g a b
 |[],_::_,_,_,c=>by cases (show(e0:Option (bi B.D []))=c6 _ from c)
 |[n],[],_,_,c=>by cases (show(e0:Option (bi B.D [n]))=c6 _ from c)
 |[n],_::_::_,_,_,c=>by cases (show(e0:Option (bi B.D [n]))=c6 _ from c)
 |n::h::ns,[],_,_,c=>by cases (show(e0:Option (bi B.D (n::h::ns)))=c6 _ from c)
def eS{p:(n:Nat)->Ev B.D n}{l:Type}{ns:List Nat}{mk:bi B.D ns->l}{m:l->bi B.D ns}{j:B.D n=l}(e:∀a,a∈ns->cK P B a (p a))(A:∀c,m (mk c)=c)
 (h:∀d,(B.ty n).enc d= .agg (mJ B ns (m (dA j d)))) (s:B.sz n=ns.length) (N:0<ns.length) (q:cH P n=c6 ns.length) (H:B.flat n=true->∀a,a∈ns->B.flat a=true):cN P B n (cw B.D p ns mk m j):=by
 have x:∀k,dA j (dA j.symm k)=k:=λk=>by simp[dA]
 constructor
 case row=>intro w z d b;simp[cw] at b
 case el=>intro d w z b;simp[cw] at b
 case tv=>
  intro d;rw[h];simp only[cw,pv];rw[N3 ns _ e]
 case lt=>
  intro d;rw[h];refine .agg _ λi f=>?_
  obtain⟨a,g,c,rfl⟩:=zC ns _ e i f;exact(e a g).ok.lt c
 case up=>
  intro o d b;rw[h];cases o with
  |agg t=>
   simp only[cw] at b
   split at b
   .rename_i c G;injection b with b
    subst b;obtain⟨K,C,u⟩:=Tm ns t c e G;rw[x,A];simp only[pv];refine⟨.agg _ λi f=>?_,.agg _ _ ?_ u⟩
    .rw[db] at f;obtain⟨o,E,rfl⟩:=List.mem_map.1 f;exact C o E
    .rw[db,List.length_map,Jo,K]
   .cases b
  |_=>simp[cw] at b
 case wid=>
  intro d;rw[h,s];exact Jo _ _
 case one=>
  intro d;rw[h];refine ef.2 λi f=>?_
  obtain⟨a,g,c,rfl⟩:=zC ns _ e i f;have r:=(e a g).ok.one c;rw[(e a g).leaf c] at r;simpa using r
 case pos=>omega
 case xw=>intro d vs b;rw[h] at b;cases b
 case ic=>intro _;rw[q,s]
 case flat=>
  intro d F M i f J D I L v y;rw[h] at f;obtain⟨a,g,c,rfl⟩:=zC ns _ e i (List.mem_of_getElem? f);exact(e a g).ok.flat c (H F a g) 0 _ (by rw[(e a g).leaf c];rfl) J D I L v y
end
def ahP(b:List (Nat×Ty))(n:Nat):(n∈b.map (·.1))\/Br b n=⟨Empty,λ_=>.any⟩:=by
 induction b with
 |nil=>exact .inr rfl
 |cons p b a=>
  simp only[Br,ei,e6];cases c:dT p.1 n with
  |true=>exact .inl (.inl (beq_eq c).symm)
  |false=>rcases a with a |a
          .exact .inl (.inr a)
          .exact .inr a
def P5{e:Type _}:∀(b:List (List e)) (q:Nat) (a:e),a∈px b q->∃c,c∈b/\a∈c
 |[],_,a,d=>by simp[px] at d
 |c::b,0,a,d=>⟨c,by simp,d⟩
 |c::b,q+1,a,d=>let ⟨h,g,f⟩:=P5 b q a d;⟨h,by simp[g],f⟩
def amT(a:List (Nat×xz))(n:Nat)(b:(a.all λp=>Nat.blt 0 p.2.sz)=true):0<(Eu a n).sz:=by
 induction a with
 |nil=>exact Nat.one_pos
 |cons p a c=>
  simp only[ec,ea] at b;simp only[Eu];cases dT p.1 n with
  |true=>exact Nat.le_of_ble_eq_true b.1
  |false=>exact c b.2
def Qa{d:Type _}{f:d->Bool}:∀(b:List (List d)) (q:Nat),(b.all λc=>c.all f)=true->(px b q).all f=true
 |[],_,_=>rfl
 |c::b,0,a=>by simp only[ec,ea] at a;exact a.1
 |c::b,q+1,a=>by simp only[ec,ea] at a;exact Qa b q a.2
def Sp(p:Nat->Prop):List Nat->Prop
 |[]=>True
 |a::b=>p a/\Sp p b
def F2{p:Nat->Prop}:∀(b:List Nat),Sp p b->∀a,a∈b->p a
 |[],_,a,c=>by simp at c
 |e::b,c,a,d=>by
  rcases e6.1 d with rfl |d
  .exact c.1
  .exact F2 b c.2 a d
def e8{b c:List Nat}(e:(b.all λa=>c.contains a)=true):∀a,a∈b->a∈c:=λa d=>by
 have:=ef.1 e a d;simpa using this
end Go.X
